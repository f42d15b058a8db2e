/- Merged out of 61 texts. -/
import Derived.Test.YtpfnhheoeaiomaaGreatDoorPac
import Derived.Shelf.SlSortCmp.NoneTotal
import Derived.Ground.SlsfProg
import Derived.Tactics
import Derived.ArgAppend
import Derived.Sort.Grow
import Derived.Deep.Draws
import Derived.Sort.Statements
import Derived.Shelf.Lay
import Derived.Tactics2
set_option maxHeartbeats 40000000
set_option maxRecDepth 100000
set_option linter.all false
open Go Go.Lg
open Go.Value renaming int->oB
open Go.IntKind renaming i64->oC
open _root_.List renaming mem_singleton->oF,replicate->oG,not_mem_nil->oH,mem_cons->oJ,range->oK,length_singleton->oL,length_append->oM,range'->oN,getD->oO,length_cons->oQ,map_cons->oT,getElem?_eq_getElem->oU,flatMap_cons->oW,length->oY,cons_append->o0,size_toArray->Oc,getElem?_append_left->Of,append_nil->On,append_assoc->Oq,mem_filter->Ow,mem_range'_1->Oy,drop_zero->OA,length_drop->OC,length_take->OD,filter_cons->OE,mem_map->OF,map_nil->OG,take_length->OH,map->OO
open _root_.Bool renaming and_eq_true->oI,false_eq_true->Oh
open _root_.Array renaming replicate->oP
open _root_.Nat renaming zero_add->oX,add_zero->Oo,mul_le_mul->Oz,le_refl->OB,lt_or_ge->OJ,sub_zero->OK,pow_succ->OL,mul_one->OM
open _root_.Option renaming map_some->Ov
open _root_.Int renaming toNat_natCast->Ox
open Go renaming World->OX,Value->OY,Operand->OZ,Program->O0
open Go.Proofs Go.Proofs.Tryz
open Go.Proofs.Tryz renaming prog->sV
variable {w w' W':OX}{L L' X ds ns av:LN}{n t i sz base T N j E m g id B kt ty G lo hi et gp bp off M:Nat}{a:QF}{l o u un al ul rs:LI}{cs us cap capt:LV}{α:Type}{y:OZ}{ve va vm z vt vl vs vk vx v' vb vr vo vu:OY}{f:Fr}{P:O0}{aa:List QF}{fn:Func}{c:CL}{s:Int}{lf:Lf}{es ed:List Ed}{K:xt}{d:xA}{pS:String}{af:xx}{gd:xj}{k':IntKind}{q:Prop}{ks:List KV}
namespace Go.Lg
theorem Qch {a b:LI}(U:Qt [] ↑w va a)(hb:Qt [] ↑w vb b)(hl:a.length+b.length<=1000):
  QT sV 84 [va,vb] w λr w'=>sW w w'/\∃l,l.length<=a.length+b.length/\(∀x,x∈l↔x∈a\/x∈b)/\Qh 3 ↑w w' r l:=by
 refine Zn func84 ?_;refine Qc<|Qb<|Ql<|Qw<|(ZT U).Y ?_;rintro v1 w1 ⟨G,I⟩;have ho:=G.size;refine Qa<|Qo<|jK I O (hb.I G) O (VJ b) oa oa λV J Y he hp=>Qb ?_;have S:Qh 3 ↑w J V (a++b):=by
  unfold Qh;rw[Lc,Lv];exact Y
 have hf:sW w J:=G.S he (λc E=>.inr (Qi I c E).1);have hq:(a++b).length=a.length+b.length:=Lc;refine Ql<|Qw<|(Qgv S oa).Y ?_;rintro r3 w3 ⟨hg,l3,hr,hh,T⟩;have hj:sW w w3:=hf.S hg (λc E=>.inr (Qi S c E).1);refine xe<|Ql<|Qw<|(Qle T oa).Y ?_;rintro r4 w4 ⟨hk,l4,hs,hm,hn⟩;refine Qb<|Qj ⟨[_],La,hj.S hk (λc E=>.inr (Qi T c E).1),l4,oa,λx=>by rw[hm,hh,Le],hn⟩
theorem zn {v:OY}(h:Qt [] ↑w v al)(hb:∀e∈al,0<=e/\e<32)(hi:YN al)(hn:ns.length=27)(S:∀n∈ns,n<256):
  QT sV 85 [v,sT (bys ns),sS 3] w λr w'=>sW w w'/\∃a:QF,Y1 ↑w ↑w' r a/\GdA a/\a.al=al:=by
 refine Zn func85 ?_;refine Qc<|Zd (bys ns) λb4 w1 hh hj E=>QP [nS,sS 0,nS,nS] λb6 w2 G hq T=>xe ?_;obtain⟨s0,hk⟩:∃s0,ns.getD 0 0=s0:=⟨_,O⟩;have U:ns[0]?=some s0:=by
  rw[<-hk,List.getD_eq_getElem?_getD,LD oa];rfl
 have hr:s0<256:=S s0 (Me U);have q0:(bys ns)[0]?=some (.int .u8 (s0:Int)):=by
  unfold bys;rw[Mq,U];rfl
 have hs:=E.lt;have ht:=T.lt;refine Qc<|Qr O (E.I G) O q0<|Qa<|x (Z9 (k':=.u8) O ⟨oa,oa⟩)<|x (qQ (a:=(s0:Int)) (b:=3) O O oa oa)<|Q7 O<|Qo<|Qv (u:=.int .u8 ((s0 % 3:Nat):Int)) (E.I G) O (OR (Value.int .u8) (by omega:(s0:Int) % 3=((s0 % 3:Nat):Int))) (by rw[Xi];omega) O λw3 I V =>
  xe ?_
 have J:sW w w3:=(hh.D G).O I hj;rw[QiP]at V;have Y:(ns.set 0 (s0 % 3)).length=27:=by rw[MR];exact hn
 have ha:(ns.set 0 (s0 % 3)).getD 0 0=s0 % 3:=Qgx oa;refine Ql<|QY V O (by rw[Xi];exact Y)<|Qw<|(Qff (h.I J) hb hi Y (QjI S oa)).Y ?_;rintro r4 w4 ⟨he,a,hA,hu,_,hl,hc⟩;obtain⟨a0,k0,k1,k2,k3⟩:=hc (by rw[ha];omega);rw[ha]at k2;obtain⟨us,hv,hf,hm⟩:=Xa hA;have ho:QK ↑w4 b6 53 [nS,sS 0,nS,nS]:=(T.J I ol).I he;have hw:=I.size;refine Qo<|Zk (us:=us) ho O (show Go.Lg.ev _ _=_ from hv) hf O hm λw5 hg hp=>xe ?_;refine Qj ⟨[sT us],⟨⟨_,O,ZB hf (hp.at (L:=[]) od).cells⟩,Z⟩,(J.D he).O hg oa,a,?_,GdA.of k0 k1 k2 k3 (Nat.mod_lt _ og),hl⟩;show Y1 _ _ (sT us) _;rw[<-hv];exact(YX hA oa hg).Y J.size
open Go.Sort
theorem QmE {b:Nat}(e:Int)(w:OX)(E:QK ↑w b T [va])(hA:Qt L ↑w va al):
  QT sV 86 ([sS e]++[sP b]) w λr w'=>r=.bool (decide (e∉al))/\w'=w:=by
 refine Zn func86 ?_;refine Qc<|Qb<|Qc<|ZA E O O<|Qa<|Qw<|(ZE hA e).Y ?_;rintro G I ⟨rfl,rfl⟩;refine x (Zh O)<|Qb<|Qj ⟨[_],La,?_,O⟩;show Value.bool (!decide (e∈al))=_;rw[decide_not]
theorem yI {b:Nat}(e:Int)(w:OX)(G:QK ↑w b T [va])(hA:Qt L ↑w va al):
  FnGives sV 86 #[sP b] #[iC e] (.bool (decide (e∉al))) w:=by
 have h:=QmE e w G hA;unfold QT at h;unfold FnGives;refine Calls.mono h λe' w' E=>?_;cases e' with
 | returned v =>
  obtain⟨rfl,rfl⟩:=E;exact⟨O,0,O⟩
 | _=>exact E.elim
theorem QgO {os:xw}{d:Array Int}:O1 [g] w (grow (putRow iC (Sort.ahead w n) g 0 d) os):=by
 have E:(grow (putRow iC (Sort.ahead w n) g 0 d) os).heap=w.heap.modify g (onCells (putCells iC 0 d))++os:=rfl;refine⟨O,O,O,?_,λi hi G=>?_⟩
 ·rw[E,Np,My];omega
 rw[E,Mv,My,OQ hi,MQ,OP (λe=>G (by simp[e]))]
theorem Qk5 {b:Nat}{v:OY}(h:Qh 3 base w v l)(hl:l.length<=1099511627776)(J:QK ↑w b T [va])(hb:b∉ob v)(hA:Qt (ob v) ↑w va al):
  QT sV 63 [v,.func (.func 86) #[] #[sP b]] w λr w'=>O1 (ob v) w w'/\Qh 3 base w' r (l.filter λx=>decide (x∈al)):=by
 have eg:∀args w,(callFunc 86 args).run sV w=.ok (.enter 86 args) w:=enters_of func86 oc O;rcases h.2 with⟨rfl,h0⟩|⟨g,cap,cur,rfl,ha,S,hh,hj,hm,hn⟩
 ·have ho:l=[]:=Lu h0;subst ho;refine Zn func63 ?_;refine Qc<|Qb<|Ql<|Qa<|Qw<|(QcM (cap:=[sP b]) (q:=λ_=>true) (Qt.fl (jO [] ↑w)) (λe G=>by cases G)).Y ?_;rintro r1 w1 ⟨rfl,U⟩;refine Qb<|Qe<|Ql<|x (Q6 O O)<|xe<|Za O (λ_=>?_) (λh8=>OS O h8);refine Ql<|Qb<|Qj ⟨[nS],La,U,Qm h U⟩
 unfold QT;have V:=λ(n:Nat) (os:xw) (d:Array Int)=>QgO (w:=w) (g:=g) (n:=n) (os:=os) (d:=d);have hp:b∉[g]:=hb;have hq:Qt [g] ↑w va al:=hA;have I:=AnyE.slices_DeleteFunc Tryz.delI iC (λ_=>O) (λx=>decide (x∉al)) 86 #[sP b] eg 0 (λw=>oc) g 0 cap l.toArray w
  (λW x E=>by
   have Y:sW w W:=⟨E.os,E.tape,E.output,E.size,λk hk _=>E.block k hk⟩;exact yI x W (J.I Y) (hA.I Y))
  (λn os dk x _=>yI x _ (J.J (V n os dk) hp) (hq.st (V n os dk)))
  (JN S hn) (by simp;omega) (ou hh)
 change Calls sV 63 _ _ _ at I;rw[LQ]at I;refine Calls.mono I λe w' G=>?_;obtain⟨rfl,q,rfl⟩:=G;have hf:(l.toArray.toList.filter λx=>!decide (x∉al))=l.filter λx=>decide (x∈al):=by
  refine List.filter_congr λx _=>?_;by_cases hx:x∈al <;> simp[hx]
 rw[hf];have hr:=LF (λx=>decide (x∈al)) l;generalize (l.filter λx=>decide (x∈al))=u at *;have:=VH (e:=3) (n:=q) (k:=u.length) (os:=#[]) (d:=(u++oG (l.length - u.length) 0).toArray) ha S (by simp;omega) hj hm od;rw[grow_empty]at this;refine⟨this.1,?_⟩;have h2:=this.2;have h3:(u++oG (l.length - u.length) 0).toArray.toList.take u.length=u:=od
 rw[h3]at h2;exact h2
theorem Qbj {e:Int}{q:Bool}(h:QT sV gp ([sS e]++cap) w λr w'=>r=.bool q/\w'=w):FnGives sV gp cap.toArray #[iC e] (.bool q) w:=by
 unfold QT at h;unfold FnGives;have e0:#[iC e]++cap.toArray=([iC e]++cap).toArray:=od
 rw[e0];refine Calls.mono h λe' w' E=>?_;cases e' with
 | returned v =>
  obtain⟨rfl,rfl⟩:=E;exact⟨O,0,O⟩
 | _=>exact E.elim
theorem Qes [Fu sV gp fn]{p:Int->Bool}{v:OY}(eg:∀args w,(callFunc gp args).run sV w=.ok (.enter gp args) w)(h:Qh 3 base w v l)(hl:l.length<=1099511627776)
  (G:∀(e:Int) (W:OX),O1 (ob v) w W->QT sV gp ([sS e]++cap) W λr w'=>r=.bool (p e)/\w'=W):
  QT sV 63 [v,.func (.func gp) #[] cap.toArray] w λr w'=>O1 (ob v) w w'/\Qh 3 base w' r (l.filter λx=>!p x):=by
 rcases h.2 with⟨rfl,Y⟩|⟨g,cp,cur,rfl,ha,S,hh,hj,hm,hn⟩
 ·have ho:l=[]:=Lu Y;subst ho;refine Zn func63 ?_;refine Qc<|Qb<|Ql<|Qa<|Kr<|(QcM (cap:=cap) (q:=λ_=>true) (Qt.fl (jO [] ↑w)) (λe I=>by cases I)).Y ?_;rintro r1 w1 ⟨rfl,T⟩;refine Qb<|Qe<|Ql<|x (Q6 O O)<|xe<|Za O (λ_=>?_) (λh8=>OS O h8);refine Ql<|Qb<|Qj ⟨[nS],La,T,Qm h T⟩
 unfold QT;have hp:=λ(n:Nat) (os:xw) (d:Array Int)=>QgO (w:=w) (g:=g) (n:=n) (os:=os) (d:=d);have U:∀(e:Int) (W:OX),O1 [g] w W->QT sV gp ([sS e]++cap) W λr w'=>r=.bool (p e)/\w'=W:=G;have J:=AnyE.slices_DeleteFunc Tryz.delI iC (λ_=>O) p gp cap.toArray eg 0 (λw=>oc) g 0 cp l.toArray w
  (λW x E=>Qbj (U x W ⟨E.os,E.tape,E.output,E.size,λk G _=>E.block k G⟩))
  (λn os dk x _=>Qbj (U x _ (hp n os dk)))
  (JN S hn) (by simp;omega) (ou hh)
 change Calls sV 63 _ _ _ at J;rw[LQ]at J;refine Calls.mono J λe w' I=>?_;obtain⟨rfl,q,rfl⟩:=I;have hf:(l.toArray.toList.filter λx=>!p x)=l.filter λx=>!p x:=rfl;rw[hf];have hq:=LF (λx=>!p x) l;generalize (l.filter λx=>!p x)=u at *;have:=VH (e:=3) (n:=q) (k:=u.length) (os:=#[]) (d:=(u++oG (l.length - u.length) 0).toArray) ha S (by simp;omega) hj hm od;rw[grow_empty]at this;refine⟨this.1,?_⟩;have V:=this.2;have h3:(u++oG (l.length - u.length) 0).toArray.toList.take u.length=u:=od
 rw[h3]at V;exact V
theorem yq {V:je}(h:jf ↑w V):
  QT sV 60 [.pointer (some ⟨V.b,0,none⟩)] w λr w'=>sW w w'/\Qh 3 ↑w w' r (kpt V.a V.o):=by
 refine Zn func60 ?_;refine Qc<|Zd [.pointer (some ⟨V.b,0,none⟩)] λY w1 G hc I=>Qb ?_;have E:=h.I G;refine Qc<|ZA I O O<|Z0 O<|Q7 O<|Qr O E.blk O O<|Qw<|(ZT E.a.al).Y ?_;rintro v2 w2 ⟨J,S⟩;have hge:=Qi S;refine x (Zl (l:=[]) (l':=[.tmp 1]))<|Qw<|(Qes (gp:=138) (cap:=[sP Y]) (p:=λe=>!decide (e∈V.o)) (enters_of func138 oc O) S E.a.al.le
  (λe W hW=>have T:=J.S hW λb hb=>.inr (hge b hb).1;Qcf (E.I T) (I.I T) e)).Y ?_
 rintro v3 w3 ⟨ha,U⟩;refine Qb ?_;have e:(V.a.al.filter λx=>!!decide (x∈V.o))=kpt V.a V.o:=by unfold kpt;simp
 rw[e]at U;exact Qj ⟨[_],La,G.D (J.S ha λb hb=>.inr (hge b hb).1),Q8 U G.size⟩
theorem Qf1 {b:Nat}{v:Int}(G:QK ↑w b 3 [sS v])(e:Ed):
  QT sV 210 [sT (Qp e),sP b] w λr w'=>r=.bool (decide (e.2.1=v))/\sW w w':=by
 refine Zn func210 ?_;refine Qc<|Zd (Qp e) λJ S E T I=>Qb<|Qc<|Qr O I O O<|ZA (G.I E) O O<|x (Q6 O O)<|Qb<|Qj ⟨[_],La,O,E⟩
theorem Qnu [Fu sV gp fn]{q:Ed->Bool}{v:OY}{l:List Ed}(h:Ua L ↑w v l)
  (G:∀(e:Ed) (E:OX),sW w E->QT sV gp ([sT (Qp e)]++cap) E λr w'=>r=.bool (q e)/\sW E w'):
  QT sV 209 [v,.func (.func gp) #[] cap.toArray] w λr w'=>r=.bool (l.any q)/\sW w w':=by
 refine Zn func209 ?_;refine Qc<|Qb<|Ql<|Qa<|Kr<|(ixG (c:=Qp) ⟨_,O,func159⟩ (λ_=>O) (ldA λ_=>O) h λe _=>G e).Y ?_;rintro J E ⟨rfl,I⟩;refine x (Yd O O)<|Qb<|Qj ⟨[_],La,OR Value.bool (VY q l 0),I⟩
theorem Qf2 {V:je}{b c:Nat}{v:Int}(h:jf ↑w V)(S:QK ↑w c 128 [.pointer (some ⟨V.b,0,none⟩)])(T:QK ↑w b 3 [sS v])(s:Int)(h0:0<=s)(h1:s<V.a.st):
  QT sV 208 [sS s,sP c,sP b] w λr w'=>r=.bool ((QS V.a.ed s).any λe=>decide (e.2.1=v))/\sW w w':=by
 obtain⟨rv,hA,hE⟩:=h.r;have G:s=(s.toNat:Int):=oa
 have E:s.toNat<(oK V.a.st.toNat).length:=by rw[L4];omega
 have I:=hE s.toNat (by rw[L4]at E;exact E);rw[<-G]at I;refine Zn func208 ?_;refine Qc<|Qb<|Qc<|ZA S O O<|Z0 O<|Qr O h.blk O O<|Qa<|O4 (g:=λj:Nat=>[rv j]) (i:=s.toNat) (λ_=>O) hA O (show Go.Lg.ev _ _=_ from OR sS G) E λha J=>?_;rw[MB]at J;refine x (Qq J O)<|x (Zl (l:=[]) (l':=[.tmp 2]))<|Qw<|(Qnu (q:=λe=>decide (e.2.1=v)) (cap:=[sP b]) I (λe w1 U=>Qf1 (T.I U) e)).Y ?_;rintro r2 w2 ⟨rfl,Y⟩;refine Qb<|Qj ⟨[_],La,O,Y⟩
theorem Qax {V:je}{b c:Nat}{v:Int}(h:jf ↑w V)(I:QK ↑w c 128 [.pointer (some ⟨V.b,0,none⟩)])(J:QK ↑w b 3 [sS v])(S:Qt [] ↑w vl l)(hb:∀s∈l,0<=s/\s<V.a.st):
  QT sV 207 [vl,sP c,sP b] w λr w'=>r=.bool (psb V.a v l)/\sW w w':=by
 refine Zn func207 ?_;refine Qc<|Qb<|Ql<|x (Zl (l:=[]) (l':=[.tmp 1,.tmp 2]))<|Qw<|(Qc8 (q:=λs=>(QS V.a.ed s).any λe=>decide (e.2.1=v)) (cap:=[sP c,sP b]) (Qt.fl S) (λs G U E=>Qf2 (h.I E) (I.I E) (J.I E) s (hb s G).1 (hb s G).2)).Y ?_;rintro r2 Y ⟨rfl,T⟩;refine Qb<|Qj ⟨[_],La,O,T⟩
theorem Qf4 {V:je}{c:Nat}{vy:OY}{X Y:LI}(h:jf ↑w V)(I:QK ↑w c 128 [.pointer (some ⟨V.b,0,none⟩)])(hx:Qt [] ↑w vx X)(J:Qt [] ↑w vy Y):
  QT sV 205 [vx,vy,sP c] w λr w'=>r=.bool (QaS V.a X Y)/\sW w w':=by
 refine Zn func205 ?_;refine Qc<|Qb<|QV (α:=Unit) [(5,14)] (λ_=>[(5,.bool (QaS V.a X Y))]) (λ_ w'=>sW w w') oh ?_ ?_
 ·refine Qs<|ZA I O O<|Qa<|Qw<|(yp h hx).Y ?_;rintro U w1 ⟨G,E⟩;unfold QaS;cases hb:mkd V.a X with
  | true =>
   rw[hb]at G;subst G;refine Qa<|ZA (I.I E) O O<|Qa<|Qw<|(yp (h.I E) (J.I E)).Y ?_;rintro r2 w2 ⟨rfl,S⟩;refine x (Zh O)<|QA O<|Qb<|⟨(),La,E.D S⟩
  | false =>
   rw[hb]at G;subst G;refine Qa<|Zy<|J0<|QA O<|Qb<|⟨(),La,E⟩
 rintro _ g w3 T;exact Qj ⟨[_],La,O,T⟩
instance:Bw sV 46 [nS,nS,nS,nS,nS] [(0,1),(1,1),(2,1),(3,1),(4,1)]:={}
end Go.Lg
namespace Go.Proofs
open Go.Proofs.Tryz
open Go.Shelf
def Tryz.sortRm_ren:Go.Shelf.Ren:=⟨λ|6=>224|15=>141|14=>265|28=>220|29=>221|20=>287|21=>288|22=>289|23=>290|24=>291|25=>292|26=>293|27=>294|46=>311|47=>258|48=>259|49=>312|50=>313|57=>322|n=>n,λ|22=>144|24=>323|25=>329|3=>3|39=>246|0=>0|53=>317|55=>319|4=>4|46=>311|45=>310|50=>205|5=>5|9=>9|66=>363|70=>367|76=>389|77=>379|n=>n,λ|n=>n⟩
theorem Tryz.sortRm:Go.Proofs.SlLaysF0.n6 sV Tryz.sortRm_ren:=lyS
end Go.Proofs
namespace Go.Lg
open Go.Lg Go.Sort
abbrev Rz:={ x:Int×Int×Int×Int // 0<=x.1/\x.1<4096 }
instance:Inhabited Rz:=⟨⟨(0,0,0,0),og⟩⟩
abbrev U2 (x:Rz):LV:=[sS x.1.1,sS x.1.2.1,sS x.1.2.2.1,sS x.1.2.2.2]
abbrev RzO (base:Nat)(w:OX)(v:OY)(l:List Rz):Prop:=w.ownsRow base 323 4 v l.length (l.flatMap U2)
theorem QoQ (x y:Rz)(W:OX):Calls sV 225 #[sT (U2 x),sT (U2 y)] W λe w'=>e=.returned (sS (x.1.1 - y.1.1))/\∃q os',w'=grow (W.drewN q) os':=by
 have E:IntKind.i64.wrap (x.1.1 - y.1.1)=x.1.1 - y.1.1:=Xu ⟨oq x.2 y.2,oq x.2 y.2⟩
 go_enter func225,ntmps225
 go_wp2
 go_ret;exact⟨by rw[<-E];rfl,0,_,by rw[alloc_eq_grow,alloc_eq_grow,grow_grow];rfl⟩
theorem jv (x:Rz):(U2 x).length=4:=rfl
theorem ju:∀l:List Rz,(l.flatMap U2).length=l.length*4
 | []=>rfl
 | x::l=>by rw[LK,Lc,ju l,jv,LL];omega
theorem QdN {l:List Rz}(J:j<l.length*4):(l.flatMap U2)[j]?=some ((flatK U2 4 l.toArray)[j]!):=by
 have E:j / 4<l.length:=Nat.div_lt_of_lt_mul oa;have G:j % 4<4:=Nat.mod_lt _ og;rw[get_flatK _ _ _ _ (ou J)];have S:(l.flatMap U2)[j]?=(U2 (l[j / 4]'E))[j % 4]?:=by
  rw[<-(XX U2 4 jv l (j / 4) E),LW,OQ G,MJ];congr 1;omega
 rw[S];have T:(l.toArray)[j / 4]! = l[j / 4]'E:=by simp[E]
 rw[T];have I:j % 4<(U2 (l[j / 4]'E)).length:=G;exact(LD I).D (OR some (getElem!_pos (U2 (l[j / 4]'E)) (j % 4) I).symm)
theorem Qgy:SWO (ltOf λx y:Rz=>x.1.1 - y.1.1) where
 irrefl x:=by unfold ltOf;simp
 trans x y z h1 h2:=by unfold ltOf at *;simp at *;omega
 ntrans x y z h1 h2:=by unfold ltOf at *;simp at *;omega
def U1 (l:List Rz):List Rz:=(pdq (ltOf λx y:Rz=>x.1.1 - y.1.1) l.toArray 0 l.toArray.size (Go.Lib.bitLen l.toArray.size) true true).toList
theorem qI (l:List Rz):(U1 l).length=l.length:=by
 unfold U1;simpa using((pdq_sorts (ltOf λx y:Rz=>x.1.1 - y.1.1) Qgy l.toArray 0 l.toArray.size (Go.Lib.bitLen l.toArray.size) true true (Ln _) (Lp _) (Or.inl rfl)).1.1)
theorem QeR {v:OY}{l:List Rz}(h:RzO base w v l)(hl:l.length<=1099511627776):
  QT sV 224 [v,.func (.func 225) #[] #[]] w λ_ w'=>O1 (ob v) w w'/\RzO base w' v (U1 l):=by
 unfold QT;rcases h.2 with⟨rfl,h0⟩|⟨g,cap,cur,rfl,hf,J,hh,hm,ho,hp⟩
 ·have hq:l=[]:=Lu h0;subst hq;have I:=AnyF.slices_SortFunc_none Tryz.sortRm none 0 (.func (.func 225) #[] #[]) w;change Calls sV 224 _ _ _ at I;refine Calls.mono I λe w' S=>?_;obtain⟨rfl,rfl⟩:=S;rw[show U1 []=[] from Lu (qI [])];exact⟨O1.Z _ _,h⟩
 have Y:g<w.heap.size:=(LJ.1 J).1;have hH:HoldsK U2 4 w g 0 l.toArray:=by
  intro j E;rw[size_flatK,LQ]at E;have h1:=QdN E;rw[<-hp,LW,OQ E]at h1;constructor
  ·show(match w.heap[g]? with|some (.cells c _ _)=>if(none:Option _).isSome then none else c[0+j]?|_=>none)=_
   rw[J];simp only[oX,Option.isSome_none,Oh,if_false];rw[<-ME,h1];rfl
  show(match w.heap[g]? with|some (.cells _ _ (lo,hi))=>decide (lo<=0+j) && decide (0+j<hi)|_=>false)=false
  rw[J];simp
 have eg:∀args w,(callFunc 225 args).run sV w=.ok (.enter 225 args) w:=enters_of func225 oc O;have I:=AnyQ.slices_SortFunc_eq Tryz.sortRm 4 isAgg323 sizeOf323 U2 jv (λx v hv=>by simp at hv;rcases hv with rfl|rfl|rfl|rfl <;> rfl) (λx y=>x.1.1 - y.1.1) Qgy 225 #[] g 0 cap l.toArray w eg (λm os dk _ x y=>QoQ x y _) hH Y (by simp;omega)
 change Calls sV 224 _ _ _ at I;rw[LQ]at I;refine Calls.mono I λe w' S=>?_;obtain⟨rfl,n,os,rfl⟩:=S;refine Zf (U1 l).toArray λG T=>?_;have U:G.size=l.length:=by rw[<-T];simpa using qI l
 have hr:U1 l=G.toList:=by rw[<-T]
 have ha:pdq (ltOf λx y:Rz=>x.1.1 - y.1.1) l.toArray 0 l.toArray.size (Go.Lib.bitLen l.toArray.size) true true=G:=by rw[<-T];unfold U1;simp
 rw[LQ]at ha;rw[ha,hr];have V:(sortWorldK U2 4 w g 0 n G os).heap=w.heap.modify g (onCells (putCells id 0 (flatK U2 4 G)))++os:=rfl;refine⟨⟨rfl,O,O,?_,λk hk hn=>?_⟩,?_⟩
 ·rw[V,Np,My];omega
 ·rw[V,Mv,My,OQ hk,MQ,OP (λe=>hn (by simp[ob,e]))]
 refine⟨ju _,.inr ⟨g,cap,putCells id 0 (flatK U2 4 G) cur,by simp[U],hf,?_,by simp[U];exact hh,hm,by simp[putCells,ho],?_⟩⟩
 ·rw[V,Mv,My,OQ Y,MQ,OQ rfl,J];rfl
 apply Nq;intro j;rw[LW];by_cases E:j<G.toList.length*4
 ·rw[OQ E,QdN E,ME];have hs:j<cur.size:=by simp[U]at E;omega
  have ht:j<(flatK U2 4 G).size:=by simpa using E
  simp only[putCells,Array.getElem?_mapIdx,Array.getElem?_eq_getElem hs,Ov,Nat.zero_le,oX,true_and,OQ ht,OK,id]
 rw[OP E,Mn];rw[ju];omega
theorem Qmx (G:Zb a)(S:a.st=(n:Int))(T:lf.length=n):∀x∈nxs a ul lf,0<=x/\x<(n:Int):=λx hx=>by
 have E:=Qhh x hx;have U:x.toNat<n:=by
  refine Decidable.byContradiction λh=>?_;unfold lft at E;simp[oO,List.getElem?_eq_none (show lf.length<=x.toNat by omega)]at E
 unfold nxs at hx;split at hx
 ·obtain⟨p,I,rfl⟩:=Lz.1 hx;obtain⟨_,e,J,V,_⟩:=(jQ a ul lf).1 p I;have:=G.ed e J;omega
 have:=((V6 lf (dsts a lf) 0).1 x hx).2;omega
abbrev Q4:=Int×Int×Int×Int
abbrev q4C (x:Q4):LV:=[sS x.1,sS x.2.1,sS x.2.2.1,sS x.2.2.2]
def Ql9 (x:Q4):Rz:=if h:0<=x.1/\x.1<4096 then⟨x,h⟩else default
theorem QaC:∀l:List Rz,(l.map (·.1)).map Ql9=l
 | []=>rfl
 | x::l=>by
  rw[LU,LU,QaC l];congr 1;unfold Ql9;rw[dif_pos x.2]
theorem QkR (l:List Rz):(l.map (·.1)).flatMap q4C=l.flatMap U2:=by rw[List.flatMap_map]
def rmR (rk:Int)(r:Int×xq):List Q4:=r.2.map λp=>(p.1,rk,r.1,p.2)
def rmL (a:QF)(ul:LI):Nat->Int->Lf->List Q4
 | 0,_,_=>[]
 | f+1,rk,lf=>if(nxs a ul lf).length=0 then[]else rmR rk (nxR a ul lf)++rmL a ul f (rk+1) ((nxs a ul lf).foldl cut lf)
theorem QgC {f:Nat}{rk:Int}(h:(nxs a ul lf).length=0):rmL a ul f rk lf=[]:=by
 cases f with
 | zero=>rfl
 | succ f=>rw[rmL,OQ h]
theorem QgB {f:Nat}{rk:Int}(h:(nxs a ul lf).length≠0):rmL a ul (f+1) rk lf=rmR rk (nxR a ul lf)++rmL a ul f (rk+1) ((nxs a ul lf).foldl cut lf):=by rw[rmL,OP h]
def rmF (fb:LI):List Q4:=fb.map λy=>(y,1,1,-1)
def rmA (a:QF)(fb ul:LI):List Q4:=rmF fb++rmL a ul (a.st.toNat+1) 2 (lf0 a.st.toNat fb)
def rmS (a:QF)(fb ul:LI):List Q4:=(U1 ((rmA a fb ul).map Ql9)).map (·.1)
def kpI (lf:Lf)(n:Nat):LN:=(oK n).filter λi=>lf.getD i false
def kpK (lf:Lf)(n:Nat):LI:=(kpI lf n).map λi:Nat=>(i:Int)
def kpD (lf:Lf)(D:LI)(n:Nat):LI:=(kpI lf n).map λi=>O2 D i
theorem Qoy (h:lf.getD n false=true):kpI lf (n+1)=kpI lf n++[n]:=by
 unfold kpI;rw[Nf,LR,L6,OQ h];rfl
theorem Qoz (h:lf.getD n false=false):kpI lf (n+1)=kpI lf n:=by
 unfold kpI;rw[Nf,LR,L6,OP (by rw[h];decide)];exact LH _
structure Qaq (L:LN)(H:xw)(c0 c1 c2:OY)(a:QF)(fb ul:LI):Prop where
 k:Qt L H c0 (kpK (Qct a fb ul) a.st.toNat)
 d:Qt L H c1 (kpD (Qct a fb ul) (dsts a (Qct a fb ul)) a.st.toNat)
 r:Zs L H c2 (rmS a fb ul).length 4 ((rmS a fb ul).flatMap q4C)
theorem Qaq.st {L:LN}{w w':OX}{c0 G I:OY}{a:QF}{fb ul:LI}(h:Qaq L ↑w c0 G I a fb ul)(E:O1 L w w'):Qaq L ↑w' c0 G I a fb ul:=⟨h.k.st E,h.d.st E,h.r.st E⟩
theorem Qaq.up {L L':LN}{H:xw}{c0 G I:OY}{a:QF}{fb ul:LI}(h:Qaq L H c0 G I a fb ul)(E:∀b∈L',b∈L\/H.size<=b):Qaq L' H c0 G I a fb ul:=⟨h.k.up E,h.d.up E,h.r.up E⟩
theorem QlG {rk rs:Int}:∀(l:xq),(∀x∈l.map (·.1),0<=x/\x<4096)->∃lz:List Rz,lz.flatMap U2=l.flatMap (rmC rk rs)/\lz.length=l.length/\lz.map (·.1)=rmR rk (rs,l)
 | [],_=>⟨[],O,O,O⟩
 | x::l,h=>by
  obtain⟨lz,E,G,I⟩:=QlG (rk:=rk) (rs:=rs) l (λy J=>h y (Lm _ J));exact⟨⟨(x.1,rk,rs,x.2),h x.1 Lo⟩::lz,by rw[LK,LK,E],by simp[G],by rw[LU,I];rfl⟩
theorem QdZ:∀l:List Rz,∀u∈l.flatMap U2,u.oneCell'=true
 | [],u,h=>by cases h
 | x::l,u,h=>by
  rw[LK,Le]at h;rcases h with h|h
  ·simp only[U2,oJ,oH,or_false]at h;rcases h with rfl|rfl|rfl|rfl <;> rfl
  exact QdZ l u h
theorem RzO.snoc {v:OY}{l m:List Rz}(h:w.ownsRow base 323 4 v (l.length+m.length) (l.flatMap U2++m.flatMap U2)):RzO base w v (l++m):=by
 unfold RzO;rw[Lc,LC];exact h
abbrev Kk (k d r:OY)(n:Int):LV:=[k,d,r,sS n,nS,sS 0,nS,nS,nS]
structure ReI (b10:Nat)(q:Pz)(wB:OX)(lf:Lf)(rn:Int)(vr:OY)(lz:List Rz)(w:OX):Prop where
 st:O1 [b10,q.bl] wB w
 B10:QK ↑w b10 148 (Kk (nS) (nS) vr rn)
 R:RzO ↑wB w vr lz
 F:QK ↑w q.bl 4 (lf.map Value.bool)
 n:lf.length=q.n
section
variable {b10:Nat}{q:Pz}{wB w'':OX}{rn:Int}{lz:List Rz}
theorem ReI.I (h:ReI b10 q wB lf rn vr lz w)(E:sW w w'):ReI b10 q wB lf rn vr lz w':=⟨h.st.D E,h.B10.I E,Qm h.R E,h.F.I E,h.n⟩
theorem ReI.cut (h:ReI b10 q wB lf rn vr lz w)(l:q.bl<↑wB)(ne:b10≠q.bl)(E:O1 [q.bl] w w'){G:Lf}(I:QK ↑w' q.bl 4 (G.map Value.bool))(J:G.length=q.n):ReI b10 q wB G rn vr lz w' :=
 ⟨h.st.S E (λb hb=>.inl (by simp only[oF]at hb;simp[hb])),h.B10.J E (ou ne),Qg h.R E (λb hb=>by have:=(Qi h.R b hb).1;simp only[oF];omega),I,J⟩
theorem ReI.app (h:ReI b10 q wB lf rn vr lz w)(l:q.bl<↑wB)(U:b10<wB.heap.size)(ne:b10≠q.bl){E:OY}{I:List Rz}{J:Int}(S:O1 (ob vr) w w')(hR:RzO ↑wB w' E I)(G:O1 [b10] w' w'')
  (T:QK ↑w'' b10 148 (Kk (nS) (nS) E J)):ReI b10 q wB lf J E I w'':=by
 have hge:=Qi h.R;exact⟨(h.st.S S (λb hb=>.inr (hge b hb).1)).S G (λb hb=>.inl (by simp only[oF]at hb;simp[hb])),T,Qg hR G (λb hb=>by have:=(Qi hR b hb).1;simp only[oF];omega),
  (h.F.J S (λhb=>oo (hge _ hb).1)).J G (ou ne.symm),h.n⟩
theorem ReI.rounds (h:ReI b10 q wB lf rn vr lz w)(J:b10<wB.heap.size)(ne:b10≠q.bl){G:Int}(E:O1 [b10] w w')(I:QK ↑w' b10 148 (Kk (nS) (nS) vr G)):ReI b10 q wB lf G vr lz w' :=
 ⟨h.st.S E (λb hb=>.inl (by simp only[oF]at hb;simp[hb])),I,Qg h.R E (λb hb=>by have:=(Qi h.R b hb).1;simp only[oF];omega),h.F.J E (ou ne.symm),h.n⟩
end
theorem QeX {vf:OY}{forb unc:LI}(h:Zr [] ↑w va vm ve a)(h5:Zb a)(hf:Qt [] ↑w vf forb)(ke:∀x∈forb,0<=x/\x<a.st)(hfl:forb.length<=4096)(hu:Qt [] ↑w vu unc):
  QT sV 143 [.agg #[va,sS a.st,vm,ve],vf,vu,.bool true] w λr w'=>sW w w'/\∃c0 c1 c2 c3 sa sm se o,r=.agg #[c0,c1,c2,c3,sa,sS (jo a forb unc).st,sm,se,o] /\
   ZH [c0,c1,c2,c3,o]/\∀L:LN,(∀b∈L,b<↑w)->Zr L ↑w' sa sm se (jo a forb unc)/\Qaq L ↑w' c0 c1 c2 a forb unc:=by
 have hst0:=h5.st0;have hst1:=h5.st1;obtain⟨n,hn⟩:∃n:Nat,a.st=n:=⟨a.st.toNat,oa⟩;have h6:a.st.toNat=n:=oa
 have hQ:jo a forb unc=Qcl a (qO a unc (n+1) (lf0 n forb)):=by unfold jo Qct;rw[h6]
 have mu:rmA a forb unc=rmF forb++rmL a unc (n+1) 2 (lf0 n forb):=by unfold rmA;rw[h6]
 have gj:Qct a forb unc=qO a unc (n+1) (lf0 n forb):=by unfold Qct;rw[h6]
 refine Zf (jo a forb unc) λSA mv=>?_;rw[mv]at hQ ⊢;refine Zn func143 ?_;refine Qc<|Zd [va,sS a.st,vm,ve] λb4 w1 kf hb4 mw=>QP (Kk (nS) (nS) (nS) 0) λb8 w2 kg hb8 kh=>xe ?_;have hR:=kf.D kg;have hl8:=kh.lt;have hz1:=kf.size;refine Qc<|QY (mw.I kg) O O<|Qa<|Qa<|Qw<|(Qgr (h.I hR) h5 hn (hf.I hR) ke (hu.I hR)).Y ?_;rintro r3 w3 ⟨ki,bp,q,rfl,my,mz,m0,hbl,hP,hF⟩;refine Qb ?_;subst my mz m0;have hq:PzQ q:=⟨h5,hn⟩;have m1:=hR.D ki;have hlF:=hF.lt;refine Qc<|QP (Kk (nS) (nS) (nS) 0) λb10 J h7 m2 kj=>xe ?_;have gk:=m1.D h7;have hz4:=h7.size;have hS:=kj.lt;have hp:b10≠q.bl:=oa
 have gl:q.bl<J.heap.size:=oa
 have m3:PzA [b10,q.bl] ↑J bp q:=(hP.up (λb hb=>by
  simp only[oJ,oH,or_false]at hb;rcases hb with rfl|rfl
  ·exact .inr m2
  exact .inl od)).I h7
 have m4:=Qkr q.n forb;have h8:∀{w'},O1 [b10,q.bl] J w'->PzA [] ↑w' bp q:=λhs=>(m3.st hs).up od;refine Qe<|Ql<|QG (hf.I gk) O<|Qa<|xe<|QW (α:=Nat×Int×OY×List Rz) [(12,12),(25,39)] (λz=>[(25,sS z.1)]) (λz w'=>z.1<=forb.length/\ReI b10 q J (lf0 q.n forb) z.2.1 z.2.2.1 z.2.2.2 w'/\z.2.2.2.length=z.1/\(z.2.1=0\/z.2.1=1)/\z.2.2.2.map (·.1)=rmF (forb.take z.1)) (λz=>forb.length - z.1) (0,0,nS,[]) La
  ⟨Ln _,⟨O1.Z _ _,kj,QM _ _ _ _,hF.I h7,m4⟩,O,.inl O,O⟩ ?_
 rintro⟨k,rn,vr,lz⟩ g w5 ⟨hk,hI,gm,hT,hU⟩;simp only[]at hk hI gm hT hU;have m5:Qt [] ↑w5 vf forb:=((hf.up (L':=[b10,q.bl]) (λb hb=>by
  simp only[oJ,oH,or_false]at hb;exact .inr oa)).I gk |>.st hI.st).up od
 refine Zi rfl O (λgn=>?_) (λgn=>?_)
 ·refine Qu ?_;have hcl:=Qk8 (lf0 q.n forb);have m6:forb.length<=k:=by have hV:¬(k:Int)<(forb.length:Int):=gn;omega
  rw[Lq m6]at hU;refine Qe<|Qc<|Qb<|QW (α:=Nat×Nat×Int×OY×List Rz×Lf) [(13,14),(16,16),(40,71)] (λz=>[(13,sS z.2.1)])
   (λz w'=>ReI b10 q J z.2.2.2.2.2 z.2.2.1 z.2.2.2.1 z.2.2.2.2.1 w'/\z.2.1+z.1=q.n+3/\z.2.2.2.2.1.length<=4096+z.2.1*1000000/\qO q.a q.unc z.1 z.2.2.2.2.2=qO q.a q.unc (q.n+1) (lf0 q.n forb)/\Vi z.2.2.2.2.2+1<=z.1/\z.2.2.2.2.1.map (·.1)++rmL q.a q.unc z.1 (z.2.1:Int) z.2.2.2.2.2=rmA q.a forb q.unc) (λz=>z.1) (q.n+1,2,rn,vr,lz,lf0 q.n forb) La ⟨hI,oe,oe,O,oe,by rw[mu];simp only[hU];rfl⟩ ?_
  rintro⟨f,rank,rn,vr,lz,lf⟩ g w6 ⟨hI,m7,gm,h9,m8,hA⟩;simp only[]at hI m7 gm h9 m8 hA;refine Qe<|Qn<|Ql<|Qa<|Qa<|Qw<|(QgY (h8 hI.st) hq hI.F hI.n rank).Y ?_;rintro r7 w7 ⟨hW,hB,kk⟩;have hg:=Qkc q.a q.unc lf;have kn:=λ(f:Nat) (h:(nxs q.a q.unc lf).length≠0)=>QgB (a:=q.a) (ul:=q.unc) (f:=f) (rk:=(rank:Int)) (lf:=lf) h;refine Zf (nxR q.a q.unc lf) λNR m9=>?_;rw[m9]at hB kk hg kn;obtain⟨rs,l⟩:=NR;simp only[]at hB kk hg;refine Qb ?_;have T:=hI.I hW;have ko:Zs [] ↑w7 r7 l.length 4 (l.flatMap (rmC rank rs)):=QN hB oa od;have go:(nxs q.a q.unc lf).length=l.length:=by rw[<-hg,Lj]
  have gq:=Qmx (ul:=q.unc) h5 hn hI.n;rw[<-hg]at gq;refine Qe<|Ql<|QG ko O<|x (Q6 O O)<|xe<|Za O (λgr=>?_) (λgr=>?_)
  ·refine Qu ?_;have hC:l.length=0:=by have h49:(l.length:Int)=0:=gr;omega
   rw[QeZ (by rw[go];exact hC)]at h9;rw[QgC (by rw[go];exact hC),LH]at hA;rw[<-h9]at hQ gj;refine Qc<|Q7 O<|Qr O T.B10 O O<|Qw<|(QeR T.R oa).Y ?_;rintro r8 U ⟨ha,gs⟩;have pc:rmS q.a forb q.unc=(U1 lz).map (·.1):=by unfold rmS;rw[<-hA,QaC]
   refine xe ?_;have hge:=Qi T.R;have gt:O1 [b10,q.bl] J U:=T.st.S ha (λb hb=>.inr (hge b hb).1);have gu:QK ↑U b10 148 (Kk (nS) (nS) vr rn):=T.B10.J ha (λhb=>oo (hge _ hb).1);have kp:QK ↑U q.bl 4 (lf.map Value.bool):=T.F.J ha (λhb=>oo (hge _ hb).1);have kq:=Qz gs;have hz8:=gt.size;refine Qe<|Ql<|Qw<|(V0 (h8 gt) hq kp T.n).Y ?_;rintro r9 G ⟨V,bD,rfl,hbD,kr,hX⟩;refine Zf (dsts q.a lf) λD hD=>?_;rw[hD]at kr hX;have kt:Qt [b10] ↑G (sL bD q.n q.n) D:=by
    have S:=kr.arr (L:=[b10]) ol (n:=q.n) (cap:=q.n) (sz:=1) (by simp[hX]) oa (Lp _);unfold Qt;rw[hX];exact S
   have pd:=gt.D V;have hz9:=V.size;have pf:=kp.I V;refine QG kt O<|Qa<|xe<|QW (α:=Nat×OY×OY×LI×LI) [(17,18),(79,107)] (λz=>[(79,sS z.1)])
    (λz w'=>z.1<=D.length/\O1 [b10] G w'/\QK ↑w' b10 148 (Kk z.2.1 z.2.2.1 vr rn)/\Qh 3 ↑G w' z.2.1 z.2.2.2.1/\Qh 3 ↑G w' z.2.2.1 z.2.2.2.2/\Dj z.2.1 z.2.2.1/\z.2.2.2.1.length<=z.1/\z.2.2.2.2.length<=z.1/\z.2.2.2.1=kpK lf z.1/\z.2.2.2.2=kpD lf D z.1) (λz=>D.length - z.1) (0,nS,nS,[],[]) La
    ⟨Ln _,O1.Z _ _,gu.I V,QM _ _ _ _,QM _ _ _ _,Dj.nil' _,Lp _,Lp _,O,O⟩ ?_
   rintro⟨i,vk,vd,lk,ld⟩ g hE ⟨hi,Y,hG,hK,hh,hY,pg,hld,hZ,ga⟩;simp only[]at hi hG hK hh hY pg hld hZ ga;have hz10:=Y.size;have gb:O1 [b10,q.bl] J hE:=pd.S Y (λb hb=>.inl (by simp only[oF]at hb;simp[hb]));have ku:QK ↑hE q.bl 4 (lf.map Value.bool):=pf.J Y (ou hp.symm);refine Zi O O (λgv=>?_) (λgv=>?_)
   ·refine Qu<|Ql<|Qw<|(qV (h8 gb) hq ku T.n).Y ?_;rintro r11 ph ⟨hl,_,o,rfl,⟨sa,sm,se,rfl,gx⟩,gy⟩;rw[<-hQ]at gx;have hr:=gx [] od;refine Qa<|QL O O<|QL O O<|Q7 O<|Qo<|JO (us:=[sa,sS SA.st,sm,se]) (hG.I hl) O (by rw[<-hQ];rfl) O od ⟨hr.al.one,rfl,hr.mr.one,hr.ed.one,Z⟩ rfl λw12 gc pj =>
     Q7 rfl<|Qo<|Qv (j:=8) (u:=o) pj O O od gy λw13 ge pn=>xe ?_
    have po:b8∉[b10,q.bl]:=by simp only[oJ,oH,or_false];omega
    have kv:b8∉[b10]:=ol
    have pp:=(((((kh.I (ki.D h7)).J gb po).I hl).J gc kv).J ge kv);refine Qc<|QY pn O O<|Q0 [vk,vd,vr,sS rn,sa,sS SA.st,sm,se,o] pp ⟨Qz hK,Qz hh,kq,O,hr.al.one,O,hr.mr.one,hr.ed.one,gy,Z⟩ λpt gz pu=>xe ?_;have pw:∀b∈[b10,q.bl],↑w<=b:=λb hb=>by simp only[oJ,oH,or_false]at hb;omega
    have pz:sW w pt:=((((gk.S gb (λb hb=>.inr (pw b hb))).D hl).O gc oa).O ge oa).O gz oa;refine Qj ⟨[.agg #[vk,vd,vr,sS rn,sa,sS SA.st,sm,se,o]],⟨Jm pu,Z⟩,pz,vk,vd,vr,sS rn,sa,sm,se,o,O,⟨Qz hK,Qz hh,kq,O,gy,Z⟩,λL hL=>?_⟩;have gg:∀N,↑J<=N->∀b∈b10::b8::L,b<N:=λN hN b hb=>by
     simp only[oJ]at hb;rcases hb with rfl|rfl|hb
     ·omega
     ·omega
     have:=hL b hb;omega
    have S:=gx (b10::b8::L) (gg _ oa);have h2:=((S.st (gc.Y od)).st (ge.Y od)).st (gz.Y od);have p0:i=q.n:=by have p4:¬(i:Int)<(D.length:Int):=gv;omega
    subst p0;have hrl:(U1 lz).length=lz.length:=qI lz;have h3:Qaq (b10::b8::L) ↑hE vk vd vr q.a forb q.unc:=by
     refine⟨?_,?_,?_⟩
     ·rw[gj,h6,<-hZ];exact Qh.ints hK oa (gg _ oa)
     ·rw[gj,h6,hD,<-ga];exact Qh.ints hh oa (gg _ oa)
     rw[pc,Lj,QkR];have p5:=Qi gs;refine(((QN gs oa (λb hb p6=>oq (p5 b hb).1 (gg _ (Lp _) b p6)):Zs (b10::b8::L) ↑U vr (U1 lz).length 4 ((U1 lz).flatMap U2)).I V).st (Y.Y od))
    have h4:=((((h3.st (hl.any)).st (gc.Y od)).st (ge.Y od)).st (gz.Y od)).up (L':=L) (λb hb=>.inl (by simp[hb]));exact⟨h2.up (λb hb=>.inl (by simp[hb])),h4⟩
   refine Qf ?_;have ht:i<D.length:=by have p4:(i:Int)<(D.length:Int):=gv;omega
   have g0:i<lf.length:=by rw[T.n,<-hX];exact ht
   have p7:lf[i]'g0=lf.getD i false:=by simp[oO,g0]
   refine Qe<|Qn<|Ql<|xii (i:=i) (kt.st Y) O O ht λa82 kw=>?_;refine Zf (D[i]'ht) λd hd=>?_;rw[hd]at kw;refine x (Qq kw O)<|x Qd<|Qb<|Ql<|Z0 O<|Qr O (h8 gb).B O O<|Qa<|x (QD (i:=i) O O oa)<|x (v:=.bool (lf.getD i false)) ((Jw (i:=i) ku O g0).D (by rw[p7]))<|xe<|Q9 O (λg2=>?_) (λg2=>?_)
   ·have hH:∀{v:OY} {l:LI} {w':OX},Qh 3 ↑G w' v l->b10∉ob v:=λho E=>oo (Qi ho b10 E).1
    refine Qc<|Q7 O<|Qr O hG O O<|Qa<|Qo<|Q5 [[sS i]] λb95 y1 hv hb95 p8=>Qo<|Q2 (m:=1) (news:=[sS i]) (L:=[]) (Qm hK hv) O O O (p8.at od) om oa (oo hv.size) λhJ y2 kx gh p9 =>
     Q7 rfl<|Q7 O<|Qo<|Qv (j:=0) (u:=hJ) ((hG.I hv).J gh (hH hK)) O O od (Qz kx) λy3 g3 kz=>xe ?_
    have qf:Qh 3 ↑G y2 hJ (lk++[(i:Int)]):=Qh.snoc kx;have hzy1:=hv.size;have hzy2:=gh.size;have hzy3:=g3.size;have qj:Qh 3 ↑G y2 vd ld:=Qg (Qm hh hv) gh (λb hb E=>hY b E hb);have k0:Dj hJ vd:=λb hb E=>by
     rcases p9 b hb with S|S
     ·exact hY b S E
     have:=QU hh b E;omega
    have k4:∀{v:OY} {l:LI},Qh 3 ↑G y2 v l->Qh 3 ↑G y3 v l:=λho=>Qg ho g3 (λb hb E=>by simp only[oF]at E;subst E;exact hH ho hb);have k5:=k4 qf;have g4:=k4 qj;have ql:O1 [b10] G y3:=(((Y.D hv).S gh (λb hb=>.inr (Qi hK b hb).1))).Q g3;refine Qs<|Q7 O<|Qr O kz O O<|Qa<|Qo<|Q5 [[sS d]] λb103 y4 hw hb103 q0=>Qo<|Q2 (m:=1) (news:=[sS d]) (L:=[]) (Qm g4 hw) O O O (q0.at od) om oa (oo hw.size) λg5 y5 k6 g6 q4 =>
     Q7 rfl<|Q7 O<|Qo<|Qv (j:=1) (u:=g5) ((kz.I hw).J g6 (hH g4)) O O od (Qz k6) λy6 g7 q5=>xe ?_
    have k9:Qh 3 ↑G y5 g5 (ld++[d]):=Qh.snoc k6;have ma:=Qoy (lf:=lf) (n:=i) g2;have j1:O2 D i=d:=by unfold O2;simp[oO,ht,hd]
    have mc:Qh 3 ↑G y5 hJ (lk++[(i:Int)]):=Qg (Qm k5 hw) g6 (λb hb E=>k0 b hb E);have hzy4:=hw.size;refine Qs<|QC O O<|Qa<|xe<|⟨(i+1,hJ,g5,_,_),oe,La,ht,(((ql.D hw).S g6 (λb hb=>.inr (Qi g4 b hb).1))).Q g7,q5,Qg mc g7 (λb hb E=>by simp only[oF]at E;subst E;exact hH mc hb),Qg k9 g7 (λb hb E=>by simp only[oF]at E;subst E;exact hH k9 hb),λb hb E=>?_,by simp only[oM,oL];omega,by simp only[oM,oL];omega,by simp only[];unfold kpK;rw[ma,Lv,hZ];rfl,by simp only[];unfold kpD;rw[ma,Lv,ga,<-j1];rfl⟩;rcases q4 b E with S|S
    ·exact k0 b hb S
    have:=QU k5 b hb;omega
   refine Qf<|Qs<|QC O O<|Qa<|xe ?_;have mf:=Qoz (lf:=lf) (n:=i) g2;exact⟨(i+1,vk,vd,lk,ld),oe,La,ht,Y,hG,hK,hh,hY,oe,oe,by unfold kpK;rw[mf];exact hZ,by unfold kpD;rw[mf];exact ga⟩
  refine Qf ?_;have hC:¬l.length=0:=λe=>gr (by show(l.length:Int)=0;omega);have g8:(nxs q.a q.unc lf).length≠0:=by rw[go];exact hC
  have j2:=Qhi g8;refine Exists.elim (Nb (show f≠0 by omega)) λf' j3=>?_;subst j3;rw[QeY g8,<-hg]at h9;rw[kn f' g8,<-hg]at hA;rw[<-hg]at j2;refine Exists.elim (QlG (rk:=(rank:Int)) (rs:=rs) l (λx hx=>oo (gq x hx))) λln hz=>?_;refine Qe<|Ql<|QG ko O<|Qa<|xe<|QW (α:=Nat) [(16,16),(51,62)] (λz=>[(51,sS z)]) (λz w'=>z<=l.length/\O1 [q.bl] w7 w'/\ReI b10 q J (((l.take z).map (·.1)).foldl cut lf) rn vr lz w') (λz=>l.length - z) 0 La ⟨Ln _,O1.Z _ _,T⟩ ?_;rintro j g U ⟨hj,ha,I⟩;have hT:∀b∈ob r7,b≠q.bl:=λb hb e=>oq (Qi hB b hb).1 hI.st.size
  have j4:RmO ↑w6 U r7 rank rs l:=Qg hB ha (λb hb E=>hT b hb (ou E));have mg:Zs [q.bl] ↑U r7 l.length 4 (l.flatMap (rmC rank rs)):=QN j4 oa (λb hb E=>hT b hb (ou E));refine Zi O O (λg9=>?_) (λg9=>?_)
  ·refine Qu ?_;have za:l.length<=j:=by have gi:¬(j:Int)<(l.length:Int):=g9;omega
   rw[Lq za]at I;obtain⟨ad,cap7,z2,_,z3⟩:∃ad cap,r7=.slice (some ad) l.length cap/\l.length<=cap/\At [q.bl] ↑U ad (l.flatMap (rmC rank rs)):=by
    rcases mg.2.2 with⟨_,h0⟩|S
    ·exact OS h0 hC
    exact S
   refine Qc<|Q7 O<|Qr O I.B10 O O<|Qa<|Qo<|Q2 (m:=l.length) (news:=l.flatMap (rmC rank rs)) (L:=[q.bl]) I.R O z2 (by rw[<-hz.1,ju,hz.2.1]) z3 (by rw[<-hz.1];exact QdZ ln) oa I.st.size λka z4 mh mj hn22 =>
    Q7 rfl<|Q7 O<|Qo<|Qv (j:=2) (u:=ka) (I.B10.J mj (λhb=>oo (Qi I.R _ hb).1)) O O od (Qz mh) λw23 z5 hB23=>xe ?_
   have hR22:RzO ↑J z4 ka (lz++ln):=RzO.snoc (by rw[hz.1,hz.2.1];exact mh);have mo:=I.app gl hS hp mj hR22 z5 hB23;refine Qs<|Qa<|Q7 O<|Qo<|Qv (j:=3) (u:=sS rank) mo.B10 O O od rfl λw24 hs24 hB24=>xe ?_;have hI24:=mo.rounds hS hp hs24 hB24;have hra:(-9223372036854775808:Int)<=(rank:Int)+1:=oa
   have hrb:(rank:Int)+1<=9223372036854775807:=oa
   refine Qs<|Qa<|x (YE O O ⟨hra,hrb⟩)<|Qb<|⟨(f',rank+1,(rank:Int),ka,lz++ln,(l.map (·.1)).foldl cut lf),oe,La,hI24,oe,by simp only[oM];omega,h9,oe,by simp only[List.map_append,hz.2.2];rw[LE];exact hA⟩
  refine Qf ?_;have he:j<l.length:=by have gi:(j:Int)<(l.length:Int):=g9;omega
  have htk:l.take (j+1)=l.take j++[l[j]'he]:=Lh he;have mq:((l.take (j+1)).map (·.1)).foldl cut lf=cut (((l.take j).map (·.1)).foldl cut lf) (l[j]'he).1:=by rw[htk,Lv,Mg];rfl
  have hxr:=gq (l[j]'he).1 (LG (Lk he));refine Zf (l[j]'he) λy hy=>?_;rw[hy]at mq hxr;have hyn:y.1=(y.1.toNat:Int):=oa
  refine Qe<|Qn<|Qc<|O4 (g:=rmC rank rs) (i:=j) (QdO rank rs) mg O O he λa53 gi=>?_;rw[hy]at gi;refine x (QE gi O O)<|QP [sS 0,sS 0,sS 0,sS 0] λb16 G V hb16 kb=>Q0 (rmC rank rs y) kb oy λhE Y kb=>xe ?_;have ms:sW U hE:=V.O Y hb16;have kc:=I.I ms;have hnn:=I.n;refine ZJ [] (Y4 0 8 [7])<|p Qy<|p (YC O)<|p (QH O)<|pq (λ_ hc=>Qk ((h8 kc.st).B.I hc) O O)<|p (QH O)<|pq (λ_ hc=>Qk (kb.I hc) O O) <|
   p (λ_=>QD (i:=y.1.toNat) O (OR sS hyn) oa)<|pkk<|qX (i:=y.1.toNat) (kc.F.I (O1.C _ _)) O O oa λph hl hF11=>pe ?_
  refine Qs<|QC O O<|Qa<|xe<|⟨j+1,oa,La,he,((ha.D ms).D (O1.C _ _)).Q hl,?_⟩;rw[mq];exact(kc.I (O1.C _ _)).cut gl hp hl hF11 (by rw[Qet];exact hnn)
 refine Qf ?_;have hM:k<forb.length:=by have hV:(k:Int)<(forb.length:Int):=gn;omega
 have hxk:=ke _ (Lk hM);refine Zf (forb[k]'hM) λy hy=>?_;rw[hy]at hxk;refine Qe<|Qn<|Qc<|xii (i:=k) m5 O O hM λa27 hV=>?_;rw[hy]at hV;refine x (Qq hV O)<|Qb<|Qc<|Q7 O<|Qr O hI.B10 O O<|Qa<|x (QB ⟨O,O,O,O,Z⟩)<|Qo<|Q5 [[sS y,sS 1,sS 1,sS (-1)]] λb34 w6 hs6 hb34 hB34=>?_;have hO:=hI.I hs6;refine Qo<|Q2 (m:=1) (news:=[sS y,sS 1,sS 1,sS (-1)]) (L:=[]) hO.R O O O (hB34.at od) om oa hO.st.size λv7 w7 mt hW hn7 =>
  Q7 rfl<|Q7 O<|Qo<|Qv (j:=2) (u:=v7) (hO.B10.J hW (λhb=>oo (Qi hO.R _ hb).1)) O O od (Qz mt) λU ha gu=>xe ?_
 have hR7:RzO ↑J w7 v7 (lz++[⟨(y,1,1,-1),oe⟩]):=RzO.snoc mt;have hfk:rmF (forb.take (k+1))=rmF (forb.take k)++[(y,1,1,-1)]:=by unfold rmF;rw[Lh hM,Lv,hy];rfl
 have I:=hO.app gl hS hp hW hR7 ha gu;refine Qs<|Q7 O<|Qo<|Qv (j:=3) (u:=sS 1) I.B10 O O od rfl λG V hB9=>xe ?_;have hI9:=I.rounds hS hp V hB9;refine Qs<|QC O O<|Qa<|xe ?_;exact⟨(k+1,1,v7,_),oe,La,hM,hI9,by simp only[oM,oL];omega,.inr O,by simp only[List.map_append,hU,hfk];rfl⟩
instance:Bw sV 148 (Kk (nS) (nS) (nS) 0) [(0,3),(3,1),(4,4),(8,1)]:={}
theorem Qmf {c:Yl}{pl:QF}{ps:List (LI)}{l:List (LI)}:∀r∈spF c pl ps l,0<=r.st/\r.st<(l.length:Int):=λr G=>by
 unfold spF at G;obtain⟨⟨t,i⟩,I,E⟩:=MW.1 G;have hi:=List.snd_lt_add_of_mem_zipIdx I;simp only[oX]at hi;have J:r.st=(i:Int):=by
  unfold rsn at E;split at E
  ·cases E;rfl
  split at E
  ·cases E;rfl
  cases E
 omega
theorem Qgt {c:Yl}(h:Y2 c=0):Zb (spc c).a/\(∀x∈fbs (spc c),0<=x/\x<(spc c).a.st)/\(fbs (spc c)).length<=4096/\(spc c).fb.length<=4096/\Xr c.ev=0:=by
 unfold Y2 at h;by_cases G:ZW c≠0
 ·rw[OQ G]at h;exact OS h G
 rw[OP G]at h;have hck:ZW c=0:=Lr.1 G;have I:=Yr hck;by_cases J:K5 (O3 c.co)≠0
 ·rw[OQ J]at h;exact OS h J
 rw[OP J]at h;cases S:xd (O3 c.co)with
 | none=>rw[S]at h;cases h
 | some z =>
  rw[S]at h;by_cases T:K5 (O3 c.co++O3 c.rq)≠0
  ·rw[OQ T]at h;exact OS h T
  rw[OP T]at h;cases U:xd (O3 c.co++O3 c.rq)with
  | none=>rw[U]at h;cases h
  | some y =>
   have V:∀a∈O3 c.co++O3 c.rq,Zb a:=λa E=>by
    rcases Le.1 E with E|E
    ·exact YL I.co a E
    exact YL I.rq a E
   have hsp:=(Xb V (A:=y.1) (Q:=y.2) U).1;have hl:=QdH c z.1 z.2 y.2;have hc:=hsp.le;rw[(Qcp (c:=c) (pl:=z.1) (ps:=z.2) (sa:=y.1) (ts:=y.2) S U)];unfold fbs;refine⟨hsp.okay V,λx hx=>?_,by rw[Lj];simp only[];omega,oe,I.e0⟩;obtain⟨r,Y,rfl⟩:=Lz.1 hx;have:=Qmf r Y;rw[hsp.st];exact this
theorem st4 (r:Rsn):(ZZ r).length=4:=rfl
theorem Qcj (h0:ZV L ↑w c)(hP:Kb w 4096):
  QT sV 67 [c.val] w λr w'=>sW w w'/\∃us c0 J T c3 sa sm se o,r=.tuple #[sT us,.agg #[c0,J,T,c3,sa,sS (if Y2 c.V=0 then(U0 c.V).st else 0),sm,se,o],sS (Y2 c.V)]/\us.length=8/\ZH us/\ZH [c0,J,T,c3,sa,sm,se,o] /\
   (Y2 c.V≠0->sa=nS/\sm=nS/\se=nS)/\(Y2 c.V=0->∀L:LN,(∀b∈L,b<↑w)->Zr L ↑w' sa sm se (U0 c.V)/\Qaq L ↑w' c0 J T (spc c.V).a (fbs (spc c.V)) (unc c.V.ev)):=by
 have h:=h0.up (L':=[]) od;have hn:U0 c.V=jo (spc c.V).a (fbs (spc c.V)) (unc c.V.ev):=rfl;have hQ:c.V.ev=c.ev:=rfl;have ho:=Qgt (c:=c.V);refine Zf (U0 c.V) λSA hR=>?_;rw[hR]at hn ⊢;refine Zf (Y2 c.V) λE hE=>?_;rw[hE]at ho ⊢;refine Zf (spc c.V) λS hS=>?_;rw[hS]at ho hn ⊢;rw[hQ]at ho hn ⊢;refine Zn func67 ?_;refine Qc<|Zd c.cells λb1 w1 hB gx hC=>QP [nS,sS 0,nS,nS,nS,nS,nS,nS] λb2 w2 h2 gy hp=>QP (Kk (nS) (nS) (nS) 0) λb3 w3 hq gz hs=>Qb ?_;have h3:=(hB.D h2).D hq;have g0:=hB.size;have g2:=hp.lt;have g3:=hs.lt;have hsp:=zU (h.I h3) (hP.I h3);rw[hE,hS]at hsp;refine Qc<|QY ((hC.I h2).I hq) O O<|Qw<|hsp.Y ?_;rintro r4 w4 ⟨hg,v,rfl,⟨us,rfl,h4,h5⟩,hF⟩;have g4:=hg.size;refine Qa<|QL O O<|QL O O<|QP [nS,sS 0,nS,nS,nS,nS,nS,nS] λb5 w5 hT hV hh=>Qo<|Zk (us:=us) hh O O h4 O h5 λw6 hW hh=>Qb ?_;have Y:sW w4 w6:=hT.O hW hV;have h6:=(h3.D hg).D Y;have hD:=(hp.I (hq.D hg)).I Y;have hG:=(hs.I hg).I Y;have g5:=hh.lt;refine Qe<|Ql<|ZI O O<|xe<|Za rfl (λht=>?_) (λht=>?_)
 ·refine Qc<|x (Zq [] Z)<|x (Zq [] Z)<|Qa<|Q0 [nS,sS 0,nS,nS,nS,nS,nS,nS] hD ⟨O,O,O,O,O,O,O,O,Z⟩ λw7 G hX =>
   Q0 (Kk (nS) (nS) (nS) 0) (hG.J G ol) ⟨O,O,O,O,O,O,O,O,O,Z⟩ λw8 hu hY=>Qb<|Qj ⟨[.agg #[nS,sS 0,nS,nS,nS,nS,nS,nS],.agg (Kk (nS) (nS) (nS) 0).toArray,sS E],⟨Jm (hX.J hu ol),Jm hY,O,Z⟩,(h6.O G oa).O hu oa,[nS,sS 0,nS,nS,nS,nS,nS,nS],nS,nS,nS,sS 0,nS,nS,nS,nS,by rw[OP ht];rfl,O,⟨O,O,O,O,O,O,O,O,Z⟩,⟨O,O,O,O,O,O,O,O,Z⟩,λ_=>⟨O,O,O⟩,λe=>OS e ht⟩
 have hv:E=0:=Lr.1 ht;obtain⟨hZ,ga,gb,g6,hH⟩:=ho hv;obtain⟨va,vm,ve,v1,v2,v3,v4,cos,rqs,gc,_,_,ge⟩:=hF hv;have gg:us=[va,sS S.a.st,vm,ve,v1,v2,v3,v4]:=by
  have h1:=OR (λv=>match v with|Value.agg a=>a.toList|_=>[]) gc
  simpa using h1
 subst gg;have hI:=(ge [] od);have gh:=hI.1.I Y;have hJ:=hI.2.2.2.2.I Y;refine Qf<|Qc<|Qb<|Qe<|Qc<|Qr O hh O O<|QG hJ O<|Qa<|xe<|QW (α:=Nat×OY) [(7,7),(9,9),(24,33)] (λz=>[(7,z.2),(24,sS z.1)]) (λz w'=>z.1<=S.fb.length/\sW w6 w'/\Qh 3 ↑w6 w' z.2 ((S.fb.take z.1).map (·.st))) (λz=>S.fb.length - z.1) (0,nS) ov ⟨Ln _,O1.Z _ _,QM _ _ _ _⟩ ?_;rintro⟨k,vf⟩ g w7 ⟨hk,G,U⟩;simp only[]at hk U;refine Zi rfl O (λh7=>?_) (λh7=>?_)
 ·refine Qu ?_;have gi:S.fb.length<=k:=by have hw:¬(k:Int)<(S.fb.length:Int):=h7;omega
  rw[Lq gi]at U;have U:Qh 3 ↑w6 w7 vf (fbs S):=U;have gj:=h6.D G;have gk:=G.size;refine Qc<|Q7 O<|x (Qk ((hC.I (h2.D hq)).I ((hg.D Y).D G)) O O)<|Qw<|(jh (h.ev.I gj)).Y ?_;rintro g7 V ⟨ha,vu,rfl,hU⟩;rw[OQ hH]at hU;refine Qa<|QL O O<|QL O O<|x Qd<|Qb<|Qe<|Ql<|ZI O O<|xe<|Za O (λgl=>OS hH gl) (λ_=>?_);refine Qf ?_;have h4:(unc c.ev).length<=1099511627776:=Lx (jV _ c.ev 0) h.ev.arr.le;have he:=G.D ha;have gm:=gh.I he;have hy:sW V { V with drawn:=V.drawn+1 }:=O1.C _ _
  have hK:=hh.I he;have hM:b5∉[b2]:=ol
  have g8:=he.size;refine Qe<|ZJ [b2] (Y4 0 9 [5,6,7])<|pq (λ_ hc=>Zj (hK.J hc hM) O O)<|p (QH O)<|pq (λ_ hc=>ZS (us:=[va,sS S.a.st,vm,ve]) (hK.J hc hM) O O O) <|
   p Qy<|p Qy<|pk<|xg<|(QeX (gm.I hy) hZ (((Qh.ints (L:=[]) U oa od).I ha).I hy) ga gb ((Qh.ints (L:=[]) hU h4 od).I hy)).Y ?_
  rintro g9 ka ⟨gn,c0,J,T,c3,sa,sm,se,o,rfl,I,h8⟩;have hj:=hy.D gn;refine⟨hj.any,?_⟩;have hN:jo S.a (fbs S) (unc c.ev)=SA:=hn.symm;rw[hN]at h8;have hf:=(h8 [] od).1;refine pk<|Us [va,sS S.a.st,vm,ve,v1,v2,v3,v4] ((hD.I he).I hj) h5 λkb hl hp=>⟨hj.any.Q hl,?_⟩;refine pkk<|Zk (us:=[c0,J,T,c3,sa,sS SA.st,sm,se,o]) (((hG.I he).I hj).J hl ol) O (by rw[<-hN];rfl) O O ⟨I.1,I.2.1,I.2.2.1,I.2.2.2.1,hf.al.one,O,hf.mr.one,hf.ed.one,I.2.2.2.2.1,Z⟩ λkc hz hs=>p ZK<|pe ?_;have go:b2∉[b3]:=ol
  refine Qj ⟨[.agg #[va,sS S.a.st,vm,ve,v1,v2,v3,v4],.agg #[c0,J,T,c3,sa,sS SA.st,sm,se,o],sS 0],⟨Jm (hp.J hz go),Jm hs,O,Z⟩,
   (((h6.D he).D hj).O hl oa).O hz oa,_,c0,J,T,c3,sa,sm,se,o,by rw[hv,OQ rfl];rfl,O,h5,⟨I.1,I.2.1,I.2.2.1,I.2.2.2.1,hf.al.one,hf.mr.one,hf.ed.one,I.2.2.2.2.1,Z⟩,λe=>OS hv e,λ_ L hL=>?_⟩
  have h1:=h8 (b2::b3::L) (λb hb=>by
   have ke:({ V with drawn:=V.drawn+1 }:OX).heap.size=V.heap.size:=rfl
   simp only[oJ]at hb;rcases hb with rfl|rfl|hb
   ·omega
   ·omega
   have:=hL b hb;omega)
  exact⟨((h1.1.st (hl.Y od)).st (hz.Y od)).up (λb hb=>.inl (by simp[hb])),((h1.2.st (hl.Y od)).st (hz.Y od)).up (λb hb=>.inl (by simp[hb]))⟩
 refine Qf ?_;have hm:k<S.fb.length:=by have hw:(k:Int)<(S.fb.length:Int):=h7;omega
 have hO:S.fb.take (k+1)=S.fb.take k++[S.fb[k]'hm]:=Lh hm;have kf:((S.fb.take k).map (·.st)).length=k:=by rw[Lj,LA];omega
 refine Zf (S.fb[k]'hm) λr hr=>?_;rw[hr]at hO;refine Qe<|Qn<|Qc<|O4 (g:=ZZ) (i:=k) st4 (hJ.I G) O O hm λkg hw=>?_;rw[hr]at hw;refine x (QE hw O O)<|QP [sS 0,sS 0,sS 0,sS 0] λb9 w8 hu gq h9=>Q0 (ZZ r) h9 oy λw9 gr h9=>xe ?_;have hA:sW w7 w9:=hu.O gr gq;have kh:=hA.size;have gk:=G.size;refine Qs<|Qa<|Qr O h9 O O<|Qo<|Q5 [[sS r.st]] λki V ha kj gs =>
  Qo<|Q2 (m:=1) (news:=[sS r.st]) (L:=[]) (Qm U (hA.D ha)) O O O (gs.at od) om oa (oo ha.size) λgt kk gu gv kn=>Qb<|Qs<|QC O O<|Qa<|xe ?_
 refine⟨(k+1,gt),oe,ov,hm,((G.D hA).D ha).S gv (λb hb=>.inr (Qi U b hb).1),?_⟩;simp only[];rw[hO,Lv];exact Qh.snoc gu
theorem K7 (h0:ZV L ↑w c)(he:Kb w 4096):
  QT sV 29 [c.val] w λr w'=>sW w w'/\∃sa sm se,r=.tuple #[.agg #[sa,sS (if Y2 c.V=0 then(U0 c.V).st else 0),sm,se],sS (z9 c.V)]/\ZH [sa,sm,se] /\
   (z9 c.V≠0->sa=nS/\sm=nS/\se=nS)/\(z9 c.V=0->∀L:LN,(∀b∈L,b<↑w)->Zr L ↑w' sa sm se (U0 c.V)):=by
 have hf:z9 c.V=Y2 c.V:=rfl;rw[hf];refine Zn func29 ?_;refine Qc<|Zd c.cells λb1 w1 T hq hg=>QP [nS,sS 0,nS,nS] λb2 w2 U hr G=>Qb ?_;have I:=T.D U;have hs:=T.size;have ht:=G.lt;refine Qc<|QY (hg.I U) O O<|Qw<|(Qcj ((h0.up (L':=[]) od).I I) (he.I I)).Y ?_;rintro r3 w3 ⟨V,us,c0,c1,c2,c3,sa,sm,se,o,rfl,hh,hj,E,hk,hl⟩;refine Zf (if Y2 c.V=0 then(U0 c.V).st else 0) λN hN=>?_
 rw[hN];refine Qa<|QL O O<|QL O O<|QL O O<|QP [nS,sS 0,nS,nS,nS,nS,nS,nS] λb4 w4 hm hu J=>QP (Kk (nS) (nS) (nS) 0) λb5 w5 Y hv hn =>
  Qo<|Zk (us:=us) (J.I Y) O O hh O hj λw6 ha hw=>Q0 [c0,c1,c2,c3,sa,sS N,sm,se,o] (hn.J ha (by have:=J.lt;simp only[oF];omega)) ⟨E.1,E.2.1,E.2.2.1,E.2.2.2.1,E.2.2.2.2.1,O,E.2.2.2.2.2.1,E.2.2.2.2.2.2.1,E.2.2.2.2.2.2.2.1,Z⟩ λw7 ho hp=>Qb ?_
 have hy:=J.lt;have S:sW w3 w7:=((hm.D Y).O ha oa).O ho oa;refine Qc<|Q7 O<|x (ZS (us:=[sa,sS N,sm,se]) hp O O O)<|Qa<|Q0 [sa,sS N,sm,se] ((G.I V).I S) ⟨E.2.2.2.2.1,O,E.2.2.2.2.2.1,E.2.2.2.2.2.2.1,Z⟩ λw8 hc G=>Qb<|Qj ⟨[.agg #[sa,sS N,sm,se],sS (Y2 c.V)],⟨Jm G,O,Z⟩,((I.D V).D S).O hc oa,sa,sm,se,O,⟨E.2.2.2.2.1,E.2.2.2.2.2.1,E.2.2.2.2.2.2.1,Z⟩,hk,λe L hL=>?_⟩;have h1:=hl e (b2::L) (λb hb=>by
  simp only[oJ]at hb;rcases hb with rfl|hb
  ·omega
  have:=hL b hb;omega)
 exact((h1.1.I S).st (hc.Y od)).up (λb hb=>.inl (by simp[hb]))
section
variable {s:QF}{l:List Vw}
end
section
variable {s:QF}{l:List Vw}
end
section
variable {s:QF}{l:List Vw}
end
section
variable {p s:QF}{pairs:List (LI)}
end
section
variable {s:QF}{l:List Vw}
end
section
variable {s:QF}{l:List Vw}{nm:LI}
end
def cnF (ord:LI)(j:Nat)(e:Ed):Ed:=((j:Int),e.2.1,(ord.idxOf e.2.2:Int))
def cnR (a:QF)(ord:LI)(j:Nat):List Ed:=(QS a.ed (Yh ord j)).map (cnF ord j)
theorem Qbk {r:LI}(h:j<l.length):Yh (l++r) j=Yh l j:=by unfold Yh;rw[MP];exact zM h
structure NuI (st:Int)(ord num:LI):Prop where
 nd:ord.Nodup
 bd:∀s∈ord,0<=s/\s<st
 nl:num.length=st.toNat
 nu:∀k,0<=k->k<st->Yh num k=if k∈ord then(ord.idxOf k:Int)else -1
theorem Qco {st:Int}{c:Cs}(h:NuI st c.ord c.num){e:Ed}(T:0<=e.2.2)(U:e.2.2<st):NuI st (Zw i c e).ord (Zw i c e).num/\(∃r,(Zw i c e).ord=c.ord++r)/\(Zw i c e).mk'=c.mk'/\(Zw i c e).ed=c.ed++[cnF (Zw i c e).ord i e]/\e.2.2∈(Zw i c e).ord:=by
 have G:=h.nu e.2.2 T U;have Y:e.2.2.toNat<c.num.length:=by rw[h.nl];omega
 unfold Zw;by_cases I:e.2.2∈c.ord
 ·rw[OQ I]at G;rw[OP (by rw[G];omega)];refine⟨h,⟨[],od⟩,rfl,?_,I⟩;simp only[cnF];rw[G]
 rw[OP I]at G;rw[OQ (by rw[G];decide)];have V:(c.ord++[e.2.2]).idxOf e.2.2=c.ord.length:=by rw[Mh,OP I];simp
 refine⟨⟨J6 h.nd I,λs E=>?_,by simp[h.nl],λk k0 k1=>?_⟩,⟨[e.2.2],rfl⟩,rfl,?_,od⟩
 ·rcases Le.1 E with E|E
  ·exact h.bd s E
  simp only[oF]at E;subst E;exact⟨T,U⟩
 ·simp only[];by_cases ek:k=e.2.2
  ·subst ek;rw[OQ od,V];unfold Yh;simp[oO,List.getElem?_set_self Y]
  have ha:e.2.2.toNat≠k.toNat:=oa
  have e1:Yh (c.num.set e.2.2.toNat c.ord.length) k=Yh c.num k:=by unfold Yh;simp[oO,List.getElem?_set_ne ha]
  rw[e1,h.nu k k0 k1];by_cases J:k∈c.ord
  ·rw[OQ J,OQ (L8 _ J),Mh,OQ J]
  rw[OP J,OP (λhc=>by
   rcases Le.1 hc with S|S
   ·exact J S
   simp only[oF]at S;exact ek S)]
 simp only[cnF];rw[V]
theorem qH {st:Int}{i:Nat}:∀(es:List Ed) (c:Cs),NuI st c.ord c.num->(∀e∈es,0<=e.2.2/\e.2.2<st)->NuI st (es.foldl (Zw i) c).ord (es.foldl (Zw i) c).num/\(∃r,(es.foldl (Zw i) c).ord=c.ord++r)/\(es.foldl (Zw i) c).mk'=c.mk' /\
  (es.foldl (Zw i) c).ed=c.ed++es.map (cnF (es.foldl (Zw i) c).ord i)/\∀e∈es,e.2.2∈(es.foldl (Zw i) c).ord
 | [],c,h,_=>⟨h,⟨[],od⟩,rfl,od,λe G=>by cases G⟩
 | e::es,c,h,hb=>by
  obtain⟨I,J⟩:=hb e Lo;obtain⟨S,⟨T,U⟩,V,Y,E⟩:=Qco (i:=i) h I J;obtain⟨k1,⟨r2,k2⟩,k3,k4,k5⟩:=qH (i:=i) es (Zw i c e) S (λd hd=>hb d (Lm _ hd));rw[LO];refine⟨k1,⟨T++r2,by rw[k2,U,LE]⟩,k3.D V,?_,λd hd=>?_⟩
  ·rw[k4,Y,LE,LU];have:cnF (Zw i c e).ord i e=cnF (es.foldl (Zw i) (Zw i c e)).ord i e:=by
    unfold cnF;rw[k2,Mh,OQ E]
   rw[this];rfl
  rcases Ll.1 hd with rfl|hd
  ·rw[k2];exact L8 _ E
  exact k5 d hd
structure CnG (a:QF)(i:Nat)(c:Cs):Prop where
 nu:NuI a.st c.ord c.num
 le:i<=c.ord.length
 hd:Yh c.ord 0=0/\0<c.ord.length
 mk2:c.mk'=((oN 0 i).filter λj:Nat=>decide (Yh c.ord j∈a.mr)).map λj:Nat=>(j:Int)
 ed:c.ed=(oN 0 i).flatMap (cnR a c.ord)
 cl:∀j,j<i->∀e∈QS a.ed (Yh c.ord j),e.2.2∈c.ord
theorem Qk9 {ord r:LI}(E:j<ord.length)(G:∀e∈QS a.ed (Yh ord j),e.2.2∈ord):cnR a (ord++r) j=cnR a ord j:=by
 unfold cnR;rw[Qbk E];refine List.map_congr_left λe I=>?_;unfold cnF;rw[Mh,OQ (G e I)]
theorem CnG.next (U:Zb a){c:Cs}(h:CnG a i c)(hi:i<c.ord.length):CnG a (i+1) (yb a i c):=by
 unfold yb;have J:(Yk a i c).ord=c.ord:=by unfold Yk;split <;> rfl
 have V:(Yk a i c).num=c.num:=by unfold Yk;split <;> rfl
 have Y:(Yk a i c).ed=c.ed:=by unfold Yk;split <;> rfl
 obtain⟨k1,⟨r,k2⟩,k3,I,S⟩:=qH (st:=a.st) (i:=i) (QS a.ed (Yh c.ord i)) (Yk a i c) (by rw[J,V];exact h.nu) (λe he=>(U.ed e (ZC he).1).2.2.2);generalize (QS a.ed (Yh c.ord i)).foldl (Zw i) (Yk a i c)=d at k1 k2 k3 I S;rw[J]at k2;rw[Y]at I;have pre:∀j:Nat,j<=i->Yh d.ord j=Yh c.ord j:=λj E=>by rw[k2];exact Qbk oa
 refine⟨k1,by rw[k2];simp;omega,⟨by have:=pre 0 oa;rw[show((0:Nat):Int)=0 from rfl]at this;rw[this];exact h.hd.1,by rw[k2];simp;omega⟩,?_,?_,λj E=>?_⟩
 ·rw[k3,MM,LR,Lv,LT];have e1:((oN 0 i).filter λj:Nat=>decide (Yh d.ord j∈a.mr))=(oN 0 i).filter λj:Nat=>decide (Yh c.ord j∈a.mr):=by
   refine List.filter_congr λj E=>?_;rw[Mu]at E;rw[pre j oa]
  rw[e1];unfold Yk;by_cases G:Yh c.ord i∈a.mr
  ·rw[OQ G];simp only[];rw[L6,OQ (by rw[pre i (Lp _)];exact OT G),MU,h.mk2];rfl
  rw[OP G];rw[L6,OP (by rw[pre i (Lp _),OV G];simp),MU,h.mk2];simp
 ·rw[I,MM,LC,LT,h.ed];congr 1
  ·refine Jf λj E=>?_;rw[Mu]at E;rw[k2];exact(Qk9 oa (h.cl j oa)).symm
  simp only[oW,List.flatMap_nil,On];unfold cnR;rw[pre i (Lp _)]
 by_cases e:j=i
 ·subst e;rw[pre j (Lp _)];exact S
 intro d' T;rw[pre j oa]at T;rw[k2];exact L8 _ (h.cl j oa d' T)
theorem y9 {a:QF}(G:Zb a):∀(f i:Nat) (c:Cs),CnG a i c->∃E,CnG a E (Jh a f i c)/\((Jh a f i c).ord.length=E\/E=i+f)
 | 0,i,c,h=>⟨i,h,.inr O⟩
 | f+1,i,c,h=>by
  rw[Jh];split
  ·rename_i hi;obtain⟨E,I,J⟩:=y9 G f (i+1) _ (h.next G hi);exact⟨E,I,oa⟩
  exact⟨i,h,.inl (oo h.le)⟩
structure CnP (a:QF)(ord:LI):Prop where
 nd:ord.Nodup
 bd:∀s∈ord,0<=s/\s<a.st
 hd:Yh ord 0=0/\0<ord.length
 al:(X0 a).al=a.al
 st:(X0 a).st=(ord.length:Int)
 mk2:(X0 a).mr=((oN 0 ord.length).filter λj:Nat=>decide (Yh ord j∈a.mr)).map λj:Nat=>(j:Int)
 ed:(X0 a).ed=(oN 0 ord.length).flatMap (cnR a ord)
 cl:∀j,j<ord.length->∀e∈QS a.ed (Yh ord j),e.2.2∈ord
theorem QfC (J:Zb a)(Y:0<a.st):∃ord,CnP a ord:=by
 have S:0<a.st.toNat:=oa
 have hI:CnG a 0 (YM a):=by
  refine⟨⟨by simp[YM],λs I=>by simp[YM]at I;subst I;omega,by simp[YM],λk k0 k1=>?_⟩,Ln _,⟨by simp[YM,Yh],by simp[YM]⟩,by simp[YM],by simp[YM],λj hj=>oa⟩;by_cases ek:k=0
  ·subst ek;rw[OQ (by simp[YM])];unfold Yh YM;simp[oO,S]
  rw[OP (by simpa[YM]using ek)];unfold YM;have T:0≠k.toNat:=oa
  have U:k.toNat<a.st.toNat:=oa
  unfold Yh;rw[List.getD_eq_getElem?_getD,MY T];simp[U]
 obtain⟨V,E,h2⟩:=y9 J a.st.toNat 0 (YM a) hI;have ha:(Jh a a.st.toNat 0 (YM a)).ord.length<=a.st.toNat:=xD _ _ E.nu.nd (λx hx=>oo (E.nu.bd x hx));have hi':V=(Jh a a.st.toNat 0 (YM a)).ord.length:=by have:=E.le;omega
 subst hi';have G:X0 a=⟨a.al,((Jh a a.st.toNat 0 (YM a)).ord.length:Int),(Jh a a.st.toNat 0 (YM a)).mk',(Jh a a.st.toNat 0 (YM a)).ed⟩:=by unfold X0;rw[OP oa]
 refine⟨(Jh a a.st.toNat 0 (YM a)).ord,E.nu.nd,E.nu.bd,E.hd,by rw[G],by rw[G],?_,?_,E.cl⟩
 ·rw[G];exact E.mk2
 rw[G];exact E.ed
section
variable {p s:QF}{pn xn v:Int}
end
section
variable {s:QF}{l:List Vw}
end
theorem QfD (E:Zb a):Zb (X0 a):=by
 have h0:=E.st0;have h1:=E.st1;by_cases V:a.st=0
 ·unfold X0;rw[OQ V];exact⟨E.al,E.ali,od,od,od,od,od,od⟩
 obtain⟨ord,h⟩:=QfC E oa;have hl:ord.length<=a.st.toNat:=xD _ _ h.nd (λx hx=>oo (h.bd x hx));refine⟨by rw[h.al];exact E.al,by rw[h.al];exact E.ali,by rw[h.st];omega,by rw[h.st];omega,λs I=>?_,?_,λe S=>?_,?_⟩
 ·rw[h.mk2]at I;simp only[OF,Ow,Oy]at I;obtain⟨i,⟨hi,_⟩,rfl⟩:=I;rw[h.st];omega
 ·rw[h.mk2];unfold YN;rw[L7];refine List.Pairwise.sublist MO ?_;exact(Nd (s:=0) (n:=ord.length)).imp (λh=>oa)
 ·rw[h.ed]at S;obtain⟨j,J,hd⟩:=Mb.1 S;rw[Mu]at J;unfold cnR at hd;obtain⟨d,T,rfl⟩:=Lz.1 hd;have:=MG (h.cl j oa d T);rw[h.st,h.al];unfold cnF;exact⟨oe,oe,((E.ed d (ZC T).1).2.2.1),oe,oe⟩
 rw[h.ed];have key:∀n,((oN 0 n).flatMap (cnR a ord)).Pairwise λx y:Ed=>x.1<y.1\/(x.1=y.1/\x.2.1<y.2.1):=by
  intro n;induction n with
  | zero=>simp
  | succ n ih =>
   rw[MM,LC,LT,Mj];refine⟨ih,?_,λx hx y G=>?_⟩
   ·simp only[oW,List.flatMap_nil,On];unfold cnR;rw[L7];have Y:(QS a.ed (Yh ord n)).Pairwise λx y:Ed=>x.1<y.1\/(x.1=y.1/\x.2.1<y.2.1):=List.Pairwise.sublist MO E.edi;refine List.Pairwise.imp_of_mem (λ{x y} hx G ha=>?_) Y;have e1:=(ZC hx).2;have e2:=(ZC G).2;right;exact⟨O,by show x.2.1<y.2.1;omega⟩
   obtain⟨j,J,U⟩:=Mb.1 hx;rw[Mu]at J;simp only[oW,List.flatMap_nil,On]at G;unfold cnR at U G;obtain⟨d,_,rfl⟩:=Lz.1 U;obtain⟨d',_,rfl⟩:=Lz.1 G;left;show(j:Int)<(n:Int);omega
 exact key _
theorem Qfc (E:Zb a):Zb ⟨a.al,0,[],[]⟩:=
 ⟨E.al,E.ali,Mt _,(by decide:(0:Int)<=4096),(λs G=>by cases G),List.Pairwise.nil,(λe I=>by cases I),List.Pairwise.nil⟩
theorem QeM (E:Zb a)(lf:Lf):Zb (Qcl a lf):=by
 unfold Qcl;split
 ·exact Qfc E
 exact QfD (yA E lf)
theorem qF {c:Yl}(h:z9 c=0):Zb (U0 c):=QeM (Qgt h).1 _
theorem QaK {κ:Type}[DecidableEq κ]{l:List κ}{s:κ}(h:s∉l):O7 (l.map λs=>(s,Value.bool true)) s (.bool true)=(l++[s]).map λs=>(s,Value.bool true):=by
 induction l with
 | nil=>rfl
 | cons a l ih =>
  have E:a≠s:=λe=>h (by subst e;exact Lo);show(if a=s then(a,Value.bool true)::(l.map λs=>(s,Value.bool true))else(a,Value.bool true)::O7 (l.map λs=>(s,Value.bool true)) s (.bool true))=_
  rw[OP E,ih (λG=>h (Lm _ G))];rfl
theorem Qgw {κ:Type}[DecidableEq κ](l:List κ)(s:κ):O6 (l.map λs=>(s,Value.bool true)) s=if s∈l then some (.bool true)else none:=by
 induction l with
 | nil=>rfl
 | cons a l ih =>
  show(if a=s then some (Value.bool true)else O6 (l.map λs=>(s,Value.bool true)) s)=_
  rw[ih];by_cases h:a=s
  ·subst h;simp
  rw[OP h];have E:¬s=a:=λe=>h e.symm;simp[E]
section
variable {κ:Type}[DecidableEq κ]
theorem Uo [hm:Mp P t kt et (.bool false)]{enc:κ->OY}[hk:jk P kt enc]{x:OZ}{b:Nat}{l:List κ}{s:κ}(h:ZP enc ↑w b (l.map λs=>(s,Value.bool true)))(hx:ev f x=.map (some b))(E:ev f y=enc s):
  (execOp (ev f) ⟨d,.lookup t x y false,ty,pS,af,gd⟩).run P w=.ok (.value (.bool (decide (s∈l)))) w:=by
 rw[X1 h hx E,Qgw];by_cases G:s∈l <;> simp[G]
end
section
variable {κ:Type}{enc:κ->OY}
abbrev setM (K:List κ):List (κ×OY):=K.map λs=>(s,Value.bool true)
def Xs (enc:κ->OY)(H:xw)(b:Nat)(l:List κ):Prop:=∃K:List κ,ZP enc H b (setM K)/\∀x,x∈K↔x∈l
theorem Xs.lt {H:xw}{b:Nat}{l:List κ}(h:Xs enc H b l):b<H.size:=let⟨_,E,_⟩:=h;E.lt
theorem Xs.J {X:LN}{w w':OX}{b:Nat}{l:List κ}(h:Xs enc ↑w b l)(E:O1 X w w')(hb:b∉X):Xs enc ↑w' b l:=let⟨K,G,I⟩:=h;⟨K,G.J E hb,I⟩
theorem Xs.I {b:Nat}{l:List κ}(h:Xs enc ↑w b l)(E:sW w w'):Xs enc ↑w' b l:=h.J E od
theorem Xs.zero {H:xw}{b:Nat}(h:ZP enc H b []):Xs enc H b []:=⟨[],h,λ_=>Iff.rfl⟩
theorem QaL [DecidableEq κ]{k:κ}:∀{K:List κ},k∈K->O7 (setM K) k (.bool true)=setM K
 | [],h=>by cases h
 | a::K,h=>by
  show(if a=k then(a,Value.bool true)::setM K else(a,Value.bool true)::O7 (setM K) k (.bool true))=_
  by_cases e:a=k
  ·rw[OQ e];rfl
  rw[OP e,QaL ((Ll.1 h).resolve_left (λh=>e h.symm))];rfl
theorem Xs.put [DecidableEq κ]{H:xw}{b:Nat}{l K:List κ}{k:κ}(h:ZP enc H b (O7 (setM K) k (.bool true)))(G:∀x,x∈K↔x∈l):Xs enc H b (l++[k]):=by
 by_cases E:k∈K
 ·rw[QaL E]at h;refine⟨K,h,λx=>?_⟩;rw[Le,Lb,<-G x];exact⟨.inl,λhx=>hx.elim id λe=>e ▸ E⟩
 refine⟨K++[k],?_,λx=>by rw[Le,Le,G x]⟩;rw[QaK E]at h;exact h
end
section
variable {κ:Type}[DecidableEq κ]{enc:κ->OY}{x:OZ}{b:Nat}{l:List κ}{k:κ}
theorem jy [hm:Mp P t kt et (.bool false)][hk:jk P kt enc](h:Xs enc ↑w b l)(hx:ev f x=.map (some b))(E:ev f y=enc k):(execOp (ev f) ⟨d,.lookup t x y false,ty,pS,af,gd⟩).run P w=.ok (.value (.bool (decide (k∈l)))) w:=by
 obtain⟨K,G,I⟩:=h;rw[Uo G hx E,bD (I k)]
theorem qZ [hm:Mp P t kt et (.bool false)][hk:jk P kt enc]{v:OZ}(h:Xs enc ↑w b l)(hx:ev f x=.map (some b))(G:ev f y=enc k)(I:ev f v=.bool true)
  (hK:∀w',O1 [b] w w'->Xs enc ↑w' b (l++[k])->K (QO f d undef) w'):XO P ⟨d,.mapUpdate t x y v,ty,pS,af,gd⟩ f w K:=by
 obtain⟨K,J,S⟩:=h;exact YF J hx G λw' T E=>hK w' T (Xs.put (by rw[I]at E;exact E) S)
theorem jJ [hm:Mp P t kt et (.bool false)][hk:jk P kt enc]{v:OZ}(h:Xs enc ↑w b l)(hx:ev f x=.map (some b))(G:ev f y=enc k)(I:ev f v=.bool true)
  (hK:∀w',O1 [b] w w'->Xs enc ↑w' b (l++[k])->K (QO f d undef) w'):XO P ⟨d,.insert t x y v,ty,pS,af,gd⟩ f w K:=by
 obtain⟨K,J,S⟩:=h;exact Yn J hx G λw' T E=>hK w' T (Xs.put (by rw[I]at E;exact E) S)
end
instance ayYv1:Ay sV 156 2 3 1:=⟨oc,oc⟩
def UG:List QF->Int
 | []=>0
 | a::l=>if XK a≠0 then XK a else UG l
def QiI (kd:Int)(l:List QF):Int:=if UG l≠0 then UG l else if kd≠1/\kd≠2 then 11 else 0
theorem QoV (a b:QF)(kd:Int):QiI kd [a,b]=lgE a b kd:=by
 unfold QiI lgE UG;by_cases E:XK a≠0
 ·simp only[OQ E]
 rw[OP E,OP E];unfold UG;by_cases G:XK b≠0
 ·simp only[OQ G]
 rw[OP G,OP G];unfold UG;simp
theorem QcJ {v:OY}{ps:List AV}(h0:XG L ↑w v ps)(kd:Int):
  QT sV 68 [sS kd,v] w λr w'=>r=sS (QiI kd (ps.map (·.a)))/\sW w w':=by
 have h:=h0.up (L':=[]) od;have hv:=h.arr.le;have G:QiI kd (ps.map (·.a))=if UG (ps.map (·.a))≠0 then UG (ps.map (·.a))else if kd≠1/\kd≠2 then 11 else 0:=rfl
 refine Zf (QiI kd (ps.map (·.a))) λE hE=>?_;rw[hE]at G ⊢;refine Zn func68 ?_;refine Qc<|Qb<|Qe<|Ql<|QG h.arr O<|Qa<|xe<|QW (α:=Nat) [(4,4),(6,7),(10,19)] (λz=>[(10,sS z)]) (λz w'=>z<=ps.length/\sW w w'/\UG ((ps.drop z).map (·.a))=UG (ps.map (·.a))) (λz=>ps.length - z) 0 La ⟨Ln _,O1.Z _ _,O⟩ ?_;rintro k g w1 ⟨hk,I,hk1⟩;refine Zi rfl O (λU=>?_) (λU=>?_)
 ·refine Qu ?_;have hj:ps.length<=k:=by have hl:¬(k:Int)<(ps.length:Int):=U;omega
  rw[Ls hj]at hk1;have hz:UG (ps.map (·.a))=0:=hk1.symm;rw[OP (ou hz)]at G;refine Qe<|QV (α:=Bool) [(20,25)] (λz=>[(25,.bool z)]) (λz w'=>w'=w1/\z=decide (kd≠1/\kd≠2)) oh ?_ ?_
  ·refine Qs<|Qa<|xb (Kw O O) (λV=>?_) (λV=>?_)
   ·refine Qa<|Qa<|ZI O O<|QA O<|xe ?_;have Y:¬kd=1:=V;exact⟨decide (¬kd=2),La,O,by simp[Y]⟩
   refine Qa<|YD<|QA O<|xe ?_;have Y:kd=1:=Lr.1 V;exact⟨false,La,O,by simp[Y]⟩
  rintro z g w2 ⟨rfl,hc⟩;refine Q9 O (λha=>?_) (λha=>?_)
  ·rw[OQ (OU (hc.symm.D ha))]at G;subst G;refine Qc<|Qb<|Qj ⟨[_],La,O,I⟩
  rw[OP (OW (hc.symm.D ha))]at G;subst G;refine Qf<|Qc<|Qb<|Qj ⟨[_],La,O,I⟩
 have J:k<ps.length:=by have hl:(k:Int)<(ps.length:Int):=U;omega
 have he:=Lk J;rw[L5 J,LU,UG]at hk1;refine Qf<|Qe<|Qn<|Qc<|O4 (g:=ZG) (i:=k) Vn (h.I I).arr O O J λhw hf=>?_;refine Zf (ps[k]'J) λq hq=>?_;rw[hq]at hf he hk1;have S:=(h.I I).each q he;refine x (QE hf O O)<|QP [nS,sS 0,nS,nS] λb6 w3 hm hn ho=>Q0 (ZG q) ho ⟨S.al.one,O,S.mr.one,S.ed.one,Z⟩ λw4 hp hs =>
  xe ?_
 have hg:sW w1 w4:=hm.O hp hn;refine Qc<|QY hs O O<|Qw<|(YV (S.I hg)).Y ?_;rintro r5 w5 ⟨rfl,ht⟩;refine Qb ?_;have hh:=(I.D hg).D ht;refine Ql<|ZI O O<|xe<|Za rfl (λT=>?_) (λT=>?_)
 ·rw[OQ T]at hk1;have hu:UG (ps.map (·.a))≠0:=by rw[<-hk1];exact T
  rw[OQ hu,<-hk1]at G;subst G;refine Ql<|Qb<|Qj ⟨[_],La,O,hh⟩
 rw[OP T]at hk1;refine Qf<|Qs<|QC O O<|Qa<|xe ?_;exact⟨k+1,oa,La,J,hh,hk1⟩
abbrev stI (l:LI):List (Int×OY):=l.map λs=>(s,Value.bool true)
structure Mch (H:xw)(b m1 m2:Nat)(a:QF):Prop where
 B:QK H b 251 [.map (some m1),.map (some m2),sS (fst a)]
 e:ZP Yg H m1 (Kl [] a.ed)
 m:ZP Xm H m2 (stI a.mr)
theorem Mch.J {X:LN}{w w':OX}{b E G:Nat}{a:QF}(h:Mch ↑w b E G a)(I:O1 X w w')(J:b∉X)(S:E∉X)(T:G∉X):Mch ↑w' b E G a:=⟨h.B.J I J,h.e.J I S,h.m.J I T⟩
theorem Mch.I {b:Nat}(h:Mch ↑w b E G a)(I:sW w w'):Mch ↑w' b E G a:=h.J I od od od
theorem yL {b I J:Nat}(h:Mch ↑w b I J a)(S:Zb a)(s v:Int):
  QT sV 145 [sP b,sS s,sS v] w λr w'=>r=sS (O8 a.ed s v)/\sW w w':=by
 have E:O8 a.ed s v=(if(O9 a.ed s v).isSome=true then(O9 a.ed s v).getD 0 else -1):=by rw[Qhg];cases O9 a.ed s v <;> rfl
 refine Zn func145 ?_;refine Qc<|Qb<|Qe<|Ql<|Z0 O<|Qr O h.B O O<|Qa<|Qa<|x (QB ⟨O,O,Z⟩)<|x (QjP (s:=a) (q:=s) (v:=v) h.e S.edi O O) <|
  Qa<|QL rfl O<|QL O O<|x Qd<|Qb<|Ql<|xe ?_
 refine Za rfl (λG=>?_) (λG=>?_)
 ·rw[OQ G]at E;refine Ql<|Qb<|Qj ⟨[_],La,by rw[E];rfl,O1.Z _ _⟩
 rw[OP G]at E;refine Qf<|Qc<|Qb<|Qj ⟨[_],La,by rw[E];rfl,O1.Z _ _⟩
theorem Qd9 {b S:Nat}(h:Mch ↑w b S T a)(s kd:Int):
  QT sV 73 [sP b,sS s,sS kd] w λr w'=>r=.bool (zb a kd s)/\sW w w':=by
 refine Zn func73 ?_;refine Qc<|Qb<|QV (α:=Bool) [(6,20)] (λz=>[(6,.bool z)]) (λz w'=>w'=w/\z=zb a kd s) oh ?_ ?_
 ·refine Qs<|Qa<|xb (Yd O O) (λE=>?_) (λE=>?_)
  ·have G:0<=s:=E;refine Qa<|Qa<|xb (Q6 O O) (λI=>?_) (λI=>?_)
   ·refine Qa<|Zy<|Zy<|QA O<|QA O<|Qb ?_;have J:kd=1:=I;exact⟨true,La,O,by simp[zb,G,J]⟩
   have J:¬kd=1:=I;refine Qa<|Qa<|Z0 O<|Qr O h.B O O<|Qa<|x (Uo (s:=s) h.m O O)<|QA O<|x (Ul O) <|
    Qb<|⟨decide (s∈a.mr),La,O,by simp[zb,G,J]⟩
  have G:¬0<=s:=E;refine Qa<|Zy<|Zy<|Zy<|J0<|QA O<|x Qd <|
   xe ?_
  exact⟨false,La,O,by simp[zb];omega⟩
 rintro z g U ⟨rfl,rfl⟩;exact Qj ⟨[_],La,O,O1.Z _ _⟩
theorem Qhu {b10 S b11 hf hg U hh hj:Nat}{b:QF}{kd:Int}(hk:QK ↑w b10 152 [sP T])(hl:QK ↑w b11 152 [sP U])
  (V:QK ↑w S 3 [sS kd]) (ha:Mch ↑w T hf hg a) (hb:Mch ↑w U hh hj b) (s t:Int):
  QT sV 72 [.agg #[sS s,sS t],sP b10,sP S,sP b11] w λr w'=>r=.bool (!(zb a kd s == zb b kd t))/\sW w w':=by
 refine Zn func72 ?_;refine Qc<|Zd [sS s,sS t] λb4 J G hm Y=>Qb ?_;have hd:sW J { J with drawn:=J.drawn+1 }:=O1.C _ _
 refine Qe<|ZJ [] [oz 0,oz 1,oz 2,oz 3,oz 5,oz 6,oz 7,oz 8,oA 4,oA 9,oz 10,oz 11]<|pq (λ_ E=>Qk ((hk.I G).I E) O O)<|p (λ_=>ZQ (i:=0) O O og)<|pq (λ_ E=>Qk (Y.I E) O O)<|pq (λ_ E=>Qk ((V.I G).I E) O O)<|pq (λ_ E=>Qk ((hl.I G).I E) O O) <|
  p (λ_=>ZQ (i:=1) O O og)<|pq (λ_ E=>Qk (Y.I E) O O)<|pq (λ_ E=>Qk ((V.I G).I E) O O)<|pk<|xg<|(Qd9 ((ha.I G).I hd) s kd).Y ?_
 rintro r2 w2 ⟨rfl,I⟩;refine⟨hd.D I,?_⟩;refine pk<|xg<|(Qd9 (((hb.I G).I hd).I I) t kd).Y ?_;rintro r3 w3 ⟨rfl,he⟩;refine⟨(hd.D I).D he,?_⟩;refine p (λ_=>Qcv O O)<|p ZK<|pe ?_;exact Qj ⟨[_],La,O,((G.D hd).D I).D he⟩
theorem yM (h:Zr [] ↑w va vm ve a)(ho:Zb a):
  QT sV 69 [.agg #[va,sS a.st,vm,ve]] w λr w'=>sW w w'/\∃b E G,r=sP b/\↑w<=b/\↑w<=E/\↑w<=G/\Mch ↑w' b E G a:=by
 have gn:=h.ed.le;have go:=h.mr.le;refine Zn func69 ?_;refine Qc<|Zd [va,sS a.st,vm,ve] λb1 w1 h1 gq h2=>Qb<|Qc<|Qo<|ZU Yg λE w2 hL gr h3=>Qo<|ZU Xm λG w3 h4 gs h5=>x (QB ⟨O,O,O,Z⟩)<|Zd [.map (some E),.map (some G),sS 0] λb11 S ha gt h9 =>
  Qb ?_
 have gu:=h3.lt;have gv:=h5.lt;have hg:=(hL.D h4).D ha;have hh:=h2.I hg;have gx:=h2.lt;have hM:ZP Yg ↑S E []:=((h3.J h4 od).J ha od);have hN:ZP Xm ↑S G []:=h5.J ha od;have hl:∀{b:Nat},b∈[b11,E,G]->↑w1<=b:=λhb=>by simp only[oJ,oH,or_false]at hb;omega
 have hB:b1∉[b11,E,G]:=λhb=>oo (hl hb)
 have hO:∀b∈[b11,E,G],↑w<=b:=λb hb=>oo (hl hb)
 have hA:∀{w':OX},O1 [b11,E,G] S w'->Zr [] ↑w' va vm ve a:=λhs =>
  ((((h.I h1).up (L':=[b11,E,G]) (λb hb=>.inr (hl hb))).I hg).st hs).up od
 have hP:∀b∈[b11],b∈[b11,E,G]:=λb hb=>by simp only[oF]at hb;simp[hb]
 have k1:∀b∈[E],b∈[b11,E,G]:=λb hb=>by simp only[oF]at hb;simp[hb]
 have k2:∀b∈[G],b∈[b11,E,G]:=λb hb=>by simp only[oF]at hb;simp[hb]
 refine QV (α:=Unit) [(12,17)] (λz=>[]) (λz w'=>O1 [b11] S w'/\QK ↑w' b11 251 [.map (some E),.map (some G),sS (fst a)]) oh ?_ ?_
 ·refine Qc<|Qr O hh O O<|x (Q6 O O)<|xe<|Za O (λhn=>?_) (λhn=>?_)
  ·have hf:fst a=-1:=by unfold fst;rw[OQ hn]
   refine Qs<|Qa<|Z0 O<|Q7 O<|Qo<|Qv (j:=2) (u:=sS (-1)) h9 O O od rfl λw5 hQ hR=>xe ?_;exact⟨(),Z,hQ,by rw[hf];exact hR⟩
  have hf:fst a=0:=by unfold fst;rw[OP hn]
  refine Qf ?_;exact⟨(),Z,O1.Z _ _,by rw[hf];exact h9⟩
 rintro z g w6 ⟨hp,hS⟩;have hq:=hp.Y hP;have hT:ZP Yg ↑w6 E []:=hM.J hp ol;have hU:ZP Xm ↑w6 G []:=hN.J hp ol;have hV:=hh.J hq hB;have h6:=hA hq;refine Qe<|Qc<|Qr O hV O O<|QG h6.ed O<|Qa<|xe<|QW (α:=Nat) [(5,5),(21,36)] (λz=>[(21,sS z)]) (λz w'=>z<=a.ed.length/\O1 [E] w6 w'/\ZP Yg ↑w' E (Kl [] (a.ed.take z))) (λz=>a.ed.length - z) 0 La
  ⟨Ln _,O1.Z _ _,hT⟩ ?_
 rintro k g w7 ⟨hk,T,hr⟩;have ht:O1 [b11,E,G] S w7:=hq.Q (T.Y k1);have h7:=hA ht;have hC:=hS.J T ol;have hW:=hU.J T ol;have hX:=hh.J ht hB;refine Zi rfl O (λhu=>?_) (λhu=>?_)
 ·refine Qu ?_;have hY:a.ed.length<=k:=by have hv:¬(k:Int)<(a.ed.length:Int):=hu;omega
  rw[Lq hY]at hr;refine Qe<|Qc<|Qr O hX O O<|QG h7.mr O<|Qa<|xe<|QW (α:=Nat) [(7,7),(40,49)] (λz=>[(40,sS z)]) (λz w'=>z<=a.mr.length/\O1 [G] w7 w'/\ZP Xm ↑w' G (stI (a.mr.take z))) (λz=>a.mr.length - z) 0 La
   ⟨Ln _,O1.Z _ _,hW⟩ ?_
  rintro j g w8 ⟨hj,U,hw⟩;have hD:O1 [b11,E,G] S w8:=ht.Q (U.Y k2);have h8:=hA hD;have hE:=hC.J U ol;have hZ:=hr.J U ol;refine Zi O O (λhy=>?_) (λhy=>?_)
  ·refine Qu ?_;have ga:a.mr.length<=j:=by have hv:¬(j:Int)<(a.mr.length:Int):=hy;omega
   rw[Lq ga]at hw;refine Ql<|Qb<|Qj ⟨[sP b11],La,(h1.D hg).S hD (λb hb=>.inr (hO b hb)),b11,E,G,O,oa,oa,oa,hE,hZ,hw⟩
  have I:j<a.mr.length:=by have hv:(j:Int)<(a.mr.length:Int):=hy;omega
  have hF:a.mr.take (j+1)=a.mr.take j++[a.mr[j]'I]:=Lh I;have hG:(a.mr[j]'I)∉a.mr.take j:=by
   intro hm;obtain⟨i,hi,e⟩:=LM hm;rw[MZ]at e;have hi':i<j:=by rw[LA]at hi;omega
   have:=YN.get ho.mri I hi';omega
  refine Qf<|Qe<|Qn<|Qc<|xii (i:=j) h8.mr O O I λgy hH=>?_;refine Zf (a.mr[j]'I) λs hs=>?_;rw[hs]at hH hF hG;refine x (Qq hH O)<|Qb<|Qs<|Qa<|Z0 O<|Qr O hE O O<|Qa<|Qo<|YF (k:=s) hw O O λw9 gb gc=>xe ?_;refine Qs<|QC O O<|Qa<|xe<|⟨j+1,oa,La,I,U.Q gb,?_⟩;rw[hF];have hI:ZP Xm ↑w9 G (O7 ((a.mr.take j).map λs=>(s,Value.bool true)) s (.bool true)):=gc;rw[QaK hG]at hI;exact hI
 have V:k<a.ed.length:=by have hv:(k:Int)<(a.ed.length:Int):=hu;omega
 have hJ:=zz (m:=[]) V;refine Qf<|Qe<|Qn<|Qc<|xie (i:=k) h7.ed O O V λgz hK=>?_;refine Zf (a.ed[k]'V) λe he=>?_;rw[he]at hK hJ;refine x (QE hK O O)<|QP [sS 0,sS 0,sS 0] λb5 g0 ge gg gh=>Q0 (Qp e) gh ox λY gi hz =>
  xe ?_
 have h0:sW w7 Y:=ge.O gi gg;have gj:=hC.I h0;have gk:ZP Yg ↑Y E (Kl [] (a.ed.take k)):=hr.J h0 od;refine ZJ [] (Y4 0 12 [11])<|p Qy<|p (YC O)<|p (QH O)<|pq (λ_ J=>Qk (gj.I J) O O) <|
  p (QH rfl)<|pq (λ_ J=>Qk (hz.I J) O O)<|p (QH O)<|pq (λ_ J=>Qk (hz.I J) O O) <|
  p (λ_=>QB ⟨O,O,Z⟩)<|p (QH O)<|pq (λ_ J=>Qk (hz.I J) O O)<|pkk<|YF (k:=(e.1,e.2.1)) (gk.J (O1.C [] Y) od) rfl rfl λg2 gl gm =>
  pe ?_
 refine Qs<|QC O O<|Qa<|xe<|⟨k+1,oa,La,V,((T.D h0).D (O1.C [] Y)).Q gl,?_⟩;rw[hJ];exact gm
section
variable {all:xz}
def Qof (all:xz)(pre:xo)(k:Nat)(t:Pt):Bool :=
 Region.noSelect all.toArray && (pre.length+(t.len+1) == all.length) && XQ all.toArray pre (oP all.length false) && (Region.ready .any all.toArray (ZO pre (oP all.length false)) == [k]) && QgP all.toArray t ((ZO pre (oP all.length false)).setIfInBounds k true)
theorem Qlv {Q:Exit->Fr->OX->Prop}(C:xu)(pre:xo)(k:Nat)(t:Pt)(V:P.follows .mixedOrders=true)(Y:Xf n all=true)(S:Qof all pre k t=true)
  (hC:C { w with drawn:=w.drawn+1 }) (h:XP P all C (λf1 E=>Z3 all f1 (QR all k)=true/\XO P (QR all k) f1 E λG w'=>C w'/\XT P all C (λf w=>Q .normal f w) t G w') pre f { w with drawn:=w.drawn+1 }):W P n (.region id all.toArray true) Q f w:=by
 simp only[Qof,oI,beq_iff_eq]at S;obtain⟨⟨⟨⟨T,hl⟩,hq⟩,I⟩,ht⟩:=S;refine Jj C V Y ?_;have U:=Yx (K:=λf w=>Q .normal f w) (m:=t.len+1) T pre (oP all.length false) f _ hC hq
  (B:=λf1 E=>Z3 all f1 (QR all k)=true/\XO P (QR all k) f1 E λG w'=>C w'/\XT P all C (λf w=>Q .normal f w) t G w')
  (λf1 J=>by
   refine JC (λh0=>(by rw[h0]at I;cases I)) ?_;rw[I];intro j hj o ho;have ha:j=k:=by simpa using hj
   subst ha;rw[ZD ho]at J;rw[J.1,cond_true];exact J.2.Y λv w' hx=>⟨.inr (.inr hx.1),Vo T t _ _ _ (by simp[YB]) hx.1 ht hx.2⟩) h
 rw[hl]at U;exact U
end
theorem At.sub {H:xw}{a:Addr}(h:At L H a us)(n:Nat):At L H a (us.take n):=
 ⟨λu E=>h.out u (L3 E),λu E=>h.lt u (L3 E),λj u E=>by
  rw[LW]at E;split at E
  ·exact h.cell j u E
  cases E⟩
abbrev Yy (p:Vs):LV:=[sS p.x,sS p.y,sS p.b,sS p.v]
theorem qC (p:Vs):(Yy p).length=4:=rfl
theorem Qhf:∀(es:List Ed) (s v:Int),(∀e∈es,0<=e.2.2)->-1<=O8 es s v
 | [],_,_,_=>Mt _
 | e::es,s,v,h=>by
  rw[O8];split
  ·have:=h e Lo;omega
  exact Qhf es s v (λx hx=>h x (Lm _ hx))
theorem Qhb (E:Zb a)(s v:Int):-1<=O8 a.ed s v/\(O8 a.ed s v<a.st\/O8 a.ed s v=-1):=by
 have G:=Qhf a.ed s v (λe I=>(E.ed e I).2.2.2.1);refine⟨G,?_⟩;by_cases h:O8 a.ed s v<0
 ·right;omega
 left;exact Qhd E h
structure VsI (a b:QF)(V:List Vs):Prop where
 nd:(V.map Vs.ky).Nodup
 rg:∀p∈V,-1<=p.x/\(p.x<a.st\/p.x=-1)/\-1<=p.y/\(p.y<b.st\/p.y=-1)
 bk:∀(k:Nat) (h:k<V.length),V[k].b<(k:Int)
def cdV (m:Nat)(p:Int×Int):Int:=(p.1+1)*(m+1)+(p.2+1)
theorem Qnw {x y:Int}(hx:-1<=x/\(x<n\/x=-1))(J:-1<=y/\(y<m\/y=-1)):0<=cdV m (x,y)/\cdV m (x,y)<(((n+1)*(m+1):Nat):Int):=by
 unfold cdV;obtain⟨u,E⟩:∃u:Nat,x+1=u:=⟨(x+1).toNat,oa⟩;obtain⟨v,G⟩:∃v:Nat,y+1=v:=⟨(y+1).toNat,oa⟩;have I:u<=n:=oa
 have S:v<=m:=oa
 show 0<=(x+1)*((m:Int)+1)+(y+1)/\(x+1)*((m:Int)+1)+(y+1)<_;rw[E,G];have T:u*(m+1)+v<(n+1)*(m+1):=by
  have U:u*(m+1)<=n*(m+1):=MI _ I;have V:(n+1)*(m+1)=n*(m+1)+(m+1):=by rw[Ms,Nz]
  omega
 have e:((u:Int)*((m:Int)+1)+(v:Int))=((u*(m+1)+v:Nat):Int):=by push_cast;rfl
 rw[e];constructor <;> omega
theorem Qlg {x y G E:Int}(hx:-1<=x)(he:-1<=G)(hy:-1<=y/\(y<m\/y=-1))(hf:-1<=E/\(E<m\/E=-1))(h:cdV m (x,y)=cdV m (G,E)):(x,y)=(G,E):=by
 unfold cdV at h;have J:(x+1)*((m:Int)+1)+(y+1)=(G+1)*((m:Int)+1)+(E+1):=h;obtain⟨u,S⟩:∃u:Nat,x+1=u:=⟨(x+1).toNat,oa⟩;obtain⟨I,T⟩:∃I:Nat,G+1=I:=⟨(G+1).toNat,oa⟩;obtain⟨v,U⟩:∃v:Nat,y+1=v:=⟨(y+1).toNat,oa⟩;obtain⟨v',V⟩:∃v':Nat,E+1=v':=⟨(E+1).toNat,oa⟩;rw[S,T,U,V]at J;have Y:u*(m+1)+v=I*(m+1)+v':=by exact_mod_cast J
 have ha:v<m+1:=oa
 have hc:v'<m+1:=oa
 have e1:u=I:=by
  have a1:(u*(m+1)+v) / (m+1)=u:=by rw[Nat.mul_comm,Nat.mul_add_div oa,Nat.div_eq_of_lt ha,MS]
  have a2:(I*(m+1)+v') / (m+1)=I:=by rw[Nat.mul_comm,Nat.mul_add_div oa,Nat.div_eq_of_lt hc,MS]
  rw[<-a1,<-a2,Y]
 subst e1;have:x=G/\y=E:=⟨oa,oa⟩;rw[this.1,this.2]
theorem VsI.len {b:QF}(I:Zb a)(hb:Zb b){V:List Vs}(h:VsI a b V):V.length<=(a.st.toNat+1)*(b.st.toNat+1):=by
 have he:=I.st0;have hf:=hb.st0;have J:=xD ((a.st.toNat+1)*(b.st.toNat+1)) ((V.map Vs.ky).map (cdV b.st.toNat)) (by
  unfold List.Nodup;rw[L7];refine(List.Pairwise.imp_of_mem ?_ h.nd);intro p q G S T e;obtain⟨U,Y,rfl⟩:=Lz.1 G;obtain⟨q',hc,rfl⟩:=Lz.1 S;have E:=h.rg U Y;have r2:=h.rg q' hc;exact T (Qlg E.1 r2.1 ⟨E.2.2.1,oa⟩ ⟨r2.2.2.1,oa⟩ e)) (λx hx=>by
  obtain⟨k,hk,rfl⟩:=Lz.1 hx;obtain⟨p,G,rfl⟩:=Lz.1 hk;have E:=h.rg p G;exact Qnw ⟨E.1,oa⟩ ⟨E.2.2.1,oa⟩)
 simpa using J
theorem Qm5 {V W:List Vs}(h:i<V.length):gV (V++W) i=gV V i:=by unfold gV;simp[oO,Of h]
theorem QcQ {V:List Vs}(h:i<V.length):gV V i=V[i]'h:=by unfold gV;simp[oO,h]
theorem Qh0 (E:Zb a):-1<=fst a/\(fst a<a.st\/fst a=-1):=by
 have:=E.st0;unfold fst;split
 ·exact⟨oa,.inr O⟩
 exact⟨oa,.inl oa⟩
theorem VsI.one {b:QF}(J:Zb a)(hb:Zb b):VsI a b [⟨fst a,fst b,-1,0⟩]:=by
 have E:=Qh0 J;have G:=Qh0 hb;refine⟨od,λp I=>?_,λk h=>?_⟩
 ·simp only[oF]at I;subst I;exact⟨E.1,E.2,G.1,G.2⟩
 have S:k=0:=by simpa using h
 subst S;exact(by decide:(-1:Int)<0)
theorem VsI.add {b:QF}(J:Zb a)(hb:Zb b){V:List Vs}(h:VsI a b V)(hi:i<V.length){p:Vs}{v:Int}(S:(yN a b i p v).ky∉V.map Vs.ky):VsI a b (V++[yN a b i p v]):=by
 refine⟨?_,λq E=>?_,λk U=>?_⟩
 ·rw[Lv,Mr];refine⟨h.nd,od,λx hx y G e=>?_⟩;simp only[oT,OG,oF]at G;subst G;subst e;exact S hx
 ·rcases Le.1 E with E|E
  ·exact h.rg q E
  simp only[oF]at E;subst E;have I:=Qhb J p.x v;have r2:=Qhb hb p.y v;exact⟨I.1,I.2,r2.1,r2.2⟩
 rw[List.getElem_append];split
 ·rename_i T;exact h.bk k T
 have:V.length<=k:=oa
 simp only[List.getElem_singleton,yN];omega
theorem Qht (V:List Vs)(f k:Nat):lgW V (f+1) k=if 0<=(gV V k).b then(gV V k).v::lgW V f (gV V k).b.toNat else[]:=rfl
instance:Bw sV 253 [sS 0,sS 0,sS 0,sS 0] [(0,2),(2,1),(3,1)]:={}
abbrev VsO (base:Nat)(w:OX)(v:OY)(l:List Vs):Prop:=w.ownsRow base 253 4 v l.length (l.flatMap Yy)
theorem VsO.snoc {v:OY}{l:List Vs}{p:Vs}(h:w.ownsRow base 253 4 v (l.length+1) (l.flatMap Yy++Yy p)):VsO base w v (l++[p]):=by
 unfold VsO;rw[Lc,LC];simpa using h
theorem J7 {p:Prop}{i:Decidable p}(h:(!@decide p i)=true):¬p:=by
 cases i with
 | isTrue E=>cases h
 | isFalse E=>exact E
theorem Jd {p:Prop}{i:Decidable p}(h:(!@decide p i)=false):p:=by
 cases i with
 | isTrue E=>exact E
 | isFalse E=>cases h
structure ji (H:xw)(m:Nat)(V:List Vs):Prop where
 h:∃K:xq,ZP Yg H m (setM K)/\∀k,k∈K↔k=(-1,-1)\/k∈V.map Vs.ky
theorem Ku {H:xw}{K:xq}{k:Int×Int}(h:ZP Yg H m (O7 (setM K) k (.bool true))):∃K',ZP Yg H m (setM K')/\∀x,x∈K'↔x=k\/x∈K :=
 let⟨K',a,b⟩:=Xs.put h (λ_=>Iff.rfl)
 ⟨K',a,λx=>(b x).D (by rw[Le,Lb];exact Or.comm)⟩
theorem ji.I {V:List Vs}(h:ji ↑w m V)(E:sW w w'):ji ↑w' m V:=let⟨K,G,I⟩:=h.h;⟨K,G.J E od,I⟩
theorem yO (a b:QF)(i:Nat)(p:Vs)(V:List Vs)(v:Int):((yN a b i p v).ky≠(-1,-1)/\(yN a b i p v).ky∉V.map Vs.ky/\lgA a b i p V v=V++[yN a b i p v])\/(((yN a b i p v).ky=(-1,-1)\/(yN a b i p v).ky∈V.map Vs.ky)/\lgA a b i p V v=V):=by
 unfold lgA;by_cases h:(yN a b i p v).ky≠(-1,-1)/\(yN a b i p v).ky∉V.map Vs.ky
 ·exact .inl ⟨h.1,h.2,OQ h⟩
 refine .inr ⟨?_,OP h⟩;by_cases E:(yN a b i p v).ky=(-1,-1)
 ·exact .inl E
 exact .inr (Lr.1 λG=>h ⟨E,G⟩)
theorem QeT {ka mj mo kb mq ms:Nat}{b:QF}{kd:Int}[Fu sV g fn](hS:Qt [] ↑w vl al)(kc:Mch ↑w ka mj mo a)(ke:Mch ↑w kb mq ms b)(ho:Zb a)(hp:Zb b)
  (hk:∀(s t:Int) (w1:OX),sW w w1->QT sV g ([.agg #[sS s,sS t]]++cap) w1 λr w'=>r=.bool (!(zb a kd s == zb b kd t))/\sW w1 w'):
  QT sV 70 [vl,sP ka,sP kb,.func (.func g) #[] cap.toArray] w λr w'=>sW w w' /\
   match lgL a b kd al ((a.st.toNat+1)*(b.st.toNat+1)+1) 0 [⟨fst a,fst b,-1,0⟩]with|none=>r=.tuple #[Zo,.bool false]|some u=>∃v,r=.tuple #[v,.bool true]/\Qh 3 ↑w w' v u:=by
 have hall:=hS.le;have ha1:=ho.st1;have hb1:=hp.st1;have mt:(a.st.toNat+1)*(b.st.toNat+1)<=4097*4097:=Oz oa oa;refine Zf ((a.st.toNat+1)*(b.st.toNat+1)) λN hN=>?_;rw[hN]at mt ⊢;refine Zf (lgL a b kd al (N+1) 0 [⟨fst a,fst b,-1,0⟩]) λR hR=>?_;rw[hR];refine Zn func70 ?_;refine Qc<|x Qd<|Qb<|Qe<|ZJ [] (Y4 0 11 [9,10])<|p Qy<|p (YC O)<|p (QH O)<|pq (λ_ E=>Qk (kc.B.I E) O O)<|p Qy<|p (YC O) <|
  p (QH rfl)<|pq (λ_ E=>Qk (ke.B.I E) O O)<|p (λ_=>QB ⟨O,O,Z⟩)<|pk<|YK (us:=[sS 0,sS 0]) O λb10 w1 kf mu mv=>⟨(O1.C [] w).D kf,?_⟩
 refine pkk<|Us [sS (fst a),sS (fst b)] mv ov λw2 mw hT=>pe ?_;have my:↑w<=b10:=mu;have mz:sW w w2:=((O1.C [] w).D kf).O mw my;have hl10:=hT.lt;refine Qc<|QY hT O O<|x (Zq [(0,[sS (fst a),sS (fst b)]),(1,[sS (-1)]),(2,[sS 0])] ⟨O,O,O,O,O,O,Z⟩)<|Qo<|Q5 [Yy ⟨fst a,fst b,-1,0⟩] λhA S kg hb29 kh =>
  Qb ?_
 have m0:=mz.D kg;have hl29:=kh.lt;have m1:=hT.I kg;have m2:VsO ↑w S (sL hA 1 1) [⟨fst a,fst b,-1,0⟩]:=kh.own (n:=1) (sz:=4) O oa oa;refine QV (α:=Nat) [(30,33),(12,12)] (λz=>[(12,.map (some z))]) (λz w'=>sW S w'/\↑S<=z/\ji ↑w' z [⟨fst a,fst b,-1,0⟩]) oh ?_ ?_
 ·have hU:sW S { S with drawn:=S.drawn+1 }:=O1.C _ _
  have ki:∀(k:Int×Int),k∈[⟨fst a,fst b,-1,0⟩].map Vs.ky↔k=(fst a,fst b):=λk=>by simp[Vs.ky]
  refine Qlv (sW S) [oz 1,oz 3] 0 (.fk [] 2 4 (.pl [oA 4,oz 5,oz 6]) (.pl [oA 2,oz 5,oz 6])) mixed oh oc (O1.C _ _) ?_;refine pq (λ_ E=>Zj (m1.I E) O O)<|p (λ_=>QB ⟨O,O,Z⟩)<|pe ⟨O,ZU Yg λm w4 hq hm hM=>⟨hU.D hq,tf<|pe ⟨⟨O,?_⟩,O,?_⟩⟩⟩
  ·have T:↑S<=m:=hm;refine Yn (k:=(fst a,fst b)) hM O O λw5 he hV=>?_;have hg:=(hU.D hq).O he T;obtain⟨K1,hW,hX⟩:=Ku (K:=[]) hV;refine⟨hg,?_⟩;refine tp<|pk<|Yn (k:=(-1,-1)) hW O O λw6 I hY=>⟨hg.O I T,?_⟩;refine p Qy<|p ZK<|pe ?_;obtain⟨K2,hZ,ga⟩:=Ku hY;exact⟨m,La,hg.O I T,T,⟨K2,hZ,λk=>by rw[ga,hX,ki];simp⟩⟩
  have T:↑S<=m:=hm;refine Yn (k:=(-1,-1)) hM O O λw5 he hV=>?_;have hg:=(hU.D hq).O he T;obtain⟨K1,hW,hX⟩:=Ku (K:=[]) hV;refine⟨hg,?_⟩;refine tp<|pk<|Yn (k:=(fst a,fst b)) hW O O λw6 I hY=>⟨hg.O I T,?_⟩;refine p Qy<|p ZK<|pe ?_;obtain⟨K2,hZ,ga⟩:=Ku hY;exact⟨m,La,hg.O I T,T,⟨K2,hZ,λk=>by rw[ga,hX,ki];simp[or_comm]⟩⟩
 rintro m g0 w4 ⟨hq,hm4,m3⟩;have m4:=m0.D hq;have m5:↑w<=m:=oa
 have m6:m∉ob (sL hA 1 1):=by
  intro h;have h':m∈[hA]:=h;simp only[oF]at h';omega
 refine Qe<|Qc<|Qb<|QW (α:=Nat×OY×List Vs×Nat) [(8,9),(11,11),(13,14),(16,17),(34,108)] (λz=>[(8,Zo),(11,z.2.1),(13,sS z.1)]) (λz w'=>z.1<=z.2.2.1.length/\sW w w'/\VsO ↑w w' z.2.1 z.2.2.1/\ji ↑w' m z.2.2.1/\m∉ob z.2.1/\VsI a b z.2.2.1/\z.2.2.2+z.1=N+1/\lgL a b kd al z.2.2.2 z.1 z.2.2.1=R) (λz=>z.2.2.2) (0,sL hA 1 1,[⟨fst a,fst b,-1,0⟩],N+1) ox
  ⟨Ln _,m4,Qm m2 hq,m3,m6,VsI.one ho hp,O,hR⟩ ?_
 rintro⟨i,vV,V,f⟩ g1 w5 ⟨hi,he,gb,kj,kk,hC,hf,J⟩;simp only[]at hi gb kj kk hC hf J;have hVlen:V.length<=N:=by rw[<-hN];exact VsI.len ho hp hC
 have gc:Zs [] ↑w5 vV V.length 4 (V.flatMap Yy):=QN gb oa od;refine Qe<|Ql<|Qa<|QG gc O<|ZX O O<|xe<|Zp rfl (λge=>?_) (λge=>?_)
 ·refine Qu ?_;have m7:¬i<V.length:=by have gg:¬(i:Int)<(V.length:Int):=ge;omega
  have m8:R=none:=by
   rw[<-J];cases f with
   | zero=>rfl
   | succ f=>rw[lgL,OP m7]
  rw[m8];refine Qc<|x Qd<|Qb<|Qj ⟨[Zo,.bool false],ov,he,O⟩
 have h3:i<V.length:=by have gg:(i:Int)<(V.length:Int):=ge;omega
 refine Exists.elim (show ∃f',f=f'+1 from⟨f - 1,oa⟩) λf' m9=>?_;rw[m9]at J;rw[lgL,OQ h3]at J;have pc:=QcQ h3;refine Qf<|Qe<|Qn<|Qe<|Ql<|Qa<|Qa<|O4 (g:=Yy) (i:=i) qC gc O O h3 λa43 gh=>?_;rw[<-pc]at gh;refine Zf (gV V i) λpi kn=>?_;rw[kn]at gh J;refine x (ZN O)<|x (QE (us:=[sS pi.x,sS pi.y]) (At.sub (gh.from 0) 2) O O) <|
  Qo<|xc (first:=[]) (capt:=cap) O<|(hk pi.x pi.y w5 he).Y ?_
 rintro r6 w6 ⟨rfl,I⟩;refine xe ?_;have hD:=he.D I;have pd:=Qm gb I;have ko:=gc.I I;refine Q9 rfl (λgi=>?_) (λgi=>?_)
 ·have E:lgC a b kd pi=true:=gi;rw[OQ E]at J;rw[<-J];refine Qe<|Ql<|Qb<|QW (α:=Nat×Nat×OY×LI) [(8,8),(14,14),(48,66)] (λz=>[(8,z.2.2.1),(14,sS z.2.1)]) (λz w'=>z.2.1<V.length/\sW w6 w'/\Qh 3 ↑w6 w' z.2.2.1 z.2.2.2/\z.2.2.2++lgW V z.1 z.2.1=lgW V (i+1) i/\z.2.1+1<=z.1/\z.2.2.2.length+z.1=i+1) (λz=>z.1) (i+1,i,Zo,[]) ov
   ⟨h3,O1.Z _ _,QM _ _ _ _,O,Lp _,od⟩ ?_
  rintro⟨fu,k,vo,wd⟩ g2 w7 ⟨hr,hE,hF,Y,pf,pg⟩;simp only[]at hr hF Y pf pg;have kp:=ko.I hE;have gj:=QcQ hr;have kq:=hC.bk k hr;have kr:=Qi hF;have hz7:=hE.size;refine Exists.elim (show ∃gk,fu=gk+1 from⟨fu - 1,oa⟩) λgk ph=>?_;rw[ph]at Y;rw[Qht]at Y;refine Qe<|Ql<|Qa<|O4 (g:=Yy) (i:=k) qC kp O O hr λa50 gl=>?_;rw[<-gj]at gl kq;refine Zf (gV V k) λG gm=>?_;rw[gm]at gl kq Y;refine x (ZN O)<|x (Qq (gl.fld 2 (sS G.b) O) O)<|x (Yd O O)<|xe<|Zp O (λgn=>?_) (λgn=>?_)
  ·refine Qu ?_;have go:¬0<=G.b:=gn;rw[OP go,LH]at Y;refine Ql<|Kr<|(zV hF oa).Y ?_;rintro r8 w8 ⟨kt,gq⟩;refine xe<|Ql<|x Qd<|Qb ?_;rw[Y]at kt;have pj:=hD.size;exact Qj ⟨[vo,.bool true],ov,(hD.D hE).S gq (λb hb=>.inr (oo (kr b hb).1)),vo,O,Q8 kt pj⟩
  have go:0<=G.b:=gn;rw[OQ go]at Y;have pn:G.b=(G.b.toNat:Int):=oa
  refine Qf<|Qe<|Qn<|Qs<|Qa<|Qa<|Qa<|O4 (g:=Yy) (i:=k) qC kp O O hr λa62 ku=>?_;rw[<-gj,gm]at ku;refine x (ZN O)<|x (Qq (ku.fld 3 (sS G.v) O) O) <|
   Qo<|Q5 [[sS G.v]] λb65 w9 gr hb65 po=>?_
  have hz9:=gr.size;refine Qo<|Q2 (news:=[sS G.v]) (L:=[]) (Qm hF gr) O O O (po.at od) om oa oa λpp pt pu pw hn10 =>
   Qb ?_
  have kv:sW w6 pt:=(hE.D gr).S pw (λb hb=>.inr (kr b hb).1);have pz:=ko.I kv;refine Qs<|Qa<|Qa<|O4 (g:=Yy) (i:=k) qC pz O O hr λa56 kw=>?_;rw[<-gj,gm]at kw;refine x (ZN O)<|x (Qq (kw.fld 2 (sS G.b) O) O)<|x Qd <|
   xe ?_
  refine⟨(gk,G.b.toNat,pp,wd++[G.v]),oe,⟨O,OR sS pn,Z⟩,oe,kv,Qh.snoc pu,?_,oe,by simp only[oM,oL];omega⟩;simp only[];rw[LE];exact Y
 have E:¬lgC a b kd pi=true:=by
  intro h;have p0:lgC a b kd pi=false:=gi;rw[p0]at h;cases h
 rw[OP E]at J;refine Qf<|Ql<|QG (hS.I hD) O<|Qa<|xe<|QW (α:=Nat×OY×List Vs) [(11,11),(16,17),(72,108)] (λz=>[(11,z.2.1),(72,sS z.1)]) (λz w'=>z.1<=al.length/\sW w w'/\VsO ↑w w' z.2.1 z.2.2/\ji ↑w' m z.2.2/\m∉ob z.2.1/\VsI a b z.2.2/\z.2.2=(al.take z.1).foldl (lgA a b i pi) V/\∃W,z.2.2=V++W) (λz=>al.length - z.1) (0,vV,V) ov
  ⟨Ln _,hD,pd,kj.I I,kk,hC,O,[],od⟩ ?_
 rintro⟨j,vU,U⟩ g3 ha ⟨hj,ht,hh,h4,hG,h5,hH,⟨W,h6⟩⟩;simp only[]at hj hh h4 hG h5 hH h6;have hUlen:U.length<=N:=by rw[<-hN];exact VsI.len ho hp h5
 have hUl:V.length<=U.length:=by rw[h6,Lc];omega
 have hl:i<U.length:=oa
 have kx:=Qi hh;refine Zi rfl O (λgs=>?_) (λgs=>?_)
 ·refine Qu ?_;have p4:al.length<=j:=by have gg:¬(j:Int)<(al.length:Int):=gs;omega
  rw[Lq p4]at hH;rw[<-hH]at J;refine Qs<|Qa<|QC O O<|Qb<|⟨(i+1,vU,U,f'),oe,ox,hl,ht,hh,h4,hG,h5,oe,J⟩
 have hw:j<al.length:=by have gg:(j:Int)<(al.length:Int):=gs;omega
 have kz:al.take (j+1)=al.take j++[al[j]'hw]:=Lh hw;have p5:gV U i=pi:=by rw[h6,Qm5 h3];exact kn
 refine Qf<|Qe<|Qn<|Qc<|xii (i:=j) (hS.I ht) O O hw λa74 k0=>?_;refine Zf (al[j]'hw) λv hv=>?_;rw[hv]at k0 kz;have hI:(al.take (j+1)).foldl (lgA a b i pi) V=lgA a b i pi U v:=by rw[kz,Mg,<-hH];rfl
 refine x (Qq k0 O)<|Qb<|Exists.elim (Ur hh oa) λg9 p6=>Exists.elim p6 λcap9 gt=>?_;have p7:Zs [] ↑ha vU U.length 4 (U.flatMap Yy):=QN hh oa od;have k4:At [] ↑ha ⟨g9,0+i*4,none⟩ (Yy pi):=by
  obtain⟨a9,c9,e1,e2⟩:=Zs.at p7 hl;rw[XX Yy 4 qC U i hl,<-QcQ hl,p5]at e2;rw[gt]at e1;have e3:(⟨g9,0,none⟩:Addr)=a9:=by
   have:=Value.slice.inj e1;exact Option.some.inj this.1
  rw[<-e3,XC]at e2;exact e2
 have p8:At [] ↑ha ⟨g9,0+i*4+0+0*1,none⟩ [sS pi.x]:=by
  have:=k4.fld 0 (sS pi.x) O;rw[XC]at this;exact this
 have p9:At [] ↑ha ⟨g9,0+i*4+0+1*1,none⟩ [sS pi.y]:=by
  have:=k4.fld 1 (sS pi.y) O;rw[XC]at this;exact this
 have qf:=kc.I ht;have qj:=ke.I ht;refine QV (α:=Nat) [(76,94),(17,17)] (λz=>[(17,sP z)]) (λz w'=>sW ha w'/\↑ha<=z/\QK ↑w' z 156 [sS (O8 a.ed pi.x v),sS (O8 b.ed pi.y v)]) oh ?_ ?_
 ·refine QfJ (α:=Unit) (sW ha) [oz 0,oz 1,oz 2,oz 3,oz 4,oz 5,oz 6,oz 7,oz 9,oz 10,oz 11,oz 12,oz 13,oz 14,oz 15,oz 16] [oA 8,oA 17,oz 18] 19 17 [oA 20] []
   [(76,94)] [(84,84),(93,94)] (λ_=>[(94,.agg #[sS (O8 a.ed pi.x v),sS (O8 b.ed pi.y v)])]) (λ_ _ _=>True)
   (λv w'=>∃b,v=sP b/\↑ha<=b/\QK ↑w' b 156 [sS 0,sS 0]) mixed oh oc oh O (O1.C _ _) od ?_ ?_ ?_ ?_
  ·rintro v own wa wb ⟨b,rfl,hb,hB⟩ hs hn;exact⟨b,O,hb,hB.J hs (hn b (by simp[ow]))⟩
  ·intro z own wa wb h hs;trivial
  ·rintro z g5 own wz v5 _ ql ⟨hJ,rfl,gu,h7⟩ _;refine pkk<|Us [sS (O8 a.ed pi.x v),sS (O8 b.ed pi.y v)] h7 ov λw8 gq q0=>pe ?_;exact⟨hJ,La,ql.O gq gu,gu,q0⟩
  refine p Qy<|p Qy<|p Qy<|p (λ_=>QD (show ev _ _=_ from gt) O hl)<|p (QH O) <|
   p (λ_=>ZQ (i:=0) O O og)<|pq (λ_ E=>Qq (p8.st E) O)<|p Qy<|p Qy<|p Qy<|p Qy <|
   p (λ_=>QD (show ev _ _=_ from gt) O hl)<|p (QH O)<|p (λ_=>ZQ (i:=1) O O og)<|pq (λ_ E=>Qq (p9.st E) O) <|
   p Qy<|pe ⟨λg6 wf q4=>flA [sS 0,sS 0] q4,?_⟩
  refine f2k λx1 p1 c1=>xf<|(yL (qf.I c1) ho pi.x v).Y ?_;rintro r84 y1 ⟨rfl,k5⟩;refine⟨c1.D k5,[],k5,(λb hb=>by cases hb),?_⟩;refine f2k λx2 p2 c2=>xf<|(yL (qj.I c2) hp pi.y v).Y ?_;rintro r93 y2 ⟨rfl,k6⟩;refine⟨c2.D k6,[],k6,(λb hb=>by cases hb),?_⟩;refine f3p (λ_=>QB ⟨O,O,Z⟩)<|f2e ?_;exact⟨(),La,Z⟩
 rintro hJ g7 hO ⟨h8,gu,h7⟩;have q5:=ht.D h8;refine Exists.elim (h4.I h8).h λK j1=>And.elim (λgv gx=>?_) j1;have hP:(yN a b i pi v).ky=(O8 a.ed pi.x v,O8 b.ed pi.y v):=rfl;refine Ql<|QY h7 O O<|x (Uo (s:=(O8 a.ed pi.x v,O8 b.ed pi.y v)) gv O O)<|x (Zh O)<|xe<|Q9 rfl (λgy=>?_) (λgy=>?_)
 ·have j2:(O8 a.ed pi.x v,O8 b.ed pi.y v)∉K:=J7 gy;have hy:=λh=>j2 ((gx _).2 h);rw[<-hP]at hy;have gz:lgA a b i pi U v=U++[yN a b i pi v]:=by
   rcases yO a b i pi U v with⟨_,_,h⟩|⟨h,_⟩
   ·exact h
   exact OS h hy
  rw[gz]at hI;have k9:m∉ob vU:=hG;have ma:hJ∉m::ob vU:=λhb=>by
   rcases Ll.1 hb with rfl|hb
   ·obtain⟨K0,j3,_⟩:=h4.h;have:=j3.lt;omega
   have:=(kx hJ hb).2;omega
  have j4:m<hO.heap.size:=gv.lt;have hz:sW hO { hO with drawn:=hO.drawn+1 }:=O1.C _ _
  refine ZJ (m::ob vU) (Y4 0 11 [7,8,9])<|p Qy<|pq (λ_ E=>Zj (h7.J E ma) O O)<|p Qy<|pq (λ_ E=>Zj (h7.J E ma) O O) <|
   p Qy<|p Qy<|p (λ_=>Zq [(0,[sS (O8 a.ed pi.x v),sS (O8 b.ed pi.y v)]),(1,[sS i]),(2,[sS v])] ⟨O,O,O,O,O,O,Z⟩)<|pk<|Q5 [Yy (yN a b i pi v)] λb106 w13 h0 hb106 za=>⟨(hz.D h0).any,?_⟩
  have g4:=h8.D (hz.D h0);have hz13:=(hz.D h0).size;refine pk<|Q2 (news:=Yy (yN a b i pi v)) (L:=[]) (Qm hh g4) O O O (za.at od) (λu hu=>by
   simp only[oJ,oH,or_false]at hu;rcases hu with rfl|rfl|rfl|rfl <;> rfl) oa (oo g4.size) λmc mf z2 hQ z3=>⟨(hz.D h0).any.Q (hQ.Y (λb hb=>Lm _ hb)),?_⟩
  have z4:ZP Yg ↑mf m (setM K):=(gv.J (hz.D h0) od).J hQ k9;refine pk<|YF (k:=(O8 a.ed pi.x v,O8 b.ed pi.y v)) z4 O O λw15 g8 z5=>⟨((hz.D h0).any.Q (hQ.Y (λb hb=>Lm _ hb))).Q (g8.Y od),?_⟩;refine p ZK<|pe ?_;refine Exists.elim (Ku z5) λK' hKKK'=>And.elim (λhM15' hKK'=>?_) hKKK';have mg:m∉ob mc:=λhb=>by
   rcases z3 m hb with h9|h9
   ·exact k9 h9
   have:=j4;omega
  refine Qs<|QC O O<|Qa<|xe ?_;have hs014:sW w mf:=(ht.D g4).S hQ (λb hb=>.inr (kx b hb).1);refine⟨(j+1,mc,U++[yN a b i pi v]),oe,ov,hw,hs014.O g8 m5,Qg (VsO.snoc z2) g8 (λb hb mh=>by simp only[oF]at mh;subst mh;exact mg hb),⟨K',hM15',λk=>?_⟩,mg,VsI.add ho hp h5 hl (λh=>hy (.inr h)),hI.symm,W++[yN a b i pi v],by rw[h6,LE]⟩;rw[hKK',gx,Lv,Le];constructor
  ·rintro(h|h|h)
   ·exact .inr (.inr (by rw[h];simp[hP]))
   ·exact .inl h
   exact .inr (.inl h)
  rintro(h|h|h)
  ·exact .inr (.inl h)
  ·exact .inr (.inr h)
  exact .inl (by simpa[hP]using h)
 have hK:(O8 a.ed pi.x v,O8 b.ed pi.y v)∈K:=Jd gy;have hy:=(gx _).1 hK;rw[<-hP]at hy;have gz:lgA a b i pi U v=U:=by
  rcases yO a b i pi U v with⟨h1,h2,_⟩|⟨_,h⟩
  ·exact OS hy (λh=>h.elim h1 h2)
  exact h
 rw[gz]at hI;refine Qf<|Qs<|QC O O<|Qa<|xe ?_;exact⟨(j+1,vU,U),oe,ov,hw,q5,Qm hh h8,h4.I h8,hG,h5,hI.symm,W,h6⟩
theorem Qmt {only:Bool}{e:Ed}(h:(!decide (e.2.1∈o))=false):okV o un only e=false:=by unfold okV;rw[h];rfl
theorem Qms {only:Bool}{e:Ed}(h:(!decide (e.2.1∈o))=true)(E:(!only)=true):okV o un only e=true:=by unfold okV;rw[h,E];rfl
theorem Qg3 {only:Bool}{e:Ed}(h:(!decide (e.2.1∈o))=true)(E:(!only)=false):okV o un only e=decide (e.2.1∈un):=by unfold okV;rw[h,E];rfl
structure VcI (bm:Nat)(w0:OX)(vl:OY)(l:LI)(w:OX):Prop where
 st:sW w0 w
 m:Xs Xm ↑w bm l
 o:Qh 3 ↑w0 w vl l
 nm:bm∉ob vl
theorem VcI.I {bm:Nat}{G w w':OX}{vl:OY}{l:LI}(h:VcI bm G vl l w)(E:sW w w'):VcI bm G vl l w':=⟨h.st.D E,h.m.I E,Qm h.o E,h.nm⟩
theorem Kt {V:je}{only:Bool}(h:jf ↑w V)(hl:Qt [] ↑w vl l)(hb:∀x∈l,0<=x/\x<V.a.st)(kj:l.length<=1000000):
  QT sV 132 [.pointer (some ⟨V.b,0,none⟩),vl,.bool only] w λr w'=>sW w w'/\Qh 3 ↑w w' r (vcl V.a V.o V.un l only):=by
 have hr:=h.ok;have kk:=hr.st0;have kn:=hr.st1;obtain⟨n,hn⟩:∃n:Nat,V.a.st.toNat=n:=⟨_,O⟩;have gi:V.a.st=(n:Int):=oa
 have ko:=hr.ed_le;obtain⟨rv,hH,hI⟩:=h.r;rw[hn]at hH hI;have gj:vcl V.a V.o V.un l only=srt n (bfs (okV V.o V.un only) V.a.ed (l.length+n) 0 l):=by unfold vcl cls;rw[hn]
 rw[gj];have gk:=hr.ed;rw[gi]at hb;refine Zf (bfs (okV V.o V.un only) V.a.ed (l.length+n) 0 l) λR hR=>?_;rw[hR];refine Zn func132 ?_;refine Qc<|Qb<|Ql<|Qw<|(ZT hl).Y ?_;rintro v1 w1 ⟨hJ,h2⟩;refine Qb<|Qc<|Qo<|ZU Xm λbm w2 h3 kp gl=>Qb ?_;have gm:=hJ.D h3;have kq:=hJ.size;have hK:bm∉ob v1:=λI=>oo (QU h2 _ I)
 have gn:Qt [] ↑w2 v1 l:=Qh.ints (Qm h2 h3) oa od;refine Qe<|Ql<|QG gn O<|Qa<|xe<|QW (α:=Nat) [(10,10),(19,25)] (λz=>[(19,sS z)]) (λz w'=>z<=l.length/\O1 [bm] w2 w'/\Xs Xm ↑w' bm (l.take z)) (λz=>l.length - z) 0 La ⟨Ln _,O1.Z _ _,.zero gl⟩ ?_;rintro k g w3 ⟨hk,h4,h5⟩;have go:sW w w3:=gm.O h4 oa;have hL:=Qg (Qm h2 h3) h4 λb hb I=>hK (Lb.1 I ▸ hb);have gq:Qt [] ↑w3 v1 l:=Qh.ints hL oa od;refine Zi rfl O (λh6=>?_) (λh6=>?_)
 ·refine Qu ?_;have gr:l.length<=k:=by have hg:¬(k:Int)<(l.length:Int):=h6;omega
  rw[Lq gr]at h5;refine Qe<|Qc<|Qb<|QW (α:=Nat×OY×LI) [(7,7),(11,11),(13,13),(26,80)] (λz=>[(7,z.2.1),(11,sS z.1)]) (λz w'=>z.1<=z.2.2.length/\VcI bm w z.2.1 z.2.2 w'/\z6 n l z.2.2/\bfs (okV V.o V.un only) V.a.ed (l.length+n - z.1) z.1 z.2.2=R) (λz=>l.length+n+1 - z.1) (0,v1,l) ov ⟨Ln _,⟨go,h5,hL,hK⟩,z6.zero _ _,hR⟩ ?_;rintro⟨i,vi,m⟩ g w4 ⟨hi,T,ht,ha⟩;simp only[]at hi T ht ha;have kr:=ht.len;have hM:=ht.all hb;have hN:Qt [] ↑w4 vi m:=Qh.ints T.o oa od;refine Qe<|Ql<|Qa<|QG hN O<|ZX O O<|xe<|Zp O (λh8=>?_) (λh8=>?_)
  ·refine Qu ?_;have gs:¬i<m.length:=by have hg:¬(i:Int)<(m.length:Int):=h8;omega
   rw[QbR gs]at ha;have hv:=Qi T.o;refine Ql<|Qw<|(JL T.o oa).Y ?_;rintro _ w5 ⟨gt,gu⟩;refine xe<|Ql<|Qw<|(Qld gu (by rw[List.length_mergeSort];omega) (Qba m)).Y ?_;rintro v6 w6 ⟨h9,l',gv,gx,gy⟩;refine Qb<|Qj ⟨[v6],La,(T.st.S gt λb hb=>.inr (hv b hb).1).S h9 λb hb=>.inr (hv b hb).1,?_⟩;rw[<-ha,<-Qgs gv (λx=>(gx x).D (M5 m _).mem_iff) hM];exact gy
  have G:i<m.length:=by have hg:(i:Int)<(m.length:Int):=h8;omega
  have hw:=hM _ (Xh G);have gz:l.length+n - i=(l.length+n - (i+1))+1:=oa
  rw[gz,bfs,OQ G]at ha;have hO:=Zu G;refine Zf (O2 m i) λs hs=>?_;rw[hs]at hw ha hO;have hP:s=(s.toNat:Int):=oa
  have hQ:s.toNat<n:=oa
  have hE:=hI s.toNat hQ;have kt:=Z8 V.a.ed s;have g0:QS V.a.ed (s.toNat:Nat)=QS V.a.ed s:=by rw[<-hP]
  rw[g0]at hE;have g2:s.toNat<(oK n).length:=by rw[L4];exact hQ
  refine Qf<|Qe<|Qn<|Qe<|ZJ [] (Y4 0 12 [])<|p Qy<|p (YC O)<|p (QH O)<|pq (λ_ E=>Qk ((h.blk.I T.st).I E) O O)<|p Qy<|p Qy<|Lg.pii (i:=i) O hN O O G λku hS=>?_;rw[hO]at hS;refine pq (λ_ E=>Qq (hS.I E) O)<|Lg.pig (g:=λj:Nat=>[rv j]) (i:=s.toNat) O (λ_=>O) (hH.I T.st) O (show Go.Lg.ev _ _=_ from OR sS hP) g2 λkv hT=>?_;rw[MB]at hT;refine pq (λ_ E=>Qq (u:=rv s.toNat) (hT.I E) O)<|p (λ_=>YH hE O)<|p Qy<|pe ?_;have g3:sW w4 { w4 with drawn:=w4.drawn+1 }:=O1.C _ _
  refine QW (α:=Nat×OY×LI) [(7,7),(13,13),(43,80)] (λz=>[(7,z.2.1),(43,sS z.1)]) (λz w'=>z.1<=(QS V.a.ed s).length/\VcI bm w z.2.1 z.2.2 w'/\z6 n l z.2.2/\m.length<=z.2.2.length/\((QS V.a.ed s).drop z.1).foldl (bfE (okV V.o V.un only)) z.2.2=(QS V.a.ed s).foldl (bfE (okV V.o V.un only)) m) (λz=>(QS V.a.ed s).length - z.1) (0,vi,m) ov ⟨Ln _,T.I g3,ht,Lp _,O⟩ ?_;rintro⟨j,vj,lj⟩ g w5 ⟨hj,hh,ho,hA,J⟩;simp only[]at hj hh ho hA J;have kw:=ho.len;refine Zi O O (λhB=>?_) (λhB=>?_)
  ·refine Qu ?_;have g4:(QS V.a.ed s).length<=j:=by have hg:¬(j:Int)<((QS V.a.ed s).length:Int):=hB;omega
   rw[Ls g4]at J;have g5:lj=(QS V.a.ed s).foldl (bfE (okV V.o V.un only)) m:=J;rw[<-g5]at ha;refine Qs<|Qa<|QC O O<|Qb<|⟨(i+1,vj,lj),by show l.length+n+1 - (i+1)<l.length+n+1 - i;omega,ov,by show i+1<=lj.length;omega,hh,ho,ha⟩
  have hf:j<(QS V.a.ed s).length:=by have hg:(j:Int)<((QS V.a.ed s).length:Int):=hB;omega
  have g6:=ZC (Lk hf);have hU:=gk _ g6.1;rw[QX hf,LO]at J;refine Zf ((QS V.a.ed s)[j]'hf) λe he=>?_;rw[he]at hU J;refine Qf<|Qe<|Qn<|Qc<|xie (hE.I hh.st) O O hf λkx hV=>?_;rw[he]at hV;refine x (QE hV O O)<|QP [sS 0,sS 0,sS 0] λg7 w6 h9 hW g8=>Q0 (Qp e) g8 ox λS g9 hy=>xe ?_;have ka:sW w5 S:=h9.O g9 hW;have hC:=hh.I ka;have h7:=h.I hC.st;refine QV (α:=Unit) [(47,71)] (λ_=>[(71,.bool (decide (okV V.o V.un only e=true/\e.2.2∉lj)))]) (λ_ w'=>sW S w') oh ?_ ?_
  ·refine ZJ [] (Y4 0 25 [3,22]) ?_;have U:sW S { S with drawn:=S.drawn+1 }:=O1.C _ _
   refine p Qy<|p (QH O)<|pq (λ_ E=>Qk (hy.I E) O O)<|pk<|xg<|(qu (w:={ S with drawn:=S.drawn+1 }) (h7.I U) e.2.1).Y ?_
   rintro _ w8 ⟨rfl,rfl⟩;refine⟨U,?_⟩;refine pB (λ_=>Zh O) (λhp=>?_) (λhp=>?_)
   ·refine p Qy<|p Qy<|p (QH O)<|pq (λ_ E=>Qk (hy.I E) O O)<|pq (λ_ E=>jy (hC.m.I E) O O)<|pB (λ_=>Zh O) (λhD=>?_) (λhD=>?_)
    ·have hX:=J7 hD;refine p (YI O)<|p Qy<|p Qy<|pB (λ_=>Zh O) (λhz=>?_) (λhz=>?_)
     ·refine p Qy<|ps<|ps<|ps<|ps<|ps<|ps<|ps<|p (YI O)<|p (YI O)<|pe ?_;exact⟨(),⟨OR Value.bool (bT ⟨Qms hp hz,hX⟩),Z⟩,U⟩
     refine p Qy<|p Qy<|p (YC O)<|p (QH O)<|pq (λ_ E=>Qk (h7.blk.I E) O O)<|p (QH O) <|
      pq (λ_ E=>Qk (hy.I E) O O)<|pk<|xg<|(ZE (w:={ S with drawn:=S.drawn+1 }) (h7.u.I U) e.2.1).Y ?_
     rintro _ w9 ⟨rfl,rfl⟩;refine⟨U,?_⟩;refine p (YI O)<|p (YI O)<|pe ?_;exact⟨(),⟨OR Value.bool (bD ⟨λhu=>⟨(Qg3 hp hz).D (OT hu),hX⟩,λhu=>OU ((Qg3 hp hz).symm.D hu.1)⟩),Z⟩,U⟩
    refine p (YI O)<|p Qy<|ps<|ps<|ps<|ps<|ps<|ps<|ps<|ps<|ps<|ps<|ps<|p (YI O)<|pe ?_;exact⟨(),⟨OR Value.bool (bF λhu=>hu.2 (Jd hD)),Z⟩,U⟩
   refine p Qy<|ps<|ps<|ps<|ps<|ps<|p (YI O)<|p Qy<|ps<|ps<|ps<|ps<|ps<|ps<|ps<|ps<|ps<|ps<|ps<|p (YI O)<|pe ?_;exact⟨(),⟨OR Value.bool (bF λhu=>MC ((Qmt hp).symm.D hu.1)),Z⟩,U⟩
  rintro _ g w8 hY;have Y:=hC.I hY;have hZ:=ho.edge (okV V.o V.un only) (e:=e) ⟨hU.2.2.2.1,oa⟩;have ga:lj.length<=(bfE (okV V.o V.un only) lj e).length:=by unfold bfE;split <;> simp
  have h0:bfE (okV V.o V.un only) lj e=if okV V.o V.un only e=true/\e.2.2∉lj then lj++[e.2.2]else lj:=rfl
  refine Zp O (λhF=>?_) (λhF=>?_)
  ·rw[OP hF]at h0;rw[h0]at J;refine Qf<|Qs<|QC O O<|Qa<|xe ?_;exact⟨(j+1,vj,lj),by show(QS V.a.ed s).length - (j+1)<(QS V.a.ed s).length - j;omega,ov,hf,Y,ho,hA,J⟩
  rw[OQ hF]at h0;rw[h0]at J hZ ga;have gb:=hy.I hY;have hv:=Qi Y.o;refine Ql<|Qr O gb O O<|Qo<|qZ (k:=e.2.2) Y.m O O O λw9 hG gc=>xe ?_;have kb:g7∉[bm]:=λI=>by
   have:=hh.m.lt;rw[Lb.1 I]at hW;omega
  have kc:=Qg Y.o hG λb hb I=>Y.nm (Lb.1 I ▸ hb);have ge:sW w w9:=Y.st.O hG oa;refine Qs<|Qa<|Qr O (gb.J hG kb) O O<|Qo<|Q5 [[sS e.2.2]] λkz wa hq k0 ke =>
   Qo<|Q2 (m:=1) (news:=[sS e.2.2]) (L:=[]) (Qm kc hq) O O O (ke.at od) om oa (oq hq.size ge.size) λvb wb kf hw kg=>Qb ?_
  have k4:=hq.size;have k5:=gc.lt;refine Qs<|QC O O<|Qa<|xe<|⟨(j+1,vb,lj++[e.2.2]),by show(QS V.a.ed s).length - (j+1)<(QS V.a.ed s).length - j;omega,ov,hf,⟨(ge.D hq).S hw λb hb=>.inr (hv b hb).1,(gc.I hq).J hw Y.nm,Qh.snoc kf,λI=>?_⟩,hZ,Lx hA ga,J⟩;rcases kg _ I with h1|h1
  ·exact Y.nm h1
  omega
 have G:k<l.length:=by have hg:(k:Int)<(l.length:Int):=h6;omega
 have gg:l.take (k+1)=l.take k++[l[k]'G]:=Lh G;refine Qf<|Qe<|Qn<|Qc<|xii (i:=k) gq O O G λk6 gh=>?_;refine Zf (l[k]'G) λs hs=>?_;rw[hs]at gh gg;refine x (Qq gh O)<|Qb<|Qs<|Qa<|Qa<|Qo<|qZ (k:=s) h5 O O O λw4 kh ki=>xe ?_;refine Qs<|QC O O<|Qa<|xe ?_;exact⟨k+1,by show l.length - (k+1)<l.length - k;omega,La,G,h4.Q kh,by rw[gg];exact ki⟩
theorem Ud {V:je}{est:LI}(h:jf ↑w V)(hE:Qt [] ↑w ve est)(hy:∀x∈est,0<=x/\x<V.a.st)(hK:est.length<=9)(hz:V.a.ed.length<=1000)(v:Int):
  QT sV 136 [.pointer (some ⟨V.b,0,none⟩),ve,sS v] w λr w'=>sW w w'/\Qh 3 ↑w w' r (vnx V.a V.o V.un est v):=by
 have hm:=h.ok;have hM:=hm.st0;obtain⟨n,hn⟩:∃n:Nat,V.a.st.toNat=n:=⟨_,O⟩;have hN:V.a.st=(n:Int):=oa
 obtain⟨rv,ho,hp⟩:=h.r;rw[hn]at ho hp;have h0:∀k,k<=est.length->(hop V.a.ed (est.take k) v).length<=9000:=λk hk=>by
  have h1:=j5 V.a.ed v (est.take k);have h2:(est.take k).length<=9:=by rw[LA];omega
  have h3:(est.take k).length*V.a.ed.length<=9*1000:=Oz h2 hz;omega
 refine Zn func136 ?_;refine Qc<|Qb<|Qc<|Qb<|Qe<|Ql<|QG hE O<|Qa<|xe<|QW (α:=Nat×OY) [(7,7),(9,9),(11,11),(14,40)] (λz=>[(7,z.2),(14,sS z.1)]) (λz w'=>z.1<=est.length/\sW w w'/\Qh 3 ↑w w' z.2 (hop V.a.ed (est.take z.1) v)) (λz=>est.length - z.1) (0,ZR) ov ⟨Ln _,O1.Z _ _,QM _ _ _ _⟩ ?_;rintro⟨k,vl⟩ g w2 ⟨hk,E,Y⟩;simp only[]at hk Y;have h4:=h0 k hk;refine Zi rfl O (λha=>?_) (λha=>?_)
 ·refine Qu ?_;have h5:est.length<=k:=by have hc:¬(k:Int)<(est.length:Int):=ha;omega
  rw[Lq h5]at Y h4;have hL:=Qh.ints (L:=[]) Y oa od;refine Ql<|Qa<|Qw<|(Kt (only:=false) (h.I E) hL (QhT hm est v) oa).Y ?_;rintro r3 w3 ⟨h6,h7⟩;refine Qb<|Qj ⟨[_],La,E.D h6,Q8 h7 E.size⟩
 have I:k<est.length:=by have hc:(k:Int)<(est.length:Int):=ha;omega
 have hq:=Qbg (ed:=V.a.ed) v I;have h8:=hy _ (Lk I);refine Qf<|Qe<|Qn<|Qc<|xii (i:=k) (hE.I E) O O I λhO hr=>?_;refine Zf (est[k]'I) λs hs=>?_;rw[hs]at hr hq h8;have h9:s=(s.toNat:Int):=oa
 have ht:s.toNat<n:=oa
 have hf:=hp s.toNat ht;rw[show((s.toNat:Nat):Int)=s by omega]at hf;have hA:s.toNat<(oK n).length:=by rw[L4];exact ht
 have hP:=Z8 V.a.ed s;refine x (Qq hr O)<|Qb<|Ql<|Z0 O<|Qr O (h.blk.I E) O O<|Qa<|O4 (g:=λj:Nat=>[rv j]) (i:=s.toNat) (λ_=>O) (ho.I E) O (OR sS h9) hA λhQ hu=>?_;rw[MB]at hu;refine x (Qq (u:=rv s.toNat) hu O)<|QG hf O<|Qa<|xe<|QW (α:=Nat×OY) [(7,7),(11,11),(26,39)] (λz=>[(7,z.2),(26,sS z.1)]) (λz w'=>z.1<=(QS V.a.ed s).length/\sW w w'/\Qh 3 ↑w w' z.2 (hop V.a.ed (est.take k) v++(((QS V.a.ed s).take z.1).filter λe=>decide (e.2.1=v)).map (·.2.2))) (λz=>(QS V.a.ed s).length - z.1) (0,vl) ov ⟨Ln _,E,by simp only[List.take_zero,List.filter_nil,OG,On];exact Y⟩ ?_;rintro⟨j,vj⟩ g w4 ⟨hj,J,G⟩;simp only[]at hj G;refine Zi rfl O (λhg=>?_) (λhg=>?_)
 ·refine Qu ?_;have hB:(QS V.a.ed s).length<=j:=by have hc:¬(j:Int)<((QS V.a.ed s).length:Int):=hg;omega
  rw[Lq hB,<-hq]at G;refine Qs<|QC O O<|Qa<|xe ?_;exact⟨(k+1,vj),by show est.length - (k+1)<est.length - k;omega,ov,I,J,G⟩
 have S:j<(QS V.a.ed s).length:=by have hc:(j:Int)<((QS V.a.ed s).length:Int):=hg;omega
 have T:=yS v S;have hR:(hop V.a.ed (est.take k) v++(((QS V.a.ed s).take j).filter λe=>decide (e.2.1=v)).map (·.2.2)).length<=10000:=by
  rw[Lc,Lj];have h1:=LF (λe:Ed=>decide (e.2.1=v)) ((QS V.a.ed s).take j);rw[LA]at h1;omega
 refine Zf ((QS V.a.ed s)[j]'S) λe he=>?_;rw[he]at T;refine Qf<|Qe<|Qn<|Qc<|xie (hf.I J) O O S λhS hv=>?_;rw[he]at hv;refine x (QE hv O O)<|QP [sS 0,sS 0,sS 0] λb11 w5 hC hD hF=>Q0 (Qp e) hF ox λw6 hG hw=>xe ?_;have U:sW w4 w6:=hC.O hG hD;have hT:=J.size;have hU:=U.size;refine Qc<|Qr O hw O O<|Qa<|x (Q6 O O)<|xe<|Zp rfl (λhh=>?_) (λhh=>?_)
 ·rw[OP hh,LH]at T;refine Qf<|Qs<|QC O O<|Qa<|xe ?_;exact⟨(j+1,vj),by show(QS V.a.ed s).length - (j+1)<(QS V.a.ed s).length - j;omega,ov,S,J.D U,by simp only[];rw[T];exact Qm G U⟩
 rw[OQ hh]at T;refine Qs<|Qa<|Qr O hw O O<|Qo<|Q5 [[sS e.2.2]] λhV w7 hl hW hH =>
  Qo<|Q2 (m:=1) (news:=[sS e.2.2]) (L:=[]) (Qm G (U.D hl)) O O O (hH.at od) om oa (oo hl.size) λv8 w8 hI hJ hX=>Qb<|Qs<|QC O O<|Qa<|xe ?_
 refine⟨(j+1,v8),by show(QS V.a.ed s).length - (j+1)<(QS V.a.ed s).length - j;omega,ov,S,((J.D U).D hl).S hJ λb hb=>.inr (Qi G b hb).1,?_⟩;simp only[];rw[T,<-LE];exact Qh.snoc hI
def Qhy (x y:LI):List UInt8:=(YJ x++[59])++(YJ y++[59])
abbrev koA (x y:LI):ByteArray:=⟨(Qhy x y).toArray⟩
theorem Qit (u:Nat):(59:UInt8)∉Lib.decDigits u:=by
 induction u using Nat.strongRecOn with
 | _ u ih =>
  unfold Lib.decDigits;split
  ·intro h;simp only[oF]at h;have:=OR UInt8.toNat h;rw[Xe oa]at this;have E:(59:UInt8).toNat=59:=rfl;omega
  intro h;rcases Le.1 h with h|h
  ·exact ih _ oa h
  simp only[oF]at h;have:=OR UInt8.toNat h;rw[Xe oa]at this;have E:(59:UInt8).toNat=59:=rfl;omega
theorem KQ (l:LI):(59:UInt8)∉YJ l:=by
 intro h;obtain⟨n,_,h⟩:=Mb.1 h;rcases Le.1 h with h|h
 ·exact Qit _ h
 exact OS (Lb.1 h) og
theorem js:∀{a b r r':List UInt8},(59:UInt8)∉a->(59:UInt8)∉b->a++59::r=b++59::r'->a=b/\r=r'
 | [],[],_,_,_,_,h=>ou h
 | [],y::b,_,_,_,hb,h=>by simp at h;exact OS h.1 (by intro e;exact hb (by simp[e]))
 | x::a,[],_,_,E,_,h=>by simp at h;exact OS h.1 (by intro e;exact E (by simp[e]))
 | x::a,y::b,_,_,E,hb,h=>by
  simp only[o0,List.cons.injEq]at h;have:=js (λe=>E (Lm _ e)) (λe=>hb (Lm _ e)) h.2;exact⟨by rw[h.1,this.1],this.2⟩
theorem Qkv {x y E G:LI}(I:∀n∈x,0<=n)(J:∀n∈y,0<=n)(S:∀n∈E,0<=n)(T:∀n∈G,0<=n)(h:koA x y=koA E G):x=E/\y=G:=by
 have e:Qhy x y=Qhy E G:=by
  have:=OR (λb:ByteArray=>b.data.toList) h;simpa using this
 unfold Qhy at e;rw[LE,LE]at e;obtain⟨e1,e2⟩:=js (KQ x) (KQ E) (ou e);obtain⟨U,_⟩:=js (r:=[]) (r':=[]) (KQ y) (KQ G) e2;exact⟨VO I S e1,VO J T U⟩
def kO (lf:Nat->LI)(n:Nat):List UInt8:=(oK n).flatMap λi=>YJ (lf i)++[59]
theorem jT (lf:Nat->LI)(n:Nat):kO lf (n+1)=kO lf n++(YJ (lf n)++[59]):=by
 unfold kO;rw[Nf,LC,M0]
theorem Qhz {m:Int}(G:m<=1000000)(hb:∀n∈l,0<=n/\n<m):(YJ l).length<=8*l.length:=by
 induction l with
 | nil=>simp[YJ]
 | cons x l ih =>
  have I:=ih λn E=>hb n (Lm _ E);have J:=hb x Lo;have S:=JT 7 x.toNat oa;unfold YJ at *;rw[LK,Lc,Lc];simp only[oQ,List.length_nil];omega
theorem Qfi {k:Nat}(h:k<l.length):YJ (l.take (k+1))=YJ (l.take k)++Lib.decDigits (l[k]'h).toNat++[32]:=by
 rw[Lh h];unfold YJ;rw[LC,M0,LE]
theorem Qg9 {v:OY}{rv:Nat->OY}{lf:Nat->LI}{m:Int}(hA:Zs [] ↑w v (oK n).length 1 ((oK n).flatMap λi=>[rv i]))(hE:∀i,Qt [] ↑w (rv i) (lf i))(ho:Kb w m)(hb:∀i,∀x∈lf i,0<=x/\x<m)(hl:∀i,(lf i).length<=1000)(hn:n<=1000):
  QT sV 133 [v] w λr w'=>r=.string ⟨(kO lf n).toArray⟩/\sW w w':=by
 have hm:=ho.le;refine Zn func133 ?_;refine Qc<|Qb<|Qc<|QP [.pointer none,nS] λE w1 hv J hw=>xe ?_;refine Qe<|Ql<|QG hA O<|Qa<|xe<|QW (α:=Nat×OY) [(5,5),(7,7),(10,26)] (λz=>[(10,sS z.1)]) (λz w'=>z.1<=n/\sW w w'/\(z.2=.pointer none\/z.2=me E)/\Bl z.2 E (kO lf z.1) w'/\(kO lf z.1).length<=8001*z.1) (λz=>n - z.1) (0,.pointer none) La
  ⟨Ln _,hv,.inl O,⟨_,hw,QM _ _ _ _⟩,Lp _⟩ ?_
 rintro⟨k,p⟩ g w2 ⟨hk,V,Y,S,hy⟩;simp only[]at hk Y S hy;refine Zi rfl O (λha=>?_) (λha=>?_)
 ·refine Qu<|Qc ?_;have hz:k=n:=by have G:¬(k:Int)<((oK n).length:Int):=ha;rw[L4]at G;omega
  rw[hz]at S;refine Qw<|(KO V J Y S).Y ?_;rintro r3 w3 ⟨rfl,h0⟩;refine Qb<|Qj ⟨[_],La,O,h0⟩
 have hc:k<(oK n).length:=by have G:(k:Int)<((oK n).length:Int):=ha;omega
 have h1:k<n:=by rw[L4]at hc;exact hc
 have he:=jT lf k;have h2:=Qhz hm (hb k);have h3:=hl k;have hf:=hE k;have hr:=hb k;refine Zf (lf k) λl h4=>?_;rw[h4]at he h2 h3 hf hr;refine Qf<|Qe<|Qn<|Qc<|O4 (g:=λj:Nat=>[rv j]) (i:=k) (λ_=>O) (hA.I V) O O hc λhH ht=>?_;rw[MB]at ht;refine x (Qq (u:=rv k) ht O)<|Qb<|Qe<|Ql<|QG hf O<|Qa<|xe<|QW (α:=Nat×OY) [(7,7),(16,24)] (λz=>[(16,sS z.1)]) (λz w'=>z.1<=l.length/\sW w w'/\(z.2=.pointer none\/z.2=me E)/\Bl z.2 E (kO lf k++YJ (l.take z.1)) w'/\(YJ (l.take z.1)).length<=8*z.1) (λz=>l.length - z.1) (0,p) La
  ⟨Ln _,V,Y,by show Bl p E (kO lf k++YJ []) w2;rw[show YJ []=[] from rfl,LH];exact S,Lp _⟩ ?_
 rintro⟨j,q⟩ g w4 ⟨hj,T,hq,U,h5⟩;simp only[]at hj hq U h5;refine Zi rfl O (λhg=>?_) (λhg=>?_)
 ·refine Qu ?_;have h6:l.length<=j:=by have G:¬(j:Int)<(l.length:Int):=hg;omega
  rw[Lq h6]at U;refine Qs<|Qw<|(J1 T J hq U 59 (by rw[Lc];omega)).Y ?_;rintro r5 w5 ⟨h7,h8⟩;refine xe<|Qs<|QC O O<|Qa<|xe<|⟨(k+1,me E),by show n - (k+1)<n - k;omega,La,h1,h7,.inr O,?_,?_⟩
  ·simp only[];rw[he,<-LE];exact h8
  simp only[];rw[he,Lc,Lc,Lt];omega
 have I:j<l.length:=by have G:(j:Int)<(l.length:Int):=hg;omega
 have h9:=hr _ (Lk I);have hh:=Qfi I;refine Qf<|Qe<|Qn<|Qc<|xii (i:=j) (hf.I T) O O I λhJ G=>?_;refine Zf (l[j]'I) λs hs=>?_;rw[hs]at G hh h9;have hB:s=(s.toNat:Int):=oa
 have hK:=JT 7 s.toNat oa;refine x (Qq G O)<|Qb<|Qc ?_;have hI:=jY s.toNat oa w4 (ho.I T);rw[<-hB]at hI;refine Qa<|Qw<|hI.Y ?_;rintro r6 w6 ⟨rfl,hu⟩;refine Qw<|(X7 (T.D hu) J hq (U.I hu) (⟨(Lib.decDigits s.toNat).toArray⟩:ByteArray) (by show _+(Lib.decDigits s.toNat).toArray.size<=_;rw[Lc,LQ];omega)).Y ?_;rintro r7 w7 ⟨hC,hD⟩;refine xe<|Qs<|Qw<|(J1 hC J (.inr O) hD 32 (by rw[Lc,Lc];show _+_+(Lib.decDigits s.toNat).length+1<=_;omega)).Y ?_;rintro r8 w8 ⟨hF,hG⟩;refine xe<|Qs<|QC O O<|Qa<|xe<|⟨(j+1,me E),by show l.length - (j+1)<l.length - j;omega,La,I,hF,.inr O,?_,?_⟩
 ·simp only[];rw[hh,<-LE,<-LE];exact hG
 simp only[];rw[hh,Lc,Lc,Lt];omega
theorem kO2 (x y:LI):kO (λi=>if i=0 then x else y) 2=Qhy x y:=by
 rw[jT,jT];rfl
theorem VK {v vy:OY}{x y:LI}{m:Int}(hA:Zs [] ↑w v 2 1 [vx,vy])(hx:Qt [] ↑w vx x)(G:Qt [] ↑w vy y)(E:Kb w m)(I:∀n∈x,0<=n/\n<m)(J:∀n∈y,0<=n/\n<m)(S:x.length<=1000)(T:y.length<=1000):
  QT sV 133 [v] w λr w'=>r=.string (koA x y)/\sW w w':=by
 have:=Qg9 (n:=2) (rv:=λi=>if i=0 then vx else vy) (lf:=λi=>if i=0 then x else y) (w:=w) (v:=v) hA (λi=>by by_cases e:i=0 <;> simp only[e,if_true,if_false] <;> assumption) E (λi=>by by_cases e:i=0 <;> simp only[e,if_true,if_false] <;> assumption) (λi=>by by_cases e:i=0 <;> simp only[e,if_true,if_false] <;> assumption) oa
 rw[kO2]at this;exact this
theorem qW {v:OY}{b:Nat}(h:b∈ob v):b∈ow v:=by
 cases v with
 | slice a _ _=>cases a <;> exact h
 | _=>cases h
theorem QcC {e:Nat}{v:OY}(h:w.ownsRow base e sz v n cs){b:Nat}(hb:b∈ow v):b∈ob v:=by
 rcases h.2 with⟨rfl,_⟩|⟨g,cp,cur,rfl,_⟩
 ·cases hb
 exact hb
theorem XI {e:Nat}{v:OY}(h:w.ownsRow base e sz v n cs)(b:Nat)(hb:b∈ow v):base<=b/\b<w.heap.size:=Qi h b (QcC h hb)
theorem Vg {e b:Nat}{v:OY}(h:w.ownsRow base e sz v n cs)(E:QK ↑w b T us)(hT:T≠e):b∉ob v:=by
 intro G;rcases h.2 with⟨rfl,_⟩|⟨g,cap,cur,rfl,_,I,_⟩
 ·cases G
 have e1:b=g:=Lb.1 G;subst e1;unfold QK at E;rw[E]at I;injection I with h1
 injection h1 with h2 h3
 exact hT h3
def Pts (L:LN)(H:xw):List (OY×LI)->Prop
 | []=>True
 | r::l=>Qt L H r.1 r.2/\Pts L H l
theorem Pts.I {L:LN}{w w':OX}(E:sW w w'):∀{l:List (OY×LI)},Pts L ↑w l->Pts L ↑w' l
 | [],_=>trivial
 | _::_,h=>⟨h.1.I E,Pts.I E h.2⟩
theorem Pts.J {L X:LN}{w w':OX}(E:O1 X w w')(hX:∀b∈X,b∈L):∀{l:List (OY×LI)},Pts L ↑w l->Pts L ↑w' l
 | [],_=>trivial
 | _::_,h=>⟨Zs.J h.1 E hX,Pts.J E hX h.2⟩
theorem Pts.grow {X X' Y:LN}{w w':OX}(E:O1 Y w w')(G:∀b∈Y,b∈X)(hX:∀b∈X',b∈X\/↑w<=b):∀{l:List (OY×LI)},Pts X ↑w l->Pts X' ↑w' l
 | [],_=>trivial
 | _::_,h=>⟨Zs.grow h.1 E G hX,Pts.grow E G hX h.2⟩
abbrev Yj (N:Nat)(H:xw)(v:OY)(l:LI):Prop:=∀L:LN,(∀b∈L,b<N)->Qt L H v l
theorem Yj.nil (N:Nat)(H:xw):Yj N H (nS) []:=λ_ _=>Zs.nil _ _ _
theorem Yj.Y {H:xw}{v:OY}(h:Yj N H v l)(E:M<=N):Yj M H v l:=λL G=>h L λb hb=>LP (G b hb) E
theorem Yj.ints {H:xw}{v:OY}(h:Yj N H v l):Qt [] H v l:=h [] λ_ hb=>by cases hb
structure QI {α κ:Type}(T sz:Nat)(cel:α->LV)(enc:κ->OY)(key:α->κ)(pts ptn:α->List (OY×LI))(bm:Nat)(w0:OX)(vl:OY)(q:List α)(w:OX):Prop where
 st:sW w0 w
 o:w.ownsRow ↑w0 T sz vl q.length (q.flatMap cel)
 e:∀p∈q,Pts (bm::ob vl) ↑w (pts p)/\∀L:LN,(∀b∈L,b<↑w0)->Pts (L++bm::ob vl) ↑w (ptn p)
 m:Xs enc ↑w bm (q.map key)
 nm:bm∉ob vl
 hb:↑w0<=bm
section
variable {κ:Type}{cel:α->LV}{enc:κ->OY}{key:α->κ}{pts ptn:α->List (OY×LI)}{bm:Nat}{w0 w1 w2 w3:OX}{vl':OY}{q:List α}{p:α}
theorem QI.I (h:QI T sz cel enc key pts ptn bm w0 vl q w)(E:sW w w'):QI T sz cel enc key pts ptn bm w0 vl q w' :=
 ⟨h.st.D E,Qm h.o E,λp G=>⟨(h.e p G).1.I E,λL I=>((h.e p G).2 L I).I E⟩,h.m.I E,h.nm,h.hb⟩
theorem QI.lt (h:QI T sz cel enc key pts ptn bm w0 vl q w):∀b∈bm::ob vl,b<w.heap.size:=λb hb=>by
 rcases Ll.1 hb with rfl|hb
 ·exact h.m.lt
 exact QU h.o b hb
theorem jC {vl':OY}(E:∀b∈ob vl',b∈ob vl\/N<=b):∀b∈bm::ob vl',b∈bm::ob vl\/N<=b:=λb hb=>by
 rcases Ll.1 hb with rfl|hb
 ·exact .inl Lo
 exact(E b hb).imp (Lm _) id
theorem jB (L:LN){vl':OY}(E:∀b∈ob vl',b∈ob vl\/N<=b):∀b∈L++bm::ob vl',b∈L++bm::ob vl\/N<=b:=λb hb=>by
 rcases Le.1 hb with hb|hb
 ·exact .inl (Le.2 (.inl hb))
 exact(jC E b hb).imp (λh=>Le.2 (.inr h)) id
theorem QI.add (h:QI T sz cel enc key pts ptn bm w0 vl q w)(I:O1 [bm] w w1)(hm:Xs enc ↑w1 bm (q.map key++[key p]))(G:sW w1 w2)(J:O1 (ob vl) w2 w3)(ho:w3.ownsRow ↑w0 T sz vl' (q.length+1) (q.flatMap cel++cel p))
  (U:∀b∈ob vl',b∈ob vl\/↑w2<=b) (V:Pts (bm::ob vl) ↑w (pts p)/\∀L:LN,(∀b∈L,b<↑w0)->Pts (L++bm::ob vl) ↑w (ptn p)):QI T sz cel enc key pts ptn bm w0 vl' (q++[p]) w3:=by
 have hc:=I.size;have he:=G.size;have hf:=h.m.lt;have k:∀(L:LN) {l:List (OY×LI)},Pts (L++bm::ob vl) ↑w l->Pts (L++bm::ob vl') ↑w3 l:=λL {l} hv =>
  ((hv.J I λb hb=>Le.2 (.inr (Ll.2 (.inl (Lb.1 hb))))).I G).grow J (λb hb=>Le.2 (.inr (Lm _ hb))) (jB L U)
 refine⟨((h.st.S I λb hb=>.inr (by rw[Lb.1 hb];exact h.hb)).D G).S J λb hb=>.inr (Qi h.o b hb).1,?_,λY E=>?_,?_,λha=>?_,h.hb⟩
 ·rw[LC,M0,Lc,Lt];exact ho
 ·rcases Le.1 E with E|E
  ·exact⟨k [] (h.e Y E).1,λL S=>k L ((h.e Y E).2 L S)⟩
  rw[Lb.1 E];exact⟨k [] V.1,λL S=>k L (V.2 L S)⟩
 ·rw[Lv];exact(hm.I G).J J h.nm
 rcases U _ ha with h1|h1
 ·exact h.nm h1
 omega
end
theorem QgW (L:List (LI×LI))(hd:L.Nodup)(h:∀p∈L,Ss n p.1/\Ss n p.2):L.length<=2 ^ (n+n):=by
 have fil:∀r∈L,∀x,x∈r.1↔x∈(r.1++r.2.map (·+(n:Int)))/\x<(n:Int):=λr G x=>by
  constructor
  ·intro hx;exact⟨Le.2 (.inl hx),((h r G).1.2 x hx).2⟩
  rintro⟨hx,he⟩;rcases Le.1 hx with hx|hx
  ·exact hx
  obtain⟨y,I,rfl⟩:=Lz.1 hx;have:=(h r G).2.2 y I;omega
 have fir:∀r∈L,∀x,x∈r.2↔0<=x/\x+(n:Int)∈(r.1++r.2.map (·+(n:Int))):=λr G x=>by
  constructor
  ·intro hx;exact⟨((h r G).2.2 x hx).1,Le.2 (.inr (Lz.2 ⟨x,hx,O⟩))⟩
  rintro⟨h0,hx⟩;rcases Le.1 hx with hx|hx
  ·have:=(h r G).1.2 _ hx;omega
  obtain⟨y,I,e⟩:=Lz.1 hx;have:y=x:=oa
  exact this ▸ I
 have Y:∀p∈L,∀q∈L,p.1++p.2.map (·+(n:Int))=q.1++q.2.map (·+(n:Int))->p=q:=λp E q J e=>by
  have e1:p.1=q.1:=qt (h p E).1.1 (h q J).1.1 λx=>by rw[fil p E,fil q J,e]
  have e2:p.2=q.2:=qt (h p E).2.1 (h q J).2.1 λx=>by rw[fir p E,fir q J,e]
  exact Prod.ext e1 e2
 have:=qi (n+n) (L.map λp=>p.1++p.2.map (·+(n:Int))) (by
  unfold List.Nodup;rw[L7];exact hd.imp_of_mem λ{a b} ha hb hc e=>hc (Y a ha b hb e)) λl hl=>by
  obtain⟨p,E,rfl⟩:=Lz.1 hl;obtain⟨⟨h1,U⟩,h3,V⟩:=h p E;refine⟨?_,λx hx=>?_⟩
  ·unfold YN at *;rw[Mj];refine⟨h1,?_,λx hx y I=>?_⟩
   ·rw[L7];exact h3.imp λh=>oa
   obtain⟨z,S,rfl⟩:=Lz.1 I;have:=U x hx;have:=V z S;omega
  rcases Le.1 hx with hx|hx
  ·have:=U x hx;omega
  obtain⟨z,S,rfl⟩:=Lz.1 hx;have:=V z S;omega
 rwa [Lj]at this
theorem zp:∀n:Nat,4 ^ n=2 ^ (n+n)
 | 0=>rfl
 | n+1=>by rw[OL,zp n,show n+1+(n+1)=n+n+1+1 by omega,OL,OL];omega
theorem QlI (h:n<=9):2 ^ (n+n)<=262144:=Lx (Nat.pow_le_pow_right og (show n+n<=18 by omega)) og
theorem Ss.len (h:Ss n l):l.length<=n:=xD n l (h.1.imp λE e=>oa) h.2
structure DqP (n:Nat)(l:List Dq):Prop where
 s:∀d∈l,Ss n d.1/\Ss n d.2.1
 w:∀d∈l,d.2.2.length<=l.length
 d:(l.map λd=>(d.1,d.2.1)).Nodup
theorem DqP.le {l:List Dq}(h:DqP n l):l.length<=2 ^ (n+n):=by
 have:=QgW _ h.d λp E=>by
  obtain⟨d,hd,rfl⟩:=Lz.1 E;exact h.s d hd
 rwa [Lj]at this
theorem yz {l:List Dq}{x y:LI}:Kj l x y=true↔(x,y)∈l.map λd=>(d.1,d.2.1):=by
 unfold Kj;rw[List.any_eq_true,Lz];exact⟨λ⟨d,E,G⟩=>⟨d,E,by have:=OU G;rw[this.1,this.2]⟩,λ⟨d,E,G⟩=>⟨d,E,OT (by cases G;exact⟨O,O⟩)⟩⟩
theorem DqP.add {l:List Dq}(h:DqP n l){x y w:LI}(hx:Ss n x)(E:Ss n y)(G:w.length<=l.length+1)(I:Kj l x y=false):DqP n (l++[(x,y,w)]):=by
 refine⟨λd hd=>?_,λd hd=>?_,?_⟩
 ·rcases Le.1 hd with hd|hd
  ·exact h.s d hd
  rw[Lb.1 hd];exact⟨hx,E⟩
 ·rw[Lc,Lt];rcases Le.1 hd with hd|hd
  ·have:=h.w d hd;omega
  rw[Lb.1 hd];exact G
 rw[Lv,Mr];refine⟨h.d,od,λa J b hb e=>?_⟩;rw[Nl,Lb]at hb;have:=yz.2 (hb ▸ e ▸ J);rw[I]at this;cases this
theorem DqP.one {x y:LI}(hx:Ss n x)(E:Ss n y):DqP n [(x,y,[])]:=
 ⟨λd hd=>by rw[Lb.1 hd];exact⟨hx,E⟩,λd hd=>by rw[Lb.1 hd];exact Ln _,od⟩
theorem Qf5 (a:QF)(o un l:LI)(v:Int):Ss a.st.toNat (vnx a o un l v):=jr _ _
theorem Qis {bad:LI->LI->Bool}{f:Nat}{l:List Dq}(h:l.length<=i):dfL a o un bad f i l=none:=by
 cases f with
 | zero=>rfl
 | succ f=>rw[dfL,Mn h]
theorem Qni {bad:LI->LI->Bool}{f:Nat}{l:List Dq}{x:Dq}(h:l[i]?=some x):dfL a o un bad (f+1) i l=if bad x.1 x.2.1=true then some x.2.2 else dfL a o un bad f (i+1) ((kpt a o).foldl (dfE a o un x) l):=by
 rw[dfL,h]
abbrev DqV:=Dq×OY×OY×OY
abbrev dqC (q:DqV):LV:=[q.2.1,q.2.2.1,q.2.2.2]
abbrev dqL (q:List DqV):List Dq:=q.map (·.1)
theorem QdL {f:α->Dq}{q:List α}(h:DqP n (q.map f)){x y:LI}(hx:Ss n x)(J:Ss n y){i:Decidable (koA x y∈q.map λp=>koA (f p).1 (f p).2.1)}:(!@decide _ i)=!Kj (q.map f) x y:=by
 congr 1;have hi:(koA x y∈q.map λp=>koA (f p).1 (f p).2.1)↔Kj (q.map f) x y=true:=by
  rw[yz,Mm,Lz,Lz];constructor
  ·rintro⟨p,G,e⟩;have I:=h.s (f p) (LG G);obtain⟨e1,e2⟩:=Qkv (λz E=>(I.1.2 z E).1) (λz E=>(I.2.2 z E).1) (λz E=>(hx.2 z E).1) (λz E=>(J.2 z E).1) e;exact⟨p,G,by show((f p).1,(f p).2.1)=_;rw[e1,e2]⟩
  rintro⟨p,G,e⟩;have e':((f p).1,(f p).2.1)=(x,y):=e;injection e' with e1 e2
  exact⟨p,G,by rw[e1,e2]⟩
 cases hb:Kj (q.map f) x y with
 | true=>exact OT (hi.2 hb)
 | false=>exact OV λS=>by rw[hi.1 S]at hb;cases hb
abbrev dqP (p:DqV):List (OY×LI):=[(p.2.1,p.1.1),(p.2.2.1,p.1.2.1)]
abbrev dqN (p:DqV):List (OY×LI):=[(p.2.2.2,p.1.2.2)]
abbrev DqI:=QI 361 3 dqC Xj (λp:DqV=>koA p.1.1 p.1.2.1) dqP dqN
abbrev Qd4:LV:=[nS,nS,nS]
def dfP (N:Nat)(A B W:LI)(e:Int)(i:Nat)(v:OY)(w:OX):Prop :=
 if i=4 then Qh 3 N w v A else
 if i=9 then Qh 3 N w v B else
 if i=12 then Qh 3 N w v W else
 if i=14 then ∃b,v=sL b 1 1/\N<=b/\QK ↑w b 3 [sS e]else
 if i=15 then Qh 3 N w v (W++[e])else
 if i=16 then ∃va vb vw,v=.agg #[va,vb,vw]/\Qh 3 N w va A/\Qh 3 N w vb B/\Qh 3 N w vw (W++[e])else
 ∃b,v=sP b/\N<=b/\QK ↑w b 361 Qd4
theorem Qir {A B W:LI}{e:Int}(i:Nat)(v:OY)(own:LN)(w w':OX)(h:dfP N A B W e i v w)(E:O1 own w w')(hb:∀b∈ow v,b∉own)(J:i∈[16]->own=[]):dfP N A B W e i v w':=by
 have k:∀{l:LI},Qh 3 N w v l->Qh 3 N w' v l:=λS=>Qg S E λb U=>hb b (qW U);unfold dfP at *;by_cases e4:i=4
 ·rw[OQ e4]at *;exact k h
 rw[OP e4]at *;by_cases e9:i=9
 ·rw[OQ e9]at *;exact k h
 rw[OP e9]at *;by_cases e12:i=12
 ·rw[OQ e12]at *;exact k h
 rw[OP e12]at *;by_cases e14:i=14
 ·rw[OQ e14]at *;obtain⟨b,rfl,G,I⟩:=h;exact⟨b,rfl,G,I.J E (hb b Lo)⟩
 rw[OP e14]at *;by_cases e15:i=15
 ·rw[OQ e15]at *;exact k h
 rw[OP e15]at *;by_cases e16:i=16
 ·rw[OQ e16]at *;obtain⟨va,vb,vw,rfl,G,I,V⟩:=h;have:=J (by rw[e16];exact Lo);subst this;exact⟨va,vb,vw,O,Qm G E,Qm I E,Qm V E⟩
 rw[OP e16]at *;obtain⟨b,rfl,G,I⟩:=h;exact⟨b,O,G,I.J E (hb b Lo)⟩
theorem Qfw [Fu sV gp fn]{bad:LI->LI->Bool}{V:je}{A B:LI}(h:jf ↑w V)(hA:Qt [] ↑w va A)(U:Qt [] ↑w vb B)(hU:Ss V.a.st.toNat A)(hV:Ss V.a.st.toNat B)(h9:V.a.st<=9)(g8:V.a.ed.length<=1000)
  (hk:∀(X Y:LI) (vx vy:OY) (W:OX),sW w W->Qt [] ↑W vx X->Qt [] ↑W vy Y->QT sV gp ([vx,vy]++cap) W λr w'=>r=.bool (bad X Y)/\sW W w'):
  QT sV 204 [.pointer (some ⟨V.b,0,none⟩),va,vb,.func (.func gp) #[] cap.toArray] w λr w'=>sW w w'/\∃vw,r=.tuple #[vw,.bool (dff V.a V.o V.un A B bad).isSome]/\Yj ↑w ↑w' vw ((dff V.a V.o V.un A B bad).getD []):=by
 have g9:=h.ok;have hst0:=g9.st0;obtain⟨n,hn⟩:∃n:Nat,V.a.st.toNat=n:=⟨_,O⟩;have mg:n<=9:=oa
 have hna:V.a.st=(n:Int):=oa
 rw[hn]at hU hV;have hp18:=QlI mg;have mh:dff V.a V.o V.un A B bad=dfL V.a V.o V.un bad (2 ^ (n+n)+1) 0 [(A,B,[])]:=by unfold dff;rw[hn,zp]
 rw[mh];refine Zf (dfL V.a V.o V.un bad (2 ^ (n+n)+1) 0 [(A,B,[])]) λR hR=>?_;rw[hR];have hAl:=hU.len;have hBl:=hV.len;refine Zn func204 ?_;refine Qc<|x Qd<|Qb<|Ql<|Qa<|x (QB ⟨hA.cells,U.cells,Z⟩)<|Qo<|Q5 [[va,vb,ZR]] λhX w1 mj mo ka=>Qb<|Qc<|Qo<|ZU Xj λbm w2 mq hbm kb=>Qa<|Qa<|Qo<|Yf (us:=[[va],[vb]]) O O og od ⟨hA.cells,rfl,U.cells,rfl,Z⟩ λb24 w3 kc hb24 ms=>?_;have h5:=mq.D kc;have gl:=mj.D h5;have hl20:=ka.lt;have hlm:=kb.lt;refine Kr<|(VK (m:=100) (ms.arr od (n:=2) (cap:=2) (sz:=1) rfl og (Lp _)) (hA.I gl) (U.I gl) (.inl (Mt _)) (λz hz=>oo (hU.2 z hz)) (λz hz=>oo (hV.2 z hz)) oa oa).Y ?_;rintro _ w4 ⟨rfl,gm⟩;refine Qo<|jJ (k:=koA A B) (Xs.zero ((kb.I kc).I gm)) O O O λw5 ke mt=>Qa<|Qb ?_;have mu:=gl.D gm;have kf:sW w w5:=mu.O ke oa;have kg:∀{L:LN} {v:OY} {l:LI},(∀b∈L,↑w<=b)->Qt [] ↑w v l->Qt L ↑w5 v l:=λhL hv=>(hv.up λb hb=>.inr (hL b hb)).I kf;have mv:DqI bm w (sL hX 1 1) [((A,B,[]),va,vb,ZR)] w5:=by
  have hL:∀b∈bm::ob (sL hX 1 1),↑w<=b:=λb hb=>by
   rcases Ll.1 hb with rfl|hb
   ·omega
   rw[Lb.1 hb];exact mo
  have kh:hX≠bm:=oa
  refine⟨kf,(((ka.I h5).I gm).J ke (by simp only[oF];exact kh)).own (n:=1) (sz:=3) O oa oa,λp hp=>?_,mt,λI=>kh (Lb.1 I).symm,oa⟩;rw[Lb.1 hp];exact⟨⟨kg hL hA,kg hL U,Z⟩,λ_ _=>⟨Zs.nil _ _ _,Z⟩⟩
 refine Qe<|Qc<|Qb<|QW (α:=Nat×OY×List DqV) [(8,10),(12,13),(15,16),(27,99)] (λz=>[(10,z.2.1),(12,sS z.1)]) (λz w'=>z.1<=z.2.2.length/\DqI bm w z.2.1 z.2.2 w'/\DqP n (dqL z.2.2)/\dfL V.a V.o V.un bad (2 ^ (n+n)+1 - z.1) z.1 (dqL z.2.2)=R) (λz=>2 ^ (n+n)+1 - z.1) (0,sL hX 1 1,[((A,B,[]),va,vb,ZR)]) ov ⟨Ln _,mv,DqP.one hU hV,hR⟩ ?_;rintro⟨i,vl,q⟩ g w6 ⟨hi,h6,hJ,ha⟩;simp only[]at hi h6 hJ ha;have hql:q.length<=2 ^ (n+n):=by have:=hJ.le;rwa [Lj]at this
 have ki:Zs [] ↑w6 vl q.length 3 (q.flatMap dqC):=QN h6.o oa od;refine Qe<|Ql<|Qa<|QG ki O<|ZX O O<|xe<|Zp rfl (λgn=>?_) (λgn=>?_)
 ·refine Qu ?_;have mw:q.length<=i:=by have hK:¬(i:Int)<(q.length:Int):=gn;omega
  rw[Qis (by rw[Lj];exact mw)]at ha;refine Qc<|x Qd<|Qb<|Qj ⟨[ZR,.bool false],ov,h6.st,ZR,?_,?_⟩
  ·rw[<-ha];rfl
  rw[<-ha];exact Yj.nil _ _
 have hM:i<q.length:=by have hK:(i:Int)<(q.length:Int):=gn;omega
 have my:2 ^ (n+n)+1 - i=(2 ^ (n+n)+1 - (i+1))+1:=oa
 have hN:=Lk hM;have kj:(dqL q)[i]?=some (q[i]'hM).1:=by rw[Mq,LD hM];rfl
 refine Zf (q[i]'hM) λd hp=>?_;rw[hp]at hN kj;rw[my,Qni kj]at ha;obtain⟨⟨kk,kn,_⟩,ko⟩:=h6.e d hN;have mz:=(ko [] (λ_ hb=>by cases hb)).1;have hY:=hJ.s d.1 (LG hN);have m0:=hJ.w d.1 (LG hN);rw[Lj]at m0;have hl1:=hY.1.len;have hl2:=hY.2.len;have hr:∀{v:OY} {l:LI} {L:LN} {H:xw},Qt L H v l->Qt [] H v l:=λhv=>hv.up λb hb=>by cases hb
 refine Qf<|Qe<|Qn<|Ql<|Qa<|O4 (g:=dqC) (i:=i) (λ_=>O) ki O O hM λa35 kp=>?_;rw[hp]at kp;refine x (QE (us:=dqC d) kp O O)<|QP Qd4 λhZ w7 m1 m2 m3=>Q0 (dqC d) m3 ⟨kk.one,kn.one,mz.one,Z⟩ λw8 m4 go=>xe ?_;have ga:sW w6 w8:=m1.O m4 m2;have kq:=h6.I ga;refine Qe<|Ql<|Qr O go O O<|Qr O go O O<|Qo<|xc (first:=[]) (capt:=cap) O<|(hk d.1.1 d.1.2.1 _ _ w8 kq.st (hr (kk.I ga)) (hr (kn.I ga))).Y ?_;rintro _ w9 ⟨rfl,gq⟩;refine xe ?_;have gb:=kq.I gq;have kr:=go.I gq;have m5:=ga.D gq;refine Q9 rfl (λgr=>?_) (λgr=>?_)
 ·rw[OQ gr]at ha;refine Qc<|Qr O kr O O<|x Qd<|Qb<|Qj ⟨[d.2.2.2,.bool true],ov,gb.st,d.2.2.2,?_,?_⟩
  ·rw[<-ha];rfl
  rw[<-ha];exact λL hL=>((ko L hL).1.I m5).up λb hb=>.inl (Le.2 (.inl hb))
 rw[OP (λh:bad d.1.1 d.1.2.1=true=>MC (gr.symm.D h))]at ha;refine Qf<|Ql<|Kr<|(yq (h.I gb.st)).Y ?_;rintro kt m6 ⟨ku,m7⟩;have hal:=g9.al_le;have m8:(kpt V.a V.o).length<=V.a.al.length:=LF _ _;have m9:=gb.lt;have gs:Qt (bm::ob vl) ↑m6 kt (kpt V.a V.o):=Qh.ints m7 oa m9;refine Zf (kpt V.a V.o) λks pc=>?_;rw[pc]at ha gs m8;refine QG gs O<|Qa<|xe ?_;have pd:=h6.lt;have pf:hZ∉bm::ob vl:=λI=>oo (pd _ I)
 refine QW (α:=Nat×OY×List DqV) [(10,10),(15,16),(48,99)] (λz=>[(10,z.2.1),(48,sS z.1)]) (λz w'=>z.1<=ks.length/\DqI bm w z.2.1 z.2.2 w'/\DqP n (dqL z.2.2)/\d∈z.2.2/\q.length<=z.2.2.length/\QK ↑w' hZ 361 (dqC d)/\hZ∉bm::ob z.2.1/\Qt (bm::ob z.2.1) ↑w' kt ks/\(ks.drop z.1).foldl (dfE V.a V.o V.un d.1) (dqL z.2.2)=ks.foldl (dfE V.a V.o V.un d.1) (dqL q)) (λz=>ks.length - z.1) (0,vl,q) ov
  ⟨Ln _,gb.I ku,hJ,hN,Lp _,kr.I ku,pf,gs,O⟩ ?_
 rintro⟨j,vj,qj⟩ g J ⟨hj,ht,h7,gc,kv,h8,hC,ge,hg⟩;simp only[]at hj ht h7 gc kv hC ge hg;have hqjl:qj.length<=2 ^ (n+n):=by have:=h7.le;rwa [Lj]at this
 refine Zi rfl O (λgt=>?_) (λgt=>?_)
 ·refine Qu ?_;have pg:ks.length<=j:=by have hK:¬(j:Int)<(ks.length:Int):=gt;omega
  rw[Ls pg]at hg;have ph:dqL qj=ks.foldl (dfE V.a V.o V.un d.1) (dqL q):=hg;rw[<-ph]at ha;refine Qs<|Qa<|QC O O<|Qb<|⟨(i+1,vj,qj),by show 2 ^ (n+n)+1 - (i+1)<2 ^ (n+n)+1 - i;omega,ov,by show i+1<=qj.length;omega,ht,h7,ha⟩
 have hO:j<ks.length:=by have hK:(j:Int)<(ks.length:Int):=gt;omega
 rw[QX hO,LO]at hg;refine Qf<|Qe<|Qn<|Qc<|xii (i:=j) ge O O hO λa50 kw=>?_;refine Zf (ks[j]'hO) λv hv=>?_;rw[hv]at kw hg;refine x (Qq kw O)<|Qb ?_;obtain⟨⟨pj,pn,_⟩,po⟩:=ht.e d gc;have pp:=(po [] (λ_ hb=>by cases hb)).1;have kx:∀l:LI,Ss n (vnx V.a V.o V.un l v):=λl=>by rw[<-hn];exact Qf5 _ _ _ _ _
 have hD:=kx d.1.1;have hE:=kx d.1.2.1;have kz:dfE V.a V.o V.un d.1 (dqL qj) v=if(vnx V.a V.o V.un d.1.1 v).length+(vnx V.a V.o V.un d.1.2.1 v).length > 0/\Kj (dqL qj) (vnx V.a V.o V.un d.1.1 v) (vnx V.a V.o V.un d.1.2.1 v)=false then dqL qj++[(vnx V.a V.o V.un d.1.1 v,vnx V.a V.o V.un d.1.2.1 v,d.1.2.2++[v])]else dqL qj:=rfl
 have pt:∀z∈d.1.1,0<=z/\z<V.a.st:=λz hz=>oo (hY.1.2 z hz)
 have pu:∀z∈d.1.2.1,0<=z/\z<V.a.st:=λz hz=>oo (hY.2.2 z hz)
 have k0:∀W:OX,sW J W->QT sV 136 [.pointer (some ⟨V.b,0,none⟩),d.2.1,sS v] W λr w'=>sW W w'/\Qh 3 ↑W w' r (vnx V.a V.o V.un d.1.1 v):=λW hW=>Ud (est:=d.1.1) (h.I (ht.st.D hW)) (hr (pj.I hW)) pt oa g8 v;have k4:∀W:OX,sW J W->QT sV 136 [.pointer (some ⟨V.b,0,none⟩),d.2.2.1,sS v] W λr w'=>sW W w'/\Qh 3 ↑W w' r (vnx V.a V.o V.un d.1.2.1 v):=λW hW=>Ud (est:=d.1.2.1) (h.I (ht.st.D hW)) (hr (pn.I hW)) pu oa g8 v;refine Zf (vnx V.a V.o V.un d.1.1 v) λA' gu=>?_;refine Zf (vnx V.a V.o V.un d.1.2.1 v) λB' gv=>?_;rw[gu,gv]at kz;rw[gu]at hD;rw[gv]at hE;simp only[gu]at k0;simp only[gv]at k4;rw[kz]at hg;have hAl':=hD.len;have hBl':=hE.len;have pw:=ht.st.size;refine Qe<|zR (α:=OY×OY×OY×Nat) (sW J) (sW J) ↑J [oz 0,oz 1,oz 2,oz 3,oz 5,oz 6,oz 7,oz 8,oz 10,oz 11,oz 13] (λi=>if i=9 then[4]else if i=12 then[9]else if i=15 then[12,14]else if i=16 then[4,9,15]else[]) (λi=>if i=15 then[12]else[]) [4,9,12,14,15,16,17] [16,17] [16] [oA 18] [(56,56),(61,61),(64,64),(66,68),(16,16)] (dfP ↑J A' B' d.1.2.2 v)
  (λz=>[(68,.agg #[z.1,z.2.1,z.2.2.1]),(16,.pointer (some ⟨z.2.2.2,0,none⟩))]) (λz w'=>Qh 3 ↑J w' z.1 A'/\Qh 3 ↑J w' z.2.1 B'/\Qh 3 ↑J w' z.2.2.1 (d.1.2.2++[v])/\↑J<=z.2.2.2/\QK ↑w' z.2.2.2 361 Qd4)
  mixed oh oc (O1.C _ _) (λ_ h=>h) (λ_ _ _ _ _ E S hb _=>E.S S λb pz=>.inr (hb b pz)) (λ_ E=>E.size) (λi _=>Qir i) ?_ ?_
 ·rintro g w' ⟨⟨he,hf,hh,p0,h1,h2,h3⟩,⟨b,p4,hb,U⟩,_⟩ _ _;exact⟨(he,hf,hh,b),⟨p0,p4,Z⟩,h1,h2,h3,hb,U⟩
 refine p Qy<|p (QH O)<|pq (λ_ E=>Qk (h8.I E) O O)<|p Qy<|p Qy<|p (QH O)<|pq (λ_ E=>Qk (h8.I E) O O)<|p Qy <|
  p (QH rfl)<|pq (λ_ E=>Qk (h8.I E) O O)<|p Qy<|pe ⟨⟨?_,?_,?_,?_,?_,?_,?_,Z⟩,?_⟩
 ·rintro g w' E _ _;exact xf<|(k0 w' E).Y λr hP ⟨S,G⟩=>⟨S,Q8 G E.size,λb hb=>⟨.inl (XI G b hb).1,(XI G b hb).2⟩⟩
 ·rintro g w' E _ _;exact xf<|(k4 w' E).Y λr hP ⟨S,G⟩=>⟨S,Q8 G E.size,λb hb=>⟨.inl (XI G b hb).1,(XI G b hb).2⟩⟩
 ·rintro g w' E _ _;exact xf<|(ZT (pp.I E)).Y λr hP ⟨S,G⟩=>⟨S,Q8 G E.size,λb hb=>⟨.inl (XI G b hb).1,(XI G b hb).2⟩⟩
 ·rintro g w' E _ _;exact Q5 [[sS v]] λb hP S hb U=>⟨S,⟨b,O,Lx E.size hb,U⟩,λc hQ=>by rw[Lb.1 (show c∈[b] from hQ)];exact⟨.inl hb,U.lt⟩⟩
 ·rintro g w' E ⟨p5,⟨b,p6,hb14,p7⟩,_⟩ _;refine Q2 (m:=1) (news:=[sS v]) (L:=[]) (show Qh _ _ _ _ _ from p5) O p6 O (p7.at od) om oa E.size λr hP G S hn=>⟨S.Y λb hb=>Mb.2 ⟨12,Lo,qW hb⟩,Qh.snoc G,λb hb=>⟨?_,(XI G b hb).2⟩⟩;exact(hn b (QcC G hb)).symm.imp id λh=>Mb.2 ⟨12,Lo,qW h⟩
 ·rintro g w' E ⟨h4,h9,k5,_⟩ _;refine xv (QB ⟨xH (show Qh _ _ _ _ _ from h4),xH (show Qh _ _ _ _ _ from h9),xH (show Qh _ _ _ _ _ from k5),Z⟩) ?_;exact⟨O1.Z _ _,⟨_,_,_,O,h4,h9,k5⟩,λc hQ=>by cases hQ⟩
 ·rintro g w' E _ _;exact YK (us:=Qd4) O λb hP S hb U=>⟨S,⟨b,O,Lx E.size hb,U⟩,λc hQ=>by rw[Lb.1 (show c∈[b] from hQ)];exact⟨.inl hb,U.lt⟩⟩
 rintro⟨he,hf,hh,b16⟩ g p8 k6 ⟨gx,gy,gz,gg,g0⟩;simp only[]at gx gy gz gg g0;refine pk<|Us [he,hf,hh] g0 ⟨Qz gx,Qz gy,Qz gz,Z⟩ λhF h5 hG=>⟨k6.O h5 gg,pe ?_⟩;have hS:sW J hF:=k6.O h5 gg;have g2:∀{u:OY} {l:LI},Qh 3 ↑J p8 u l->Qh 3 ↑J hF u l:=λG=>Qg G h5 λb hb I=>Vg G g0 og (Lb.1 I ▸ hb);have p9:=g2 gx;have qf:=g2 gy;have k9:=g2 gz;have ql:(d.1.2.2++[v]).length<=qj.length+1:=by rw[Lc,Lt];omega
 have g3:=ht.I hS;have hT:=ht.lt;have hy:Qt (bm::ob vj) ↑hF he A':=Qh.ints p9 oa hT;have h0:Qt (bm::ob vj) ↑hF hf B':=Qh.ints qf oa hT;have q0:Qt (bm::ob vj) ↑hF hh (d.1.2.2++[v]):=Qh.ints k9 oa hT;have gh:∀{l:LI},Ss n l->∀z∈l,0<=z/\z<(100:Int):=λhl z hz=>oo (hl.2 z hz)
 refine QV (α:=Unit) [(69,87)] (λ_=>[(87,.bool (decide (A'.length+B'.length > 0/\Kj (dqL qj) A' B'=false)))]) (λ_ w'=>sW hF w') oh ?_ ?_
 ·refine Qs<|Qr O hG O O<|QG hy O<|Qr O hG O O<|QG h0 O<|QC O O<|xb (Z2 O O) (λg4=>?_) (λg4=>?_)
  ·refine Qa<|Qa<|Qr O hG O O<|Qr O hG O O<|Qo<|Yf (us:=[[he],[hf]]) O O og od ⟨hy.cells,rfl,h0.cells,rfl,Z⟩ λb83 q4 hq hb83 q5=>?_;refine Kr<|(VK (m:=100) (q5.arr od (n:=2) (cap:=2) (sz:=1) rfl og (Lp _)) (hr (hy.I hq)) (hr (h0.I hq)) (.inl (Mt _)) (gh hD) (gh hE) oa oa).Y ?_;rintro _ j1 ⟨rfl,gi⟩;refine x (jy (k:=koA A' B') ((g3.m.I hq).I gi) O O)<|x (Zh O)<|QA O<|xe<|⟨(),⟨OR Value.bool ?_,Z⟩,hq.D gi⟩;refine(QdL (f:=Prod.fst) h7 hD hE).D ?_;have j2:A'.length+B'.length > 0:=by have hK:(A'.length:Int)+(B'.length:Int) > 0:=g4;omega
   cases hse:Kj (dqL qj) A' B' with
   | true=>exact bF λh=>by cases h.2
   | false=>exact bT ⟨j2,O⟩
  refine Qa<|Zy<|Zy<|Zy<|QA O<|xe ?_;exact⟨(),⟨OR Value.bool (bF λh=>by have hK:¬(A'.length:Int)+(B'.length:Int) > 0:=g4;have:=h.1;omega),Z⟩,O1.Z _ _⟩
 rintro _ g q4 hq;have ma:=hS.D hq;have j3:=g3.I hq;refine Zp rfl (λgj=>?_) (λgj=>?_)
 ·rw[OP gj]at hg;refine Qf<|Qs<|QC O O<|Qa<|xe ?_;exact⟨(j+1,vj,qj),by show ks.length - (j+1)<ks.length - j;omega,ov,hO,j3,h7,gc,kv,h8.I ma,hC,ge.I ma,hg⟩
 rw[OQ gj]at hg;have mc:=hG.I hq;refine Ql<|Qr O mc O O<|Qr O mc O O<|Qo<|Yf (us:=[[he],[hf]]) O O og od ⟨hy.cells,rfl,h0.cells,rfl,Z⟩ λb93 j1 gi hb93 j4=>?_;have g5:=hq.D gi;refine Kr<|(VK (m:=100) (j4.arr od (n:=2) (cap:=2) (sz:=1) rfl og (Lp _)) (hr (hy.I g5)) (hr (h0.I g5)) (.inl (Mt _)) (gh hD) (gh hE) oa oa).Y ?_;rintro _ w16 ⟨rfl,za⟩;have hw:=g5.D za;have gk:=g3.I hw;refine Qo<|qZ (k:=koA A' B') gk.m O O O λw17 hH z2=>xe ?_;have z3:b16∉[bm]:=λI=>by have:=hT bm Lo;rw[Lb.1 I]at gg;omega
 have z4:=(hG.I hw).J hH z3;have hz13:=hS.size;have hz16:=hw.size;have hz17:=hH.size;refine Qs<|Qa<|QY z4 O O<|Qo<|Q5 [[he,hf,hh]] λb97 w18 hI hb97 z5 =>
  Qo<|Q2 (m:=1) (news:=[he,hf,hh]) (L:=[]) (Qm (Qg gk.o hH λb hb I=>gk.nm (Lb.1 I ▸ hb)) hI) O O O (z5.at od) (λu hu=>ZH.all (us:=[he,hf,hh]) ⟨hy.one,h0.one,q0.one,Z⟩ u hu) oa (oo hI.size) λvr w19 ho19 g6 g7=>Qb<|Qs<|QC O O<|Qa<|xe ?_
 have hz18:=hI.size;have hnew:=gk.add (p:=((A',B',d.1.2.2++[v]),he,hf,hh)) hH z2 hI g6 ho19 g7 ⟨⟨hy.I hw,h0.I hw,Z⟩,λL hL=>⟨(Qh.ints k9 oa λb hb=>(Le.1 hb).elim (λh=>LP (hL b h) pw) (hT b)).I hw,Z⟩⟩;have h13w:hZ<J.heap.size:=h8.lt;have mf:∀b∈[bm],b∈bm::ob vj:=λb hb=>by rw[Lb.1 hb];exact Lo
 refine⟨(j+1,vr,qj++[((A',B',d.1.2.2++[v]),he,hf,hh)]),by show ks.length - (j+1)<ks.length - j;omega,ov,hO,hnew,?_,Le.2 (.inl gc),by rw[Lc];omega,?_,λI=>?_,?_,?_⟩
 ·show DqP n (OO _ (qj++[_]));rw[Lv];exact h7.add hD hE (by rw[Lj];exact ql) gj.2
 ·exact((((h8.I hS).I hw).J hH λI=>hC (mf _ I)).I hI).J g6 λI=>hC (Lm _ I)
 ·rcases Ll.1 I with e|I
  ·exact hC (e ▸ Lo)
  rcases g7 _ I with h1|h1
  ·exact hC (Lm _ h1)
  omega
 ·exact Zs.grow ((((ge.I hS).I hw).J hH mf).I hI) g6 (λb hb=>Lm _ hb) (jC g7)
 show(ks.drop (j+1)).foldl (dfE V.a V.o V.un d.1) (OO _ (qj++[_]))=_;rw[Lv];exact hg
theorem Qor {b:Bool}(h:(!b)=true):b=false:=by cases b <;> first|rfl|cases h
theorem Qos {b:Bool}(h:(!b)=false):b=true:=by cases b <;> first|rfl|cases h
theorem jn (a:QF)(o un l:LI)(b:Bool):Ss a.st.toNat (vcl a o un l b):=jr _ _
theorem Qf0 {V:je}{est:LI}(h:jf ↑w V)(hE:Qt [] ↑w ve est)(hs:Ss V.a.st.toNat est)(h0:0<=s)(h1:s<V.a.st)(h9:V.a.st<=9)(hf:V.a.ed.length<=1000):
  QT sV 134 [.pointer (some ⟨V.b,0,none⟩),ve,sS s] w λr w'=>sW w w'/\∃vw,r=.tuple #[vw,.bool (rft V.a V.o V.un est s).isSome]/\Yj ↑w ↑w' vw ((rft V.a V.o V.un est s).getD []):=by
 have hl:=h.ok.st0;have S:=jn V.a V.o V.un [s] false;have hm:=S.len;refine Zn func134 ?_;refine Qc<|Zd [.pointer (some ⟨V.b,0,none⟩)] λb3 w1 T hn I=>x Qd<|Qb<|Qe<|ZJ [] [oz 0,oz 1,oz 2,oz 3,oz 6,oA 4,oA 5,oA 7,oz 8,oz 9,oz 10,oz 11]<|pq (λ_ J=>Qk (I.I J) O O)<|p Qy<|pq (λ_ J=>Qk (I.I J) O O)<|p Qy <|
  p (λ_=>Zl (l:=[]) (l':=[.tmp 3]))<|pk<|Q5 [[sS s]] λho w2 U hp hg=>⟨(O1.C _ _).D U,?_⟩
 have ha:sW w1 w2:=(O1.C _ _).D U;have hh:=T.D ha;refine pk<|xg<|(Kt (only:=false) (l:=[s]) (h.I hh) (hg.arr od (n:=1) (cap:=1) (sz:=1) rfl og (OB _)) (λz hz=>by rw[List.mem_singleton.1 hz];exact⟨h0,h1⟩) od).Y ?_;rintro v3 w3 ⟨hj,hk⟩;have G:=ha.D hj;have E:=T.D G;refine⟨G,?_⟩;refine pk<|xg<|(Qfw (cap:=[sP b3]) (bad:=QaS V.a) (h.I E) (hE.I E) (Qh.ints hk oa od) hs S h9 hf
  (λX Y vx vy W hW hx hy=>Qf4 (h.I (E.D hW)) ((I.I G).I hW) hx hy)).Y ?_
 rintro r4 w4 ⟨he,vw,rfl,hw⟩;refine⟨G.D he,?_⟩;refine p (λ_=>QZ O O)<|p (λ_=>QZ O O)<|p ZK<|p ZK<|pe ?_;exact Qj ⟨[vw,_],ov,E.D he,vw,O,hw.Y E.size⟩
theorem Qf3 {V:je}{v:Int}(h:jf ↑w V)(h0:0<=s)(h1:s<V.a.st)(h9:V.a.st<=9):
  QT sV 137 [.pointer (some ⟨V.b,0,none⟩),sS s,sS v] w λr w'=>r=.bool (ctd V.a V.o V.un s v)/\sW w w':=by
 have hA:=h.ok.st0;have hn:=jn V.a V.o V.un [s] false;have ho:=jn V.a V.o V.un [s] true;have hB:=hn.len;have hC:=ho.len;have hp:∀z∈[s],0<=z/\z<V.a.st:=λz J=>by rw[Lb.1 J];exact⟨h0,h1⟩
 refine Zn func137 ?_;refine Qc<|Zd [.pointer (some ⟨V.b,0,none⟩)] λb3 w1 hu hD hv=>Zd [sS v] λb5 G hq hE hh=>Qb ?_;have T:=hu.D hq;have S:=hv.I hq;have I:sW G { G with drawn:=G.drawn+1 }:=O1.C _ _
 refine Qe<|QV (α:=Unit) [(8,20)] (λ_=>[(20,.bool (!(decide (v∈V.o) && decide (v∈V.un))))]) (λ_ w'=>sW G w') oh ?_ ?_
 ·refine ZJ [] (Y4 0 13 [2,10])<|pq (λ_ E=>Qk (S.I E) O O)<|pq (λ_ E=>Qk (hh.I E) O O)<|pk<|xg<|(qu (w:={ G with drawn:=G.drawn+1 }) ((h.I T).I I) v).Y ?_
  rintro _ w3 ⟨rfl,rfl⟩;refine⟨I,?_⟩;refine pB (λ_=>Zh O) (λhj=>?_) (λhj=>?_)
  ·refine p Qy<|ps<|ps<|ps<|ps<|ps<|ps<|ps<|p (YI O)<|pe ?_;exact⟨(),⟨OR Value.bool (by rw[OV (J7 hj)];rfl),Z⟩,I⟩
  refine p Qy<|pq (λ_ E=>Qk (S.I E) O O)<|p (YC O)<|p (QH O)<|pq (λ_ E=>Qk ((h.blk.I T).I E) O O) <|
   pq (λ_ E=>Qk (hh.I E) O O)<|pk<|xg<|(ZE (w:={ G with drawn:=G.drawn+1 }) ((h.u.I T).I I) v).Y ?_
  rintro _ w4 ⟨rfl,rfl⟩;refine⟨I,?_⟩;refine p (λ_=>Zh O)<|p (YI O)<|pe ?_;exact⟨(),⟨OR Value.bool (by rw[OT (Jd hj),Ns]),Z⟩,I⟩
 rintro _ g w3 hk;have U:=T.D hk;have hct:ctd V.a V.o V.un s v=((decide (v∈V.o) && decide (v∈V.un)) && (psb V.a v (vcl V.a V.o V.un [s] false) && !psb V.a v (vcl V.a V.o V.un [s] true))):=(Bool.and_assoc _ _ _).symm;refine Q9 rfl (λhl=>?_) (λhl=>?_)
 ·refine Qc<|Qb<|Qj ⟨[.bool false],La,OR Value.bool ?_,U⟩;rw[hct,Qor hl];rfl
 rw[Qos hl,Ns]at hct;rw[hct];refine Qf<|Qc<|x (Zl (l:=[]) (l':=[.tmp 3,.tmp 5]))<|Qb ?_;have Y:=S.I hk;have hr:=hh.I hk;have h3:=h.I U;refine QV (α:=Unit) [(6,6),(22,36)] (λ_=>[(6,.bool (psb V.a v (vcl V.a V.o V.un [s] false) && !psb V.a v (vcl V.a V.o V.un [s] true)))]) (λ_ w'=>sW w w') oh ?_ ?_
 ·refine Qs<|Qa<|ZA Y O O<|Qa<|Qo<|Q5 [[sS s]] λhF w6 hs hG hw =>
   Qw<|(Kt (only:=false) (l:=[s]) (h3.I hs) (hw.arr od (n:=1) (cap:=1) (sz:=1) rfl og (Lp _)) hp od).Y ?_
  rintro v7 w7 ⟨hy,h2⟩;have ha:=hs.D hy;refine Qo<|xc (first:=[]) (capt:=[sP b3,sP b5]) O<|(Qax (h3.I ha) (Y.I ha) (hr.I ha) (Qh.ints h2 oa od) (λz J=>oo (hn.2 z J))).Y ?_;rintro r8 w8 ⟨he,h4⟩;have hf:=ha.D h4;refine Qac (psb V.a v (vcl V.a V.o V.un [s] false)) (λhm=>?_) (λhm=>?_)
  ·rw[hm]at he ⊢;subst he;refine Qa<|Qa<|ZA (Y.I hf) O O<|Qa<|Qo<|Q5 [[sS s]] λhH w9 ht hI S =>
    Qw<|(Kt (only:=true) (l:=[s]) ((h3.I hf).I ht) (S.arr od (n:=1) (cap:=1) (sz:=1) rfl og (Lp _)) hp od).Y ?_
   rintro hJ hK ⟨h5,h6⟩;have hg:=(hf.D ht).D h5;refine Qo<|xc (first:=[]) (capt:=[sP b3,sP b5]) O<|(Qax (h3.I hg) (Y.I hg) (hr.I hg) (Qh.ints h6 oa od) (λz J=>oo (ho.2 z J))).Y ?_;rintro _ hL ⟨rfl,h7⟩;refine x (Zh O)<|QA O<|Qb<|⟨(),La,U.D (hg.D h7)⟩
  rw[hm]at he ⊢;subst he;refine Qa<|Zy<|Zy<|J0<|QA O<|Qb<|⟨(),La,U.D hf⟩
 rintro _ g hM h8;exact Qj ⟨[_],La,O,h8⟩
abbrev Qdm:=Plc×OY×OY
abbrev pcC (q:Qdm):LV:=[sS q.1.1,q.2.1,q.2.2]
abbrev pcD (z:Plc):Dq:=([z.1],z.2.1,z.2.2)
abbrev pcF (p:Qdm):Dq:=pcD p.1
abbrev pcK (p:Qdm):ByteArray:=koA [p.1.1] p.1.2.1
abbrev pcP (p:Qdm):List (OY×LI):=[(p.2.1,p.1.2.1)]
abbrev pcN (p:Qdm):List (OY×LI):=[(p.2.2,p.1.2.2)]
abbrev PcI:=QI 239 3 pcC Xj pcK pcP pcN
theorem QdM (l:List Plc)(s:Int)(t:LI):QaP l s t=Kj (l.map pcD) [s] t:=by
 unfold QaP Kj;rw[List.any_map];congr 1;funext z;exact decide_eq_decide.2 ⟨λh=>⟨by show[z.1]=_;rw[h.1],h.2⟩,λh=>⟨(List.cons.inj h.1).1,h.2⟩⟩
theorem Ss.one (E:0<=s)(G:s<(n:Int)):Ss n [s]:=⟨Nw _ _,λx hx=>by rw[Lb.1 hx];exact⟨E,G⟩⟩
theorem Qg5 {f:Nat}{l:List Plc}(h:l.length<=i):obL a o un f i l=none:=by
 cases f with
 | zero=>rfl
 | succ f=>rw[obL,Mn h]
theorem Qg4 {f:Nat}{l:List Plc}{z:Plc}{t:LI}(h:l[i]?=some z)(E:rft a o un z.2.1 z.1=some t):obL a o un (f+1) i l=some (z.2.2,t):=by
 rw[obL,h];simp only[E]
theorem Qg6 {f:Nat}{l:List Plc}{z:Plc}(h:l[i]?=some z)(E:rft a o un z.2.1 z.1=none):obL a o un (f+1) i l=obL a o un f (i+1) ((QS a.ed z.1).foldl (obE a o un z) l):=by
 rw[obL,h];simp only[E]
def Qj9 (N:Nat)(W:LI)(e s:Int)(ve:OY)(i:Nat)(v:OY)(w:OX):Prop :=
 if i=6 then Qh 3 N w v W else
 if i=9 then ∃b,v=sL b 1 1/\N<=b/\QK ↑w b 3 [sS e]else
 if i=10 then Qh 3 N w v (W++[e])else
 if i=11 then ∃vw,v=.agg #[sS s,ve,vw]/\Qh 3 N w vw (W++[e])else
 ∃b,v=sP b/\N<=b/\QK ↑w b 239 [sS 0,ZR,ZR]
theorem Qe8 {W:LI}{e:Int}(i:Nat)(v:OY)(own:LN)(w w':OX)(h:Qj9 N W e s ve i v w)(G:O1 own w w')(hb:∀b∈ow v,b∉own)(J:i∈[11]->own=[]):Qj9 N W e s ve i v w':=by
 have k:∀{l:LI},Qh 3 N w v l->Qh 3 N w' v l:=λS=>Qg S G λb T=>hb b (qW T);unfold Qj9 at *;by_cases e6:i=6
 ·rw[OQ e6]at *;exact k h
 rw[OP e6]at *;by_cases e9:i=9
 ·rw[OQ e9]at *;obtain⟨b,rfl,E,I⟩:=h;exact⟨b,rfl,E,I.J G (hb b Lo)⟩
 rw[OP e9]at *;by_cases e10:i=10
 ·rw[OQ e10]at *;exact k h
 rw[OP e10]at *;by_cases e11:i=11
 ·rw[OQ e11]at *;obtain⟨vw,rfl,E⟩:=h;have:=J (by rw[e11];exact Lo);subst this;exact⟨vw,O,Qm E G⟩
 rw[OP e11]at *;obtain⟨b,rfl,E,I⟩:=h;exact⟨b,O,E,I.J G (hb b Lo)⟩
theorem Qg1 {o:Option α}(h:¬o.isSome=true):o=none:=by cases o with|none=>rfl|some x=>exact OS rfl h
theorem Qg0 {o:Option α}(h:o.isSome=true):∃x,o=some x:=by cases o with|none=>cases h|some x=>exact⟨x,rfl⟩
theorem Qay {V:je}(h:jf ↑w V)(h9:V.a.st<=9)(ka:V.a.ed.length<=1000):
  QT sV 57 [.pointer (some ⟨V.b,0,none⟩)] w λr w'=>sW w w'/\∃vw vo,r=.tuple #[vw,vo,.bool (obs V.a V.o V.un).isNone]/\Yj ↑w ↑w' vw ((obs V.a V.o V.un).elim [] (·.1))/\Yj ↑w ↑w' vo ((obs V.a V.o V.un).elim [] (·.2)):=by
 have kb:=h.ok;have hst0:=kb.st0;obtain⟨n,hn⟩:∃n:Nat,V.a.st.toNat=n:=⟨_,O⟩;have m9:n<=9:=oa
 have hna:V.a.st=(n:Int):=oa
 have hp18:=QlI m9;have pc:=kb.ed;obtain⟨rv,kc,ke⟩:=h.r;rw[hn]at kc ke;have hg:obs V.a V.o V.un=if V.a.st=0 then none else obL V.a V.o V.un (2 ^ (n+n)+1) 0 [(0,vcl V.a V.o V.un [0] false,[])]:=by unfold obs;rw[hn,zp]
 refine Zf (obs V.a V.o V.un) λR hR=>?_;rw[hR]at hg ⊢;refine Zn func57 ?_;refine Qc<|x Qd<|x Qd<|Qb<|Qe<|Ql<|Z0 O<|Q7 O<|Qr O h.blk O O<|x (Q6 O O)<|xe<|Za rfl (λga=>?_) (λga=>?_)
 ·have gb:V.a.st=0:=ga;rw[OQ gb]at hg;rw[hg];refine Qc<|x Qd<|x Qd<|Qb<|Qj ⟨[ZR,ZR,.bool true],ox,O1.Z _ _,ZR,ZR,O,Yj.nil _ _,Yj.nil _ _⟩
 have gb:¬V.a.st=0:=ga;rw[OP gb]at hg;have hn0:0<n:=oa
 refine Qf<|Qc ?_;have hy:=jn V.a V.o V.un [0] false;rw[hn]at hy;have pd:=hy.len;refine Qa<|Qo<|Q5 [[sS 0]] λb22 w1 kf hb22 pf=>Qw<|(Kt (only:=false) (l:=[0]) (h.I kf) (pf.arr od (n:=1) (cap:=1) (sz:=1) rfl og (OB _)) (λz hz=>by rw[List.mem_singleton.1 hz];omega) od).Y ?_;rintro Y w2 ⟨pg,kg⟩;refine Zf (vcl V.a V.o V.un [0] false) λe0 ph=>?_;rw[ph]at kg hy pd hg;have gc:Qt [] ↑w2 Y e0:=Qh.ints kg oa od;refine x (QB ⟨gc.cells,Z⟩)<|Qo<|Q5 [[sS 0,Y,ZR]] λhK w3 hM pj ge=>Qb ?_;have kh:=kf.D pg;have pn:=kh.D hM;refine Qc<|Qo<|ZU Xj λbm w4 ki kj kk=>Qo<|Q5 [[sS 0]] λpo w5 kn hb27 pp=>?_;have ko:=ki.D kn;have pt:Zs [] ↑w5 (sL hK 1 1) 1 3 [sS 0,Y,ZR]:=(ge.I ko).arr od (n:=1) (cap:=1) (sz:=3) rfl og (Lp _);have kp:=(gc.I hM).I ko;refine Qa<|O4 (g:=λ_:Nat=>[sS 0,Y,ZR]) (es:=[0]) (i:=0) (λ_=>O) pt O O og λa29 pu=>x (ZN O)<|x (Qq (u:=Y) (pu.fld 1 _ O) O)<|Qo<|Yf (us:=[[sL po 1 1],[Y]]) O O og od ⟨rfl,rfl,kp.cells,rfl,Z⟩ λb32 w6 gg hb32 pw=>?_;have hN:∀{l:LI},Ss n l->∀z∈l,0<=z/\z<(100:Int):=λhl z hz=>oo (hl.2 z hz)
 have kq:Ss n [(0:Int)]:=Ss.one (Mt _) oa;refine Qw<|(VK (m:=100) (pw.arr od (n:=2) (cap:=2) (sz:=1) rfl og (OB _)) (show Qt [] ↑w6 _ [0] from(pp.I gg).arr od (n:=1) (cap:=1) (sz:=1) rfl og (Lp _)) (kp.I gg) (.inl (Mt _)) (hN kq) (hN hy) od oa).Y ?_;rintro _ w7 ⟨rfl,pz⟩;have kr:=(kn.D gg).D pz;refine Qo<|jJ (k:=koA [0] e0) (Xs.zero (kk.I kr)) O O O λw8 kt p0=>Qa<|Qb ?_;have hz02:=kh.size;have hlm:=kk.lt;have hl25:=ge.lt;have ku:=ki.D kr;have kv:sW w3 w8:=ku.O kt kj;have p4:PcI bm w (sL hK 1 1) [((0,e0,[]),Y,ZR)] w8:=by
  have kw:hK≠bm:=oa
  refine⟨pn.D kv,((ge.I ku).J kt (by simp only[oF];exact kw)).own (n:=1) (sz:=3) O oa oa,λp hp=>?_,p0,λG=>kw (Lb.1 G).symm,oa⟩;rw[Lb.1 hp];refine⟨⟨(gc.up λb hb=>.inr ?_).I (hM.D kv),Z⟩,λ_ _=>⟨Zs.nil _ _ _,Z⟩⟩;rcases Ll.1 hb with rfl|hb
  ·exact Lx hM.size kj
  rw[Lb.1 hb];exact pj
 refine Qe<|Qc<|Qb<|QW (α:=Nat×OY×List Qdm) [(2,5),(7,10),(12,14),(35,111)] (λz=>[(5,z.2.1),(7,sS z.1)]) (λz w'=>z.1<=z.2.2.length/\PcI bm w z.2.1 z.2.2 w'/\DqP n (z.2.2.map pcF)/\R=obL V.a V.o V.un (2 ^ (n+n)+1 - z.1) z.1 (z.2.2.map Prod.fst)) (λz=>2 ^ (n+n)+1 - z.1) (0,sL hK 1 1,[((0,e0,[]),Y,ZR)]) ov ⟨Ln _,p4,DqP.one kq hy,hg⟩ ?_;rintro⟨i,vl,q⟩ g w9 ⟨hi,hh,h0,S⟩;simp only[]at hi hh h0 S;have hql:q.length<=2 ^ (n+n):=by have:=h0.le;rwa [Lj]at this
 have kx:Zs [] ↑w9 vl q.length 3 (q.flatMap pcC):=QN hh.o oa od;refine Qe<|Ql<|Qa<|QG kx O<|ZX O O<|xe<|Zp rfl (λgh=>?_) (λgh=>?_)
 ·refine Qu ?_;have p5:q.length<=i:=by have gi:¬(i:Int)<(q.length:Int):=gh;omega
  rw[Qg5 (by rw[Lj];exact p5)]at S;rw[S];refine Qc<|x Qd<|x Qd<|Qb<|Qj ⟨[ZR,ZR,.bool true],ox,hh.st,ZR,ZR,O,Yj.nil _ _,Yj.nil _ _⟩
 have h2:i<q.length:=by have gi:(i:Int)<(q.length:Int):=gh;omega
 have p6:2 ^ (n+n)+1 - i=(2 ^ (n+n)+1 - (i+1))+1:=oa
 have h3:=Lk h2;have gj:(q.map Prod.fst)[i]?=some (q[i]'h2).1:=by rw[Mq,LD h2];rfl
 refine Zf (q[i]'h2) λd hp=>?_;rw[hp]at h3 gj;rw[p6]at S;obtain⟨⟨kz,_⟩,k0⟩:=hh.e d h3;have p7:=(k0 [] (λ_ hb=>by cases hb)).1;have k4:=h0.s (pcF d) (LG h3);have k5:=h0.w (pcF d) (LG h3);rw[Lj]at k5;have k6:=k4.1.2 d.1.1 Lo;have hO:Ss n d.1.2.1:=k4.2;have hl2:=hO.len;have hP:∀{v:OY} {l:LI} {L:LN} {H:xw},Qt L H v l->Qt [] H v l:=λhv=>hv.up λb hb=>by cases hb
 refine Qf<|Qe<|Qn<|Ql<|Qa<|O4 (g:=pcC) (i:=i) (λ_=>O) kx O O h2 λa43 k9=>?_;rw[hp]at k9;refine x (QE (us:=pcC d) k9 O O)<|QP [sS 0,ZR,ZR] λb8 w10 p8 p9 qf=>Q0 (pcC d) qf ⟨O,kz.one,p7.one,Z⟩ λql q0 gk=>xe ?_;have gl:sW w9 ql:=p8.O q0 p9;have gm:=hh.I gl;refine Qe<|Ql<|Qr O gk O O<|Qr O gk O O<|Qw<|(Qf0 (est:=d.1.2.1) (h.I gm.st) (hP (kz.I gl)) (by rw[hn];exact hO) k6.1 oa h9 ka).Y ?_;rintro _ gn ⟨go,vt,rfl,ma⟩;refine Qa<|QL O O<|QL O O<|x Qd<|Qb ?_;have h4:=gm.I go;have gq:=gk.I go;have q4:=gl.D go;refine Ql<|xe<|Q9 rfl (λgr=>?_) (λgr=>?_)
 ·refine Exists.elim (Qg0 gr) λt ht=>?_;rw[Qg4 gj ht]at S;rw[ht]at ma;rw[S];refine Qc<|Qr O gq O O<|Qa<|x Qd<|x Qd<|Qb<|Qj ⟨[d.2.2,vt,.bool false],ox,h4.st,d.2.2,vt,O,λL hL=>((k0 L hL).1.I q4).up λb hb=>.inl (Le.2 (.inl hb)),ma.Y gm.st.size⟩
 rw[Qg6 gj (Qg1 λh=>MC (gr.symm.D h))]at S;refine Qf ?_;have gs:=h.I h4.st;obtain⟨s,J⟩:∃s,d.1.1=s:=⟨_,O⟩;rw[J]at k6 S;have mc:s=(s.toNat:Int):=oa
 have mf:s.toNat<n:=oa
 have hE:=ke s.toNat mf;rw[<-mc]at hE;have hol:=Z8 V.a.ed s;have q5:s.toNat<(oK n).length:=by rw[L4];exact mf
 have j1:(sS d.1.1)=sS (s.toNat:Int):=by rw[J];exact OR _ mc
 refine Qe<|ZJ [] (Y4 0 10 [])<|p Qy<|p (YC O)<|p (QH O)<|pq (λ_ E=>Qk (gs.blk.I E) O O)<|p (QH O)<|pq (λ_ E=>Qk (gq.I E) O O) <|
  Lg.pig (g:=λj:Nat=>[rv j]) (i:=s.toNat) O (λ_=>O) (kc.I h4.st) O (show Go.Lg.ev _ _=_ from j1) q5 λa64 mg=>?_
 rw[MB]at mg;refine pq (λ_ E=>Qq (u:=rv s.toNat) (mg.I E) O)<|p (λ_=>YH (hE.I h4.st) O)<|p Qy<|pe ?_;have mh:sW gn { gn with drawn:=gn.drawn+1 }:=O1.C _ _
 have j2:b8∉bm::ob vl:=λG=>oo (hh.lt _ G)
 refine QW (α:=Nat×OY×List Qdm) [(5,5),(12,14),(67,111)] (λz=>[(5,z.2.1),(67,sS z.1)]) (λz w'=>z.1<=(QS V.a.ed s).length/\PcI bm w z.2.1 z.2.2 w'/\DqP n (z.2.2.map pcF)/\d∈z.2.2/\q.length<=z.2.2.length/\QK ↑w' b8 239 (pcC d)/\b8∉bm::ob z.2.1/\((QS V.a.ed s).drop z.1).foldl (obE V.a V.o V.un d.1) (z.2.2.map Prod.fst)=(QS V.a.ed s).foldl (obE V.a V.o V.un d.1) (q.map Prod.fst)) (λz=>(QS V.a.ed s).length - z.1) (0,vl,q) ov
  ⟨Ln _,h4.I mh,h0,h3,Lp _,gq.I mh,j2,O⟩ ?_
 rintro⟨j,vj,qj⟩ g j3 ⟨hj,hQ,hk,hS,mj,hT,h5,T⟩;simp only[]at hj hQ hk hS mj h5 T;have hqjl:qj.length<=2 ^ (n+n):=by have:=hk.le;rwa [Lj]at this
 refine Zi rfl O (λgt=>?_) (λgt=>?_)
 ·refine Qu ?_;have j4:(QS V.a.ed s).length<=j:=by have gi:¬(j:Int)<((QS V.a.ed s).length:Int):=gt;omega
  rw[Ls j4]at T;have za:qj.map Prod.fst=(QS V.a.ed s).foldl (obE V.a V.o V.un d.1) (q.map Prod.fst):=T;rw[<-za]at S;refine Qs<|Qa<|QC O O<|Qb<|⟨(i+1,vj,qj),by show 2 ^ (n+n)+1 - (i+1)<2 ^ (n+n)+1 - i;omega,ov,by show i+1<=qj.length;omega,hQ,hk,S⟩
 have hq:j<(QS V.a.ed s).length:=by have gi:(j:Int)<((QS V.a.ed s).length:Int):=gt;omega
 have z2:=ZC (Lk hq);have mo:=pc _ z2.1;rw[QX hq,LO]at T;refine Zf ((QS V.a.ed s)[j]'hq) λe he=>?_;rw[he]at mo T;refine Qf<|Qe<|Qn<|Qc<|xie (hE.I hQ.st) O O hq λa69 mq=>?_;rw[he]at mq;refine x (QE mq O O)<|QP [sS 0,sS 0,sS 0] λb12 w14 z3 z4 z5=>Q0 (Qp e) z5 ox λU hs15 gu=>xe ?_;have gv:sW j3 U:=z3.O hs15 z4;have ha:=hQ.I gv;have gx:=hT.I gv;obtain⟨⟨gy,_⟩,he15N⟩:=ha.e d hS;have he15W:=(he15N [] (λ_ hb=>by cases hb)).1;have ms:(d.1.2.2++[e.2.1]).length<=qj.length+1:=by rw[Lc,Lt];have:d.1.2.2.length<=q.length:=k5;omega
 refine Qe<|zR (α:=OY×Nat) (sW U) (sW U) ↑U [oz 0,oz 1,oz 2,oz 3,oz 4,oz 5,oz 7,oz 8] (λi=>if i=10 then[6,9]else if i=11 then[10]else[]) (λi=>if i=10 then[6]else[]) [6,9,10,11,12] [11,12] [11] [oA 13] [(77,77),(80,82),(13,13)] (Qj9 ↑U d.1.2.2 e.2.1 e.2.2 d.2.1)
  (λz=>[(82,.agg #[sS e.2.2,d.2.1,z.1]),(13,.pointer (some ⟨z.2,0,none⟩))]) (λz w'=>Qh 3 ↑U w' z.1 (d.1.2.2++[e.2.1])/\↑U<=z.2/\QK ↑w' z.2 239 [sS 0,ZR,ZR])
  mixed oh oc (O1.C _ _) (λ_ h=>h) (λ_ _ _ _ _ E J hb _=>E.S J λb hb'=>.inr (hb b hb')) (λ_ E=>E.size) (λi _=>Qe8 i) ?_ ?_
 ·rintro g w' ⟨⟨I,e16,h1⟩,⟨b,e17,hb,hB⟩,_⟩ _ _;exact⟨(I,b),⟨e16,e17,Z⟩,h1,hb,hB⟩
 refine p (QH O)<|pq (λ_ E=>Qk (gu.I E) O O)<|p (QH O)<|pq (λ_ E=>Qk (gx.I E) O O)<|p (QH O)<|pq (λ_ E=>Qk (gx.I E) O O) <|
  p (QH rfl)<|pq (λ_ E=>Qk (gu.I E) O O)<|pe ⟨⟨?_,?_,?_,?_,?_,Z⟩,?_⟩
 ·rintro g w' E _ _;exact xg<|(ZT ((hP he15W).I E)).Y λr gz ⟨J,ho⟩=>⟨J,Q8 ho E.size,λb hb=>⟨.inl (XI ho b hb).1,(XI ho b hb).2⟩⟩
 ·rintro g w' E _ _;exact Q5 [[sS e.2.1]] λb gz J hb hB=>⟨J,⟨b,O,Lx E.size hb,hB⟩,λc h6=>by rw[Lb.1 (show c∈[b] from h6)];exact⟨.inl hb,hB.lt⟩⟩
 ·rintro g w' E ⟨gs,⟨b,e14,hb14,hB14⟩,_⟩ _;rw[Lc,Lt]at ms;refine Q2 (m:=1) (news:=[sS e.2.1]) (L:=[]) (show Qh _ _ _ _ _ from gs) O e14 O (hB14.at od) om oa E.size λr gz ho J hn=>⟨J.Y λb hb=>Mb.2 ⟨6,Lo,qW hb⟩,Qh.snoc ho,λb hb=>⟨?_,(XI ho b hb).2⟩⟩;exact(hn b (QcC ho hb)).symm.imp id λh=>Mb.2 ⟨6,Lo,qW h⟩
 ·rintro g w' E ⟨mt,_⟩ _;refine xv (QB ⟨O,gy.cells,xH (show Qh _ _ _ _ _ from mt),Z⟩) ?_;exact⟨O1.Z _ _,⟨_,O,mt⟩,λc h6=>by cases h6⟩
 ·rintro g w' E _ _;exact YK (us:=[sS 0,ZR,ZR]) O λb gz J hb hB=>⟨J,⟨b,O,Lx E.size hb,hB⟩,λc h6=>by rw[Lb.1 (show c∈[b] from h6)];exact⟨.inl hb,hB.lt⟩⟩
 rintro⟨I,hU⟩ g w16 mu ⟨h7,hV,hW⟩;simp only[]at h7 hV hW;refine pk<|Us [sS e.2.2,d.2.1,I] hW ⟨O,gy.one,Qz h7,Z⟩ λh8 g0 g2=>⟨mu.O g0 hV,pe ?_⟩;have hA:sW U h8:=mu.O g0 hV;have mv:Qh 3 ↑U h8 I (d.1.2.2++[e.2.1]):=Qg h7 g0 λb hb G=>Vg h7 hW og (Lb.1 G ▸ hb);have hC:=ha.I hA;have hW7:Qt (bm::ob vj) ↑h8 I (d.1.2.2++[e.2.1]):=Qh.ints mv oa ha.lt;have mw:Qt (bm::ob vj) ↑h8 d.2.1 d.1.2.1:=gy.I hA;have hB817:=gx.I hA;have my:=gu.I hA;have h13b:∀b∈bm::ob vj,b≠hU:=λb hb=>oo (ha.lt b hb)
 have h13w:hU∉ob I:=Vg h7 hW og;have hr:(obN V.a V.o V.un d.1 e).2.1=if e.2.1∈V.o then vnx V.a V.o V.un d.1.2.1 e.2.1 else d.1.2.1:=rfl
 have hD:Ss n (obN V.a V.o V.un d.1 e).2.1:=by
  rw[hr];split
  ·rw[<-hn];exact Qf5 _ _ _ _ _
  exact hO
 have mz:obE V.a V.o V.un d.1 (qj.map Prod.fst) e=if QaP (qj.map Prod.fst) e.2.2 (obN V.a V.o V.un d.1 e).2.1=true then qj.map Prod.fst else qj.map Prod.fst++[(e.2.2,(obN V.a V.o V.un d.1 e).2.1,d.1.2.2++[e.2.1])]:=rfl
 refine Zf (obN V.a V.o V.un d.1 e).2.1 λest hest=>?_;rw[hest]at hr hD mz;rw[mz]at T;have hesl:=hD.len;have hz17:=hC.st.size;refine QV (α:=OY) [(83,93)] (λ_=>[]) (λz w'=>O1 [hU] h8 w'/\QK ↑w' hU 239 [sS e.2.2,z,I]/\Qt (bm::ob vj) ↑w' z est) oh ?_ ?_
 ·refine Ql<|Qr O my O O<|Qw<|(qu (h.I hC.st) e.2.1).Y ?_;rintro _ hX ⟨rfl,rfl⟩;refine xe<|Zp O (λg3=>?_) (λg3=>?_)
  ·rw[OP g3]at hr;refine Qf ?_;exact⟨d.2.1,Z,O1.Z _ _,g2,by rw[hr];exact mw⟩
  rw[OQ g3]at hr;refine Qs<|Qa<|Qr O hB817 O O<|Qr O my O O<|Qw<|(Ud (est:=d.1.2.1) (h.I hC.st) (hP mw) (λz hz=>oo (hO.2 z hz)) oa ka e.2.1).Y ?_;rintro g4 w19 ⟨g5,hY⟩;rw[<-hr]at hY;have hA19:Qt (bm::ob vj) ↑w19 g4 est:=Qh.ints hY oa hC.lt;refine Q7 O<|Qo<|Qv (u:=g4) (g2.I g5) O O (LX O) hA19.one λw20 hF hB1320=>xe ?_;exact⟨g4,Z,(g5.Y λb hb=>by cases hb).Q hF,hB1320,Qh.ints (Qg hY hF λb hb G=>Vg hY (g2.I g5) og (Lb.1 G ▸ hb)) oa hC.lt⟩
 rintro hw g hX ⟨m0,g6,hZ⟩;have m1:sW U hX:=hA.O m0 hV;have hI18:PcI bm w vj qj hX:=ha.I m1;have m2:=Qg mv m0 λb hb G=>h13w (Lb.1 G ▸ hb);have hW18:Qt (bm::ob vj) ↑hX I (d.1.2.2++[e.2.1]):=Qh.ints m2 oa ha.lt;have g7:Ss n [e.2.2]:=Ss.one mo.2.2.2.1 oa;refine Qc<|Qr O g6 O O<|Qo<|Q5 [[sS e.2.2]] λb96 w20 hF hb96 hB96 =>
  Qr rfl (g6.I hF) O O<|Qo<|Yf (us:=[[sL b96 1 1],[hw]]) O O og od ⟨rfl,rfl,hZ.cells,rfl,Z⟩ λb99 w21 m3 hb99 hB99=>?_
 have m4:=hF.D m3;refine Qw<|(VK (m:=100) (hB99.arr od (n:=2) (cap:=2) (sz:=1) rfl og (OB _)) (show Qt [] ↑w21 _ [e.2.2] from(hB96.I m3).arr od (n:=1) (cap:=1) (sz:=1) rfl og (Lp _)) (hP (hZ.I m4)) (.inl (Mt _)) (hN g7) (hN hD) od oa).Y ?_;rintro _ w22 ⟨rfl,hs22⟩;refine Qb ?_;have hG:=m4.D hs22;have hf:=hI18.I hG;have g8:=(gv.D m1).D hG;refine Ql<|Qa<|x (jy (k:=koA [e.2.2] est) hf.m O O)<|x (Zh O)<|xe ?_;have m5:∀{i:Decidable (koA [e.2.2] est∈qj.map pcK)},(!@decide _ i)=!QaP (qj.map Prod.fst) e.2.2 est:=by
  intro i;rw[QdM,Mm];exact QdL (f:=pcF) hk g7 hD
 refine Q9 rfl (λg9=>?_) (λg9=>?_)
 ·have hH:=Qor (m5.symm.D g9);rw[OP (by rw[hH];exact MC)]at T;refine Ql<|Qa<|Qo<|qZ (k:=koA [e.2.2] est) hf.m O O O λw23 hI hM23=>xe ?_;have m6:∀b∈[bm],b∈bm::ob vj:=λb hb=>by rw[Lb.1 hb];exact Lo
  have hB1323:=(g6.I hG).J hI λG=>h13b _ (m6 _ G) O;have hz23:=hI.size;have hz22:=hf.st.size;refine Qs<|Qa<|QY hB1323 O O<|Qo<|Q5 [[sS e.2.2,hw,I]] λb109 w24 hJ hb109 hB109 =>
   Qo<|Q2 (m:=1) (news:=[sS e.2.2,hw,I]) (L:=[]) (Qm (Qg hf.o hI λb hb G=>hf.nm (Lb.1 G ▸ hb)) hJ) O O O (hB109.at od) (λu hu=>ZH.all (us:=[sS e.2.2,hw,I]) ⟨rfl,hZ.one,hW18.one,Z⟩ u hu) oa (oo hJ.size) λvr w25 ho25 m7 m8=>Qb<|Qs<|QC O O<|Qa<|xe ?_
  have hz24:=hJ.size;have hz13:=g8.size;have h8w:=hT.lt;have hnew:=hf.add (p:=((e.2.2,est,d.1.2.2++[e.2.1]),hw,I)) hI hM23 hJ m7 ho25 m8 ⟨⟨hZ.I hG,Z⟩,λL hL=>⟨(Qh.ints m2 oa λb hb=>(Le.1 hb).elim (λh=>LP (hL b h) ha.st.size) (ha.lt b)).I hG,Z⟩⟩;refine⟨(j+1,vr,qj++[((e.2.2,est,d.1.2.2++[e.2.1]),hw,I)]),by show(QS V.a.ed s).length - (j+1)<(QS V.a.ed s).length - j;omega,ov,hq,hnew,?_,Le.2 (.inl hS),by rw[Lc];omega,?_,λG=>?_,?_⟩
  ·show DqP n (OO _ (qj++[_]));rw[Lv];refine hk.add g7 hD (by rw[Lj];exact ms) ?_;rw[QdM,Mm]at hH;exact hH
  ·exact(((hT.I g8).J hI λG=>h5 (m6 _ G)).I hJ).J m7 λG=>h5 (Lm _ G)
  ·rcases jC m8 _ G with h1|h1
   ·exact h5 h1
   omega
  show((QS V.a.ed s).drop (j+1)).foldl (obE V.a V.o V.un d.1) (OO _ (qj++[_]))=_;rw[Lv];exact T
 have hH:=Qos (m5.symm.D g9);rw[OQ hH]at T;refine Qf<|Qs<|QC O O<|Qa<|xe ?_;exact⟨(j+1,vj,qj),by show(QS V.a.ed s).length - (j+1)<(QS V.a.ed s).length - j;omega,ov,hq,hf,hk,hS,mj,hT.I g8,h5,T⟩
abbrev CqV:=Cq×OY
abbrev cqC (q:CqV):LV:=[sS q.1.1,ZR,q.2]
abbrev cqK (p:CqV):Int:=p.1.1
abbrev cqN (p:CqV):List (OY×LI):=[(p.2,p.1.2)]
abbrev CqI:=QI 239 3 cqC Xm cqK (λ_=>[]) cqN
structure CqO (n:Nat)(l:List Cq):Prop where
 s:∀d∈l,0<=d.1/\d.1<(n:Int)
 w:∀d∈l,d.2.length<=l.length
 d:(l.map (·.1)).Nodup
theorem CqO.le {l:List Cq}(h:CqO n l):l.length<=n:=by
 have:=xD n _ h.d λx hx=>by
  obtain⟨d,hd,rfl⟩:=Lz.1 hx;exact h.s d hd
 rwa [Lj]at this
theorem CqO.add {l:List Cq}(h:CqO n l){w:LI}(E:0<=s)(G:s<(n:Int))(I:w.length<=l.length+1)(J:s∉l.map (·.1)):CqO n (l++[(s,w)]):=by
 refine⟨λd hd=>?_,λd hd=>?_,?_⟩
 ·rcases Le.1 hd with hd|hd
  ·exact h.s d hd
  rw[Lb.1 hd];exact⟨E,G⟩
 ·rw[Lc,Lt];rcases Le.1 hd with hd|hd
  ·have:=h.w d hd;omega
  rw[Lb.1 hd];exact I
 rw[Lv,Mr];exact⟨h.d,od,λa S b hb e=>J ((show b=s by simpa using hb) ▸ e ▸ S)⟩
theorem Qiv {f:Nat}{l:List Cq}(h:l.length<=i):csL a o un f i l=none:=by
 cases f with
 | zero=>rfl
 | succ f=>rw[csL,Mn h]
theorem Qiu {f:Nat}{l:List Cq}{z:Cq}{v:Int}(h:l[i]?=some z)(E:a.al.find? (ctd a o un z.1)=some v):csL a o un (f+1) i l=some (z.2,v):=by
 rw[csL,h];simp only[E]
theorem Qiw {f:Nat}{l:List Cq}{z:Cq}(h:l[i]?=some z)(E:a.al.find? (ctd a o un z.1)=none):csL a o un (f+1) i l=csL a o un f (i+1) ((QS a.ed z.1).foldl (csE z) l):=by
 rw[csL,h];simp only[E]
theorem QkU {p:Int->Bool}{k:Nat}(h:k<l.length):(l.drop k).find? p=if p (l[k]'h)=true then some (l[k]'h)else(l.drop (k+1)).find? p:=by
 rw[QX h,List.find?_cons];cases E:p (l[k]'h)with
 | true=>rw[OQ rfl]
 | false=>rw[OP MC]
def cnP (N:Nat)(W:LI)(e:Int)(i:Nat)(v:OY)(w:OX):Prop :=
 if i=5 then Qh 3 N w v W else
 ∃b,v=sL b 1 1/\N<=b/\QK ↑w b 3 [sS e]
theorem QiD {W:LI}{e:Int}(i:Nat)(v:OY)(w w':OX)(h:cnP N W e i v w)(E:sW w w'):cnP N W e i v w':=by
 unfold cnP at *;by_cases e5:i=5
 ·rw[OQ e5]at *;exact Qm h E
 rw[OP e5]at *;obtain⟨b,G,I,J⟩:=h;exact⟨b,G,I,J.I E⟩
theorem Qaz {V:je}(h:jf ↑w V)(h9:V.a.st<=9)(pc:V.a.ed.length<=1000):
  QT sV 58 [.pointer (some ⟨V.b,0,none⟩)] w λr w'=>sW w w'/\∃vw,r=.tuple #[vw,sS ((cns V.a V.o V.un).elim (-1) (·.2)),.bool (cns V.a V.o V.un).isNone]/\Yj ↑w ↑w' vw ((cns V.a V.o V.un).elim [] (·.1)):=by
 have hH:=h.ok;have pd:=hH.st0;have pf:=hH.al_le;obtain⟨n,hn⟩:∃n:Nat,V.a.st.toNat=n:=⟨_,O⟩;have pg:n<=9:=oa
 have ph:V.a.st=(n:Int):=oa
 have ki:=hH.ed;obtain⟨rv,gc,ge⟩:=h.r;rw[hn]at gc ge;have hz:cns V.a V.o V.un=if V.a.st=0 then none else csL V.a V.o V.un (n+1) 0 [(0,[])]:=by unfold cns;rw[hn]
 refine Zf (cns V.a V.o V.un) λR hR=>?_;rw[hR]at hz ⊢;refine Zn func58 ?_;refine Qc<|x Qd<|x Qd<|Qb<|Qe<|Ql<|Z0 O<|Q7 O<|Qr O h.blk O O<|x (Q6 O O)<|xe<|Za rfl (λT=>?_) (λT=>?_)
 ·have hI:V.a.st=0:=T;rw[OQ hI]at hz;rw[hz];refine Qc<|x Qd<|x Qd<|Qb<|Qj ⟨[ZR,sS (-1),.bool true],ox,O1.Z _ _,ZR,O,Yj.nil _ _⟩
 have hI:¬V.a.st=0:=T;rw[OP hI]at hz;have pj:0<n:=oa
 refine Qf<|Qc<|x (QB Z)<|Qo<|Q5 [[sS 0,ZR,ZR]] λhJ w1 gg pn gh=>Qb<|Qc<|Qo<|ZU Xm λbm w2 gi po kj=>Qo<|jJ (k:=(0:Int)) (Xs.zero kj) O O O λw3 gj kk=>Qa<|Qb ?_;have pp:=gg.size;have kn:sW w w3:=(gg.D gi).O gj oa;have ko:CqI bm w (sL hJ 1 1) [((0,[]),ZR)] w3:=by
  have pt:=gh.lt;have gk:hJ≠bm:=oa
  refine⟨kn,((gh.I gi).J gj (by simp only[oF];exact gk)).own (n:=1) (sz:=3) O oa oa,λp hp=>?_,kk,λE=>gk (Lb.1 E).symm,oa⟩;rw[Lb.1 hp];exact⟨Z,λ_ _=>⟨Zs.nil _ _ _,Z⟩⟩
 have kp:CqO n [((0:Int),([]:LI))]:=⟨λd hd=>by rw[Lb.1 hd];exact⟨Mt _,by show(0:Int)<n;omega⟩,λd hd=>by rw[Lb.1 hd];exact Ln _,od⟩;refine Qe<|Qc<|Qb<|QW (α:=Nat×OY×List CqV) [(2,5),(7,8),(10,10),(12,12),(23,86)] (λz=>[(5,z.2.1),(7,sS z.1)]) (λz w'=>z.1<=z.2.2.length/\CqI bm w z.2.1 z.2.2 w'/\CqO n (z.2.2.map Prod.fst)/\R=csL V.a V.o V.un (n+1 - z.1) z.1 (z.2.2.map Prod.fst)) (λz=>n+1 - z.1) (0,sL hJ 1 1,[((0,[]),ZR)]) ov ⟨Ln _,ko,kp,hz⟩ ?_;rintro⟨i,vl,q⟩ g w4 ⟨hi,hq,h0,U⟩;simp only[]at hi hq h0 U;have pu:q.length<=n:=by have:=h0.le;rwa [Lj]at this
 have gl:Zs [] ↑w4 vl q.length 3 (q.flatMap cqC):=QN hq.o oa od;refine Qe<|Ql<|Qa<|QG gl O<|ZX O O<|xe<|Zp rfl (λhK=>?_) (λhK=>?_)
 ·refine Qu ?_;have kq:q.length<=i:=by have T:¬(i:Int)<(q.length:Int):=hK;omega
  rw[Qiv (by rw[Lj];exact kq)]at U;rw[U];refine Qc<|x Qd<|x Qd<|Qb<|Qj ⟨[ZR,sS (-1),.bool true],ox,hq.st,ZR,O,Yj.nil _ _⟩
 have h2:i<q.length:=by have T:(i:Int)<(q.length:Int):=hK;omega
 have kr:n+1 - i=(n+1 - (i+1))+1:=oa
 have h3:=Lk h2;have hM:(q.map Prod.fst)[i]?=some (q[i]'h2).1:=by rw[Mq,LD h2];rfl
 refine Zf (q[i]'h2) λd hp=>?_;rw[hp]at h3 hM;rw[kr]at U;have gm:=(hq.e d h3).2;have kt:=(gm [] (λ_ hb=>by cases hb)).1;have gn:=h0.s d.1 (LG h3);have hN:=h0.w d.1 (LG h3);rw[Lj]at hN;have ku:∀{v:OY} {l:LI} {L:LN} {H:xw},Qt L H v l->Qt [] H v l:=λhv=>hv.up λb hb=>by cases hb
 refine Qf<|Qe<|Qn<|Ql<|Qa<|O4 (g:=cqC) (i:=i) (λ_=>O) gl O O h2 λpw go=>?_;rw[hp]at go;refine x (QE (us:=cqC d) go O O)<|QP [sS 0,ZR,ZR] λb8 w5 kv kw kx=>Q0 (cqC d) kx ⟨O,O,kt.one,Z⟩ λw6 kz k0=>xe ?_;have gq:sW w4 w6:=kv.O kz kw;have hO:=hq.I gq;have gr:=(h.I hO.st).a.al;refine Qe<|Ql<|Z0 O<|Q7 O<|Qr O (h.blk.I hO.st) O O<|QG gr O<|Qa<|xe ?_;obtain⟨s,I⟩:∃s,d.1.1=s:=⟨_,O⟩;rw[I]at gn;have k4:(V.a.al.drop 0).find? (ctd V.a V.o V.un s)=V.a.al.find? (ctd V.a V.o V.un d.1.1):=by rw[I,OA]
 refine QW (α:=Nat) [(2,4),(10,10),(39,51)] (λz=>[(39,sS z)]) (λz w'=>z<=V.a.al.length/\sW w6 w'/\(V.a.al.drop z).find? (ctd V.a V.o V.un s)=V.a.al.find? (ctd V.a V.o V.un d.1.1)) (λz=>V.a.al.length - z) 0 La ⟨Ln _,O1.Z _ _,k4⟩ ?_;rintro k g w7 ⟨hk,h4,Y⟩;have hr:=hO.I h4;have h8:=k0.I h4;have k5:=gq.D h4;refine Zi rfl O (λhP=>?_) (λhP=>?_)
 ·refine Qu ?_;have k6:V.a.al.length<=k:=by have T:¬(k:Int)<(V.a.al.length:Int):=hP;omega
  rw[Ls k6]at Y;rw[Qiw hM Y.symm,I]at U;have gs:s=(s.toNat:Int):=oa
  have gt:s.toNat<n:=oa
  have hE:=ge s.toNat gt;rw[<-gs]at hE;have pz:=Z8 V.a.ed s;have k9:s.toNat<(oK n).length:=by rw[L4];exact gt
  have ma:(sS d.1.1)=sS (s.toNat:Int):=by rw[I];exact OR _ gs
  refine Qe<|ZJ [] (Y4 0 10 [])<|p Qy<|p (YC O)<|p (QH O)<|pq (λ_ G=>Qk ((h.blk.I hr.st).I G) O O)<|p (QH O)<|pq (λ_ G=>Qk (h8.I G) O O) <|
   Lg.pig (g:=λj:Nat=>[rv j]) (i:=s.toNat) O (λ_=>O) (gc.I hr.st) O (show Go.Lg.ev _ _=_ from ma) k9 λp0 gu=>?_
  rw[MB]at gu;refine pq (λ_ G=>Qq (u:=rv s.toNat) (gu.I G) O)<|p (λ_=>YH (hE.I hr.st) O)<|p Qy<|pe ?_;have gv:sW w7 { w7 with drawn:=w7.drawn+1 }:=O1.C _ _
  have mc:b8∉bm::ob vl:=λE=>oo (hq.lt _ E)
  refine QW (α:=Nat×OY×List CqV) [(5,5),(12,12),(61,86)] (λz=>[(5,z.2.1),(61,sS z.1)]) (λz w'=>z.1<=(QS V.a.ed s).length/\CqI bm w z.2.1 z.2.2 w'/\CqO n (z.2.2.map Prod.fst)/\d∈z.2.2/\q.length<=z.2.2.length/\QK ↑w' b8 239 (cqC d)/\b8∉bm::ob z.2.1/\((QS V.a.ed s).drop z.1).foldl (csE d.1) (z.2.2.map Prod.fst)=(QS V.a.ed s).foldl (csE d.1) (q.map Prod.fst)) (λz=>(QS V.a.ed s).length - z.1) (0,vl,q) ov
   ⟨Ln _,hr.I gv,h0,h3,Lp _,h8.I gv,mc,O⟩ ?_
  rintro⟨j,vj,qj⟩ g w8 ⟨hj,hg,h6,hA,gx,gy,ht,S⟩;simp only[]at hj hg h6 hA gx ht S;have p4:qj.length<=n:=by have:=h6.le;rwa [Lj]at this
  refine Zi O O (λhQ=>?_) (λhQ=>?_)
  ·refine Qu ?_;have mf:(QS V.a.ed s).length<=j:=by have T:¬(j:Int)<((QS V.a.ed s).length:Int):=hQ;omega
   rw[Ls mf]at S;have mg:qj.map Prod.fst=(QS V.a.ed s).foldl (csE d.1) (q.map Prod.fst):=S;rw[<-mg]at U;refine Qs<|Qa<|QC O O<|Qb<|⟨(i+1,vj,qj),by show n+1 - (i+1)<n+1 - i;omega,ov,by show i+1<=qj.length;omega,hg,h6,U⟩
  have hw:j<(QS V.a.ed s).length:=by have T:(j:Int)<((QS V.a.ed s).length:Int):=hQ;omega
  have mh:=ZC (Lk hw);have gz:=ki _ mh.1;rw[QX hw,LO]at S;refine Zf ((QS V.a.ed s)[j]'hw) λe he=>?_;rw[he]at gz S;refine Qf<|Qe<|Qn<|Qc<|xie (hE.I hg.st) O O hw λp5 g0=>?_;rw[he]at g0;refine x (QE g0 O O)<|QP [sS 0,sS 0,sS 0] λhS w9 mj g2 mo=>Q0 (Qp e) mo ox λmq ms hT=>xe ?_;have hU:sW w8 mq:=mj.O ms g2;have J:=hg.I hU;have g3:=gy.I hU;have g4:csE d.1 (qj.map Prod.fst) e=if e.2.2∈(qj.map Prod.fst).map Prod.fst then qj.map Prod.fst else qj.map Prod.fst++[(e.2.2,d.1.2++[e.2.1])]:=rfl
  have g5:(qj.map Prod.fst).map Prod.fst=qj.map cqK:=Mm;rw[g5]at g4;rw[g4]at S;refine Ql<|Qr O hT O O<|x (jy (k:=e.2.2) J.m O O)<|x (Zh O)<|xe<|Q9 O (λhV=>?_) (λhV=>?_)
  ·have hC:=J7 hV;rw[OP hC]at S;refine Ql<|Qr O hT O O<|Qo<|qZ (k:=e.2.2) J.m O O O λha hh mt=>xe ?_;have hW:∀b∈[bm],b∈bm::ob vj:=λb hb=>by rw[Lb.1 hb];exact Lo
   have mu:hS∉[bm]:=λE=>by have:=hg.lt bm Lo;rw[Lb.1 E]at g2;omega
   have g6:=hT.J hh mu;have g7:=g3.J hh λE=>ht (hW _ E);have mv:=((J.e d hA).2 [] (λ_ hb=>by cases hb)).1;have mw:Qt [] ↑ha d.2 d.1.2:=ku (mv.J hh hW);have p6:=J.st.size;have p7:=hh.size;have my:=Qg J.o hh λb hb E=>J.nm (Lb.1 E ▸ hb);refine QbY (α:=OY×Nat) (O1 (ob vj) ha) (sW ha) [oz 0,oz 1,oz 2,oz 3,oz 4,oz 6,oz 7] (λ_=>[]) [5,8] [oA 9,oz 10,oA 11,oA 12,oz 13] [(78,78),(81,81)] (cnP ↑ha d.1.2 e.2.1)
    (λz=>[(78,z.1),(81,.slice (some ⟨z.2,0,none⟩) 1 1)]) (λz w'=>Qh 3 ↑ha w' z.1 d.1.2/\z.2∉ob z.1/\QK ↑w' z.2 3 [sS e.2.1])
    mixed oh oc (O1.C _ _) (λ_ h=>h.any) (λ_ _ G I=>G.D I) QiD ?_ ?_
   ·rintro g w' ⟨h5,⟨b,e8,hb,hB⟩,_⟩ mz;refine⟨(_,b),⟨O,e8,Z⟩,h5,λE=>?_,hB⟩;have:=mz 5 od 8 od og b (qW E);rw[e8]at this;exact this Lo
   refine p Qy<|p (QH O)<|pq (λ_ G=>Qk (g6.J G ?_) O O)<|p (QH O)<|pq (λ_ G=>Qk (g7.J G λE=>ht (Lm _ E)) O O) <|
    p (QH rfl)<|pq (λ_ G=>Qk (g6.J G ?_) O O)<|pe ⟨⟨?_,?_,Z⟩,?_⟩
   ·exact λE=>oo (hg.lt hS (Lm _ E))
   ·exact λE=>oo (hg.lt hS (Lm _ E))
   ·rintro g w' G _;exact xg<|(ZT (mw.I G)).Y λr m0 ⟨I,ho⟩=>⟨I,Q8 ho G.size,XI ho⟩
   ·rintro g w' G _;exact Q5 [[sS e.2.1]] λb m0 I hb hB=>⟨I,⟨b,O,Lx G.size hb,hB⟩,λc m1=>by rw[Lb.1 (show c∈[b] from m1)];exact⟨hb,hB.lt⟩⟩
   rintro⟨vc,p8⟩ g m2 hX ⟨hY,m3,g8⟩;simp only[]at hY m3 g8;have g9:=Qi hY;have p9:d.1.2.length<=9:=by have:d.1.2.length<=q.length:=hN;omega
   refine pk<|Q2 (m:=1) (news:=[sS e.2.1]) (L:=[]) hY O O O (g8.at od) om oa hX.size λhl ka m4 kb qf=>⟨(hX.S kb λb hb=>.inr (g9 b hb).1).any,?_⟩;have kc:sW ha ka:=hX.S kb λb hb=>.inr (g9 b hb).1;have hZ:Qh 3 ↑ha ka hl (d.1.2++[e.2.1]):=Qh.snoc m4;refine p (λ_=>QB ⟨O,xH hZ,Z⟩)<|pk<|Q5 [[sS e.2.2,ZR,hl]] λql q0 ga q4 m5=>⟨(kc.D ga).any,?_⟩;have hf:=kc.D ga;refine pk<|Q2 (m:=1) (news:=[sS e.2.2,ZR,hl]) (L:=[]) (Qm my hf) O O O (m5.at od) (λu hu=>ZH.all (us:=[sS e.2.2,ZR,hl]) ⟨rfl,rfl,Qz hZ,Z⟩ u hu) oa (oo hf.size) λvr ke m6 hy hD=>⟨hf.any.Q hy,?_⟩;refine p ZK<|pe ?_;refine Qs<|QC O O<|Qa<|xe ?_;have q5:=hf.size;have j1:=hU.size;have j2:=gy.lt;have kf:=J.nm;have kg:∀b∈bm::ob vj,b<ha.heap.size:=λb hb=>oo (J.lt b hb)
   have m7:∀L:LN,(∀b∈L,b<↑w)->Qt (L++bm::ob vr) ↑ke hl (d.1.2++[e.2.1]):=λL hL=>Zs.grow ((Qh.ints hZ (by rw[Lc,Lt];omega) λb hb=>(Le.1 hb).elim (λh=>oo (hL b h)) (kg b)).I ga) hy (λb hb=>Le.2 (.inr (Lm _ hb))) (jB L hD);have m8:CqI bm w vr (qj++[((e.2.2,d.1.2++[e.2.1]),hl)]) ke:=by
    refine⟨((J.st.S hh λb hb=>.inr (by rw[Lb.1 hb];exact J.hb)).D hf).S hy λb hb=>.inr (Qi J.o b hb).1,?_,λp' h7=>?_,?_,λm9=>?_,J.hb⟩
    ·rw[LC,M0,Lc,Lt];exact m6
    ·rcases Le.1 h7 with h7|h7
     ·exact⟨Z,λL hL=>((((J.e p' h7).2 L hL).J hh λb hb=>Le.2 (.inr (hW b hb))).I hf).grow hy (λb hb=>Le.2 (.inr (Lm _ hb))) (jB L hD)⟩
     rw[Lb.1 h7];exact⟨Z,λL hL=>⟨m7 L hL,Z⟩⟩
    ·rw[Lv];exact(mt.I hf).J hy kf
    rcases hD _ m9 with h1|h1
    ·exact kf h1
    have:=kg bm Lo;omega
   refine⟨(j+1,vr,qj++[((e.2.2,d.1.2++[e.2.1]),hl)]),by show(QS V.a.ed s).length - (j+1)<(QS V.a.ed s).length - j;omega,ov,hw,m8,?_,Le.2 (.inl hA),by rw[Lc];omega,?_,λE=>?_,?_⟩
   ·show CqO n (OO _ (qj++[_]));rw[Lv];refine h6.add gz.2.2.2.1 oa (by rw[Lc,Lt,Lj];have:d.1.2.length<=q.length:=hN;omega) ?_;rw[g5];exact hC
   ·exact(g7.I hf).J hy λE=>ht (Lm _ E)
   ·rcases jC hD _ E with h1|h1
    ·exact ht h1
    omega
   show((QS V.a.ed s).drop (j+1)).foldl (csE d.1) (OO _ (qj++[_]))=_;rw[Lv];exact S
  have hC:=Jd hV;rw[OQ hC]at S;refine Qf<|Qs<|QC O O<|Qa<|xe ?_;exact⟨(j+1,vj,qj),by show(QS V.a.ed s).length - (j+1)<(QS V.a.ed s).length - j;omega,ov,hw,J,h6,hA,gx,g3,ht,S⟩
 have hF:k<V.a.al.length:=by have T:(k:Int)<(V.a.al.length:Int):=hP;omega
 rw[QkU hF]at Y;refine Qf<|Qe<|Qn<|Qc<|xii (i:=k) (gr.I h4) O O hF λj3 kh=>?_;refine Zf (V.a.al[k]'hF) λv hv=>?_;rw[hv]at kh Y;refine x (Qq kh O)<|Qb ?_;have hct:=Qf3 (v:=v) (h.I hr.st) gn.1 oa h9;rw[<-I]at hct;refine Ql<|Qr O h8 O O<|Qa<|Qw<|hct.Y ?_;rintro _ m2 ⟨rfl,hG⟩;refine xe ?_;rw[<-I]at Y;refine Q9 rfl (λgb=>?_) (λgb=>?_)
 ·rw[OQ gb]at Y;rw[Qiu hM Y.symm]at U;rw[U];refine Qc<|Qr O (h8.I hG) O O<|Qa<|x Qd<|x Qd<|Qb<|Qj ⟨[d.2,sS v,.bool false],ox,hr.st.D hG,d.2,O,λL hL=>((gm L hL).1.I (k5.D hG)).up λb hb=>.inl (Le.2 (.inl hb))⟩
 rw[OP (λh=>MC (gb.symm.D h)),I]at Y;refine Qf<|Qs<|QC O O<|Qa<|xe ?_;exact⟨k+1,by show V.a.al.length - (k+1)<V.a.al.length - k;omega,La,hF,h4.D hG,by rw[I];exact Y⟩
structure Z5 (l:LI):Prop where
 b:∀x∈l,0<=x/\x<32
 i:YN l
theorem Z5.ck (h:Z5 l):Jn 32 none l=0:=Qc4 h.b h.i
theorem Z5.nil:Z5 []:=⟨(λ_ h=>by cases h),List.Pairwise.nil⟩
structure yj (a:QF):Prop where
 ok:Zb a
 s9:a.st<=9
 e:a.ed.length<=1000
theorem KP (h:Zr [] ↑w va vm ve a)(I:Qt [] ↑w vo o)(U:Qt [] ↑w vu un)(E:yj a)(Y:Z5 o)(hu:Z5 un):
  QT sV 56 [.agg #[va,sS a.st,vm,ve],vo,vu] w λr w'=>sW w w'/\∃V:je,r=.tuple #[.pointer (some ⟨V.b,0,none⟩),sS 0]/\jf ↑w' V/\V.a=a/\V.o=o/\V.un=un:=by
 refine Zn func56 ?_;refine Qc<|Zd [va,sS a.st,vm,ve] λb3 w1 hc hB he=>x Qd<|Qb ?_;have hA:=YV (h.I hc);rw[(ZF a).2 E.ok]at hA;refine Qe<|Qc<|QY he O O<|Qw<|hA.Y ?_;rintro _ w2 ⟨rfl,hf⟩;refine Qb<|Ql<|ZI O O<|xe<|Zz rfl<|Qf ?_;have hq:=hc.D hf;refine Qe<|Ql<|Qa<|Qo<|Yf (us:=[[vo],[vu]]) O O og od ⟨I.cells,rfl,U.cells,rfl,Z⟩ λhr w3 hg hD hs=>?_;have hh:Zs [] ↑w3 (sL hr 2 2) 2 1 [vo,vu]:=hs.arr od (n:=2) (cap:=2) (sz:=1) rfl og (Lp _);have ht:=hq.D hg;refine QG hh O<|Qa<|xe<|QW (α:=Nat) [(6,7),(10,11),(24,33)] (λz=>[(24,sS z)]) (λz w'=>z<=2/\sW w3 w') (λz=>2 - z) 0 La ⟨Ln _,O1.Z _ _⟩ ?_;rintro i g w4 ⟨hi,J⟩;have G:=ht.D J;have hj:=((he.I hf).I hg).I J;refine Zi rfl O (λhk=>?_) (λhk=>?_)
 ·refine Qu<|Qe<|Qc<|QY hj O O<|Qa<|Qw<|(Vr (h.I G) (I.I G) E.ok Y.b Y.i E.s9 E.e).Y ?_;rintro _ w5 ⟨hw,_,vt,rfl,hE,hy,hz,h0,rfl,h1⟩;have ha:=h1 [] (λ_ h=>by cases h);refine Qa<|QL O O<|QL O O<|QL O O<|QP Yu λhF w6 h2 h3 h4=>Q0 [hy,sS (J4 a o).st,hz,h0] h4 ⟨ha.al.one,O,ha.mr.one,ha.ed.one,Z⟩ λw7 h5 hG=>x Qd<|Qb ?_;have h6:sW w5 w7:=h2.O h5 h3;have hm:=hw.D h6;have S:=G.D hm;refine Ql<|ZI O O<|xe<|Zz O<|Qf<|Qc<|QY (hj.I hm) O O<|Qa<|Qa<|Qw<|(Qmh (h.I S) (I.I S) (U.I S) E.ok).Y ?_;rintro _ w8 ⟨h7,V,rfl,hV,e1,e2,e3⟩;refine x Qd<|Qb<|Qj ⟨[_,sS 0],ov,S.D h7,V,O,hV,e1,e2,e3⟩
 have T:i<2:=by have hH:(i:Int)<(2:Nat):=hk;omega
 have h8:∃l,Qt [] ↑w4 ([vo,vu][i]'T) l/\Jn 32 none l=0:=by
  have h9:i=0\/i=1:=oa
  rcases h9 with rfl|rfl
  ·exact⟨o,I.I G,Y.ck⟩
  exact⟨un,U.I G,hu.ck⟩
 obtain⟨l,hl,hck⟩:=h8;refine Qf<|Qe<|Qn<|Qc<|O4 (g:=λv:OY=>[v]) (es:=[vo,vu]) (i:=i) (λ_=>O) (hh.I J) O O T λhI hn=>?_;refine Zf ([vo,vu][i]'T) λv hv=>?_;rw[hv]at hl hn;refine x (Qq (u:=v) hn O)<|Qb ?_;have hC:=KN hl 32;rw[hck]at hC;refine Ql<|Qw<|hC.Y ?_;rintro _ w9 ⟨rfl,rfl⟩;refine Qb<|Ql<|ZI O O<|xe<|Zz rfl<|Qf<|Qs<|QC O O<|Qa<|xe ?_;exact⟨i+1,by show 2 - (i+1)<2 - i;omega,La,T,J⟩
theorem Qb0 (h:Zr [] ↑w va vm ve a)(J:Qt [] ↑w vo o)(G:yj a)(S:Z5 o):
  QT sV 17 [.agg #[va,sS a.st,vm,ve],vo] w λr w'=>sW w w'/\∃vw vt,r=.tuple #[vw,vt,.bool (obs a o []).isNone,sS 0]/\Yj ↑w ↑w' vw ((obs a o []).elim [] (·.1))/\Yj ↑w ↑w' vt ((obs a o []).elim [] (·.2)):=by
 refine Zn func17 ?_;refine Qc<|Zd [va,sS a.st,vm,ve] λb2 T E hc U=>x Qd<|x Qd<|x Qd<|Qb<|Qc<|QY U O O<|Qa<|Qw<|(KP (h.I E) (J.I E) (jO [] ↑T) G S Z5.nil).Y ?_;rintro _ w2 ⟨I,V,rfl,Y,rfl,rfl,e3⟩;refine Qa<|QL O O<|QL O O<|x Qd<|Qb<|Qe<|Ql<|ZI O O<|xe<|Zz rfl<|Qf ?_;have hR:=Qay Y G.s9 G.e;rw[e3]at hR;refine Ql<|Qw<|hR.Y ?_;rintro _ w3 ⟨ha,vw,vt,rfl,hw,ht⟩;refine Qa<|QL O O<|QL O O<|QL O O<|x Qd<|x Qd<|Qb<|Ql<|Qa<|Qa<|x Qd<|x Qd<|x Qd<|Qb<|Qj ⟨[vw,vt,_,sS 0],oy,(E.D I).D ha,vw,vt,O,hw.Y (E.D I).size,ht.Y (E.D I).size⟩
theorem qe (h:Zr [] ↑w va vm ve a)(J:Qt [] ↑w vo o)(S:Qt [] ↑w vu un)(G:yj a)(T:Z5 o)(U:Z5 un):
  QT sV 18 [.agg #[va,sS a.st,vm,ve],vo,vu] w λr w'=>sW w w'/\∃vw,r=.tuple #[vw,sS ((cns a o un).elim (-1) (·.2)),.bool (cns a o un).isNone,sS 0]/\Yj ↑w ↑w' vw ((cns a o un).elim [] (·.1)):=by
 refine Zn func18 ?_;refine Qc<|Zd [va,sS a.st,vm,ve] λb3 w1 E hc Y=>x Qd<|x Qd<|x Qd<|Qb<|Qc<|QY Y O O<|Qa<|Qa<|Qw<|(KP (h.I E) (J.I E) (S.I E) G T U).Y ?_;rintro _ w2 ⟨I,V,rfl,hV,rfl,rfl,rfl⟩;refine Qa<|QL O O<|QL O O<|x Qd<|Qb<|Qe<|Ql<|ZI O O<|xe<|Zz rfl<|Qf<|Ql<|Qw<|(Qaz hV G.s9 G.e).Y ?_;rintro _ w3 ⟨ha,vw,rfl,hw⟩;refine Qa<|QL O O<|QL O O<|QL O O<|x Qd<|x Qd<|Qb<|Ql<|Qa<|Qa<|x Qd<|x Qd<|x Qd<|Qb<|Qj ⟨[vw,_,_,sS 0],oy,(E.D I).D ha,vw,O,hw.Y (E.D I).size⟩
theorem Z5.len (h:Z5 l):l.length<=32:=xD 32 l (h.i.imp λE e=>oa) h.b
theorem Z5.fil (h:Z5 l)(p:Int->Bool):Z5 (l.filter p):=⟨λx hx=>h.b x (LS.1 hx).1,h.i.filter p⟩
theorem Z5.ins {l:LI}(v:Int):Z5 (ins l v):=⟨λ_ hx=>(jp.1 hx).1,jq 32 _⟩
theorem QhO {v:Int}(h:Z5 l)(E:v∉l)(G:0<=v)(I:v<32):((l++[v]).mergeSort λx y=>decide (x<=y))=ins l v:=by
 refine yJ ?_ λx hx=>?_
 ·rw[Mr];exact⟨h.i.imp λS e=>oa,od,λa J b hb e=>E ((Lb.1 hb) ▸ e ▸ J)⟩
 rcases Le.1 hx with hx|hx
 ·exact h.b x hx
 rw[Lb.1 hx];exact⟨G,I⟩
theorem Qm3 {W:OX}{I J:Nat}{set:LI}(h:Zr [] ↑W va vm ve a)(U:QK ↑W I 53 [va,sS a.st,vm,ve])(Y:QK ↑W J 47 [vu])(hU:Qt [] ↑W vu un)(hS:Qt [] ↑W vs set)(E:yj a)(ho:Z5 set)(hu:Z5 un):
  QT sV 59 [vs,sP I,sP J] W λr w'=>r=.tuple #[.bool (hld a un set),sS 0]/\sW W w':=by
 refine Zn func59 ?_;refine Qc<|x Qd<|Qb<|Qc<|QY U O O<|Qa<|ZA Y O O<|Qw<|(KP h hS hU E ho hu).Y ?_;rintro _ w1 ⟨ha,V,rfl,S,rfl,rfl,rfl⟩;refine Qa<|QL O O<|QL O O<|x Qd<|Qb<|Qe<|Ql<|ZI O O<|xe<|Zz rfl<|Qf<|Ql<|Qw<|(Qay S E.s9 E.e).Y ?_;rintro _ w2 ⟨T,vw,vt,rfl,_,_⟩;refine Qa<|QL O O<|QL O O<|QL O O<|x Qd<|x Qd<|Qb<|Ql<|Qw<|(Qaz (S.I T) E.s9 E.e).Y ?_;rintro _ w3 ⟨hc,hf,rfl,_⟩;refine Qa<|QL O O<|QL O O<|QL O O<|x Qd<|x Qd<|Qb ?_;have he:=(ha.D T).D hc;refine QV (α:=Unit) [(4,5),(36,39)] (λ_=>[(4,.bool (hld V.a V.un V.o)),(5,sS 0)]) (λ_ w'=>w'=w3) oh ?_ ?_
 ·refine Qs<|xB Um (λG=>?_) (λG=>?_)
  ·refine Qa<|Qa<|QA O<|x Qd<|Qb<|⟨(),⟨OR Value.bool (by unfold hld;rw[G];rfl),O,Z⟩,O⟩
  refine Qa<|J0<|QA O<|x Qd<|Qb<|⟨(),⟨OR Value.bool (by unfold hld;rw[G];rfl),O,Z⟩,O⟩
 rintro _ g _ rfl;exact Qj ⟨[_,_],ov,O,he⟩
theorem QkX {W:OX}{b:Nat}{v:Int}(E:QK ↑W b 3 [sS v])(e:Int):
  QT sV 65 [sS e,sP b] W λr w'=>r=.bool (decide (e=v))/\w'=W:=by
 refine Zn func65 ?_;refine Qc<|Qb<|Ql<|ZA E O O<|x (Q6 O O)<|Qb<|Qj ⟨[_],La,O,O⟩
theorem QfX {z:LI×LI}(h:hld a un z.1=true):xtA a un l z=z:=by
 cases l with
 | nil=>rfl
 | cons v l=>rw[xtA,OQ h]
theorem Ql2 {z:LI×LI}{k:Nat}(E:k<l.length)(h:hld a un z.1=false):xtA a un (l.drop k) z=xtA a un (l.drop (k+1)) (if l[k]'E∈z.1 then z else(ins z.1 (l[k]'E),z.2++[l[k]'E])):=by
 rw[QX E,xtA,OP (by rw[h];exact MC)]
theorem QfO (h:Zr [] ↑w va vm ve a)(hO:Qt [] ↑w vo o)(hU:Qt [] ↑w vu un)(hp:yj a)(ho:Z5 o)(hu:Z5 un):
  QT sV 22 [.agg #[va,sS a.st,vm,ve],vo,vu] w λr w'=>sW w w'/\∃vw,r=.tuple #[vw,sS 0]/\Qh 3 ↑w w' vw (QcV a o un)/\Z5 (QcV a o un):=by
 have h4:=hp.ok;have kx:=h4.al_le;have hN:Z5 a.al:=⟨h4.al,h4.ali⟩;refine Zf (QcV a o un) λE hE=>?_;refine Zn func22 ?_;refine Qc<|Zd [va,sS a.st,vm,ve] λb3 w1 gs kz gt=>Qo<|UR (us:=[vu]) hU.cells λb5 w2 hP k0 hQ=>x Qd<|Qb ?_;have ht:=gs.D hP;have h5:=gt.I hP;refine Qc<|QY h5 O O<|Qa<|ZA hQ O O<|Qw<|(KP (h.I ht) (hO.I ht) (hU.I ht) hp ho hu).Y ?_;rintro _ G ⟨hw,V,rfl,hV,gu,gv,k4⟩;have hj:=ht.D hw;have gx:=hj.size;refine Qa<|QL O O<|QL O O<|x Qd<|Qb<|Qe<|Ql<|ZI O O<|xe<|Zz rfl<|Qf<|Qc<|x (Zl (l:=[]) (l':=[.tmp 3,.tmp 5]))<|Qb ?_;have hK:=yq hV;rw[gu,gv]at hK;refine Ql<|Qw<|hK.Y ?_;rintro v4 w4 ⟨h6,gy⟩;refine Qb ?_;have gz:=hj.D h6;have g0:=(h5.I hw).I h6;have g2:Z5 (kpt a o):=hN.fil _;refine Qc<|Qb ?_;have g3:=h6;have g4:=h5.I hw;have g5:=hQ.I hw;have hT:∀{W:OX} {vs:OY} {set:LI},sW G W->Qh 3 ↑G W vs set->Z5 set->QT sV 59 [vs,sP b3,sP b5] W λr w'=>r=.tuple #[.bool (hld a un set),sS 0]/\sW W w' :=
  λhW hS hs=>Qm3 (h.I (hj.D hW)) (g4.I hW) (g5.I hW) (hU.I (hj.D hW)) (Qh.ints hS (oo hs.len) od) hp hs hu
 have h7:QcV a o un=(xtA a un a.al (kpt a o,[])).2.foldl (xtD a un) (xtA a un a.al (kpt a o,[])).1:=rfl;rw[hE]at h7 ⊢;have hX:xtA a un (a.al.drop 0) (kpt a o,[])=xtA a un a.al (kpt a o,[]):=by rw[OA]
 refine Zf (xtA a un a.al (kpt a o,[])) λR hR=>?_;rw[hR]at h7 hX;refine QV (α:=OY×OY) [(6,7),(11,12),(14,16),(32,66)] (λz=>[(11,z.1),(12,z.2)]) (λz w'=>sW G w'/\Qh 3 ↑G w' z.1 R.1/\Qh 3 ↑G w' z.2 R.2/\Z5 R.1/\R.2.length<=32) oh ?_ ?_
 ·refine Qc<|Qr O g0 O O<|QG (h.al.I gz) O<|Qa<|xe<|QW (α:=Nat×OY×OY×LI×LI) [(6,7),(11,12),(14,16),(38,66)] (λz=>[(11,z.2.1),(12,z.2.2.1),(38,sS z.1)]) (λz w'=>z.1<=a.al.length/\sW G w'/\Qh 3 ↑G w' z.2.1 z.2.2.2.1/\Qh 3 ↑G w' z.2.2.1 z.2.2.2.2/\Dj z.2.1 z.2.2.1/\Z5 z.2.2.2.1/\z.2.2.2.2.length<=z.1/\xtA a un (a.al.drop z.1) (z.2.2.2.1,z.2.2.2.2)=R) (λz=>a.al.length - z.1) (0,v4,ZR,kpt a o,[]) ox
   ⟨Ln _,g3,gy,QM _ _ _ _,Dj.nil' _,g2,Lp _,hX⟩ ?_
  rintro⟨k,vs,vd,set,add⟩ g w5 ⟨hk,hl,S,ha,hy,hsE,g6,U⟩;simp only[]at hk S ha hy hsE g6 U;have g7:=hsE.len;refine Zi O O (λh8=>?_) (λh8=>?_)
  ·refine Qu ?_;have h9:a.al.length<=k:=by have hA:¬(k:Int)<(a.al.length:Int):=h8;omega
   rw[Ls h9]at U;have hc:R=(set,add):=U.symm;exact⟨(vs,vd),ov,hl,by rw[hc];exact S,by rw[hc];exact ha,by rw[hc];exact hsE,by rw[hc];show add.length<=32;omega⟩
  have T:k<a.al.length:=by have hA:(k:Int)<(a.al.length:Int):=h8;omega
  have hB:=hN.b _ (Lk T);refine Qf<|Qe<|Qn<|Qc<|xii (i:=k) (h.al.I (hj.D hl)) O O T λk5 hY=>?_;have hZ:=Ql2 (a:=a) (un:=un) (z:=(set,add)) T;refine Zf (a.al[k]'T) λv hv=>?_;rw[hv]at hY hZ hB;refine x (Qq hY O)<|Qb<|Ql<|Qa<|Qo<|xc (first:=[]) (capt:=[sP b3,sP b5]) O<|(hT hl S hsE).Y ?_;rintro _ w6 ⟨rfl,I⟩;refine Qa<|QL O O<|QL O O<|x Qd<|Qb ?_;have he:=hl.D I;refine Qe<|Ql<|ZI O O<|xe<|Zz O<|Qf<|Qe<|Ql<|xe<|Q9 O (λhC=>?_) (λhC=>?_)
  ·refine Qu ?_;have hD:hld a un (set,add).1=true:=hC;rw[QfX hD]at U;have hc:R=(set,add):=U.symm;exact⟨(vs,vd),ov,he,by rw[hc];exact Qm S I,by rw[hc];exact Qm ha I,by rw[hc];exact hsE,by rw[hc];show add.length<=32;omega⟩
  have hD:hld a un (set,add).1=false:=hC;rw[hZ hD]at U;refine Qf<|Ql<|Qa<|Qw<|(ZE (Qh.ints (L:=[]) (Qm S I) oa od) v).Y ?_;rintro _ w7 ⟨rfl,rfl⟩;refine x (Zh O)<|xe<|Q9 O (λhF=>?_) (λhF=>?_)
  ·have ga:=J7 hF;rw[OP ga]at U;have hG:=Qi S;have g8:=Qi ha;have k6:=I.size;have k9:=he.size;refine Ql<|Qa<|Qo<|Q5 [[sS v]] λma w8 hf mc g9 =>
    Qo<|Q2 (m:=1) (news:=[sS v]) (L:=[]) (Qm ha (I.D hf)) O O O (g9.at od) om oa (oo hf.size) λv9 w9 hz hq ka=>Qb ?_
   have mf:=hf.size;have gb:sW G w9:=(he.D hf).S hq λb hb=>.inr (g8 b hb).1;have mg:=gb.size;have kb:=Qg (Qm S (I.D hf)) hq λb hb J=>hy b hb J;have gc:Dj v9 vs:=λb hb J=>by
    rcases ka b hb with h1|h1
    ·exact hy b J h1
    have:=(hG b J).2;omega
   have ge:Qh 3 ↑G w9 v9 (add++[v]):=Qh.snoc hz;refine Ql<|Qa<|Qo<|Q5 [[sS v]] λmh hH hg mj kc =>
    Qo<|Q2 (m:=1) (news:=[sS v]) (L:=[]) (Qm kb hg) O O O (kc.at od) om oa (oo hg.size) λhI hJ ke hh kf=>Qb ?_
   have kg:sW G hJ:=(gb.D hg).S hh λb hb=>.inr (hG b hb).1;have gg:Qh 3 ↑G hJ hI (set++[v]):=Qh.snoc ke;have kh:=Qg (Qm ge hg) hh λb hb J=>gc b hb J;have gh:Dj hI v9:=λb hb J=>by
    rcases kf b hb with h1|h1
    ·exact gc b J h1
    have:=(Qi ge b J).2;have:=hg.size;omega
   refine Qs<|Qa<|Qw<|(JL gg (by rw[Lc,Lt];omega)).Y ?_;rintro _ mo ⟨gi,gj⟩;rw[QhO hsE ga hB.1 hB.2]at gj;refine xe<|Qs<|QC O O<|Qa<|xe ?_;exact⟨(k+1,hI,v9,ins set v,add++[v]),by show a.al.length - (k+1)<a.al.length - k;omega,ox,T,kg.S gi λb hb=>.inr (Qi gg b hb).1,gj,Qg kh gi λb hb J=>gh b J hb,gh,Z5.ins v,by show(add++[v]).length<=k+1;rw[Lc,Lt];omega,U⟩
  have ki:=Jd hF;rw[OQ ki]at U;refine Qf<|Qs<|QC O O<|Qa<|xe ?_;exact⟨(k+1,vs,vd,set,add),by show a.al.length - (k+1)<a.al.length - k;omega,ox,T,he,Qm S I,Qm ha I,hy,hsE,by show add.length<=k+1;omega,U⟩
 rintro⟨vs,vd⟩ g w5 ⟨hl,S,ha,hsE,mq⟩;simp only[]at S ha;have gk:Qt [] ↑w5 vd R.2:=Qh.ints ha oa od;have hG:=Qi S;refine Qe<|Ql<|QG gk O<|Qa<|xe<|QW (α:=Nat×OY×LI) [(6,7),(11,11),(18,21),(69,88)] (λz=>[(11,z.2.1),(69,sS z.1)]) (λz w'=>z.1<=R.2.length/\sW w5 w'/\Qh 3 ↑G w' z.2.1 z.2.2/\Z5 z.2.2/\(R.2.drop z.1).foldl (xtD a un) z.2.2=E) (λz=>R.2.length - z.1) (0,vs,R.1) ov ⟨Ln _,O1.Z _ _,S,hsE,h7.symm⟩ ?_;rintro⟨k,h0,set⟩ g w6 ⟨hk,I,hr,hn,Y⟩;simp only[]at hk hr hn Y;have he:=hl.D I;have g7:=hn.len;have kj:Qt [] ↑w6 h0 set:=Qh.ints hr oa od;refine Zi rfl O (λhL=>?_) (λhL=>?_)
 ·refine Qu ?_;have h9:R.2.length<=k:=by have hA:¬(k:Int)<(R.2.length:Int):=hL;omega
  rw[Ls h9]at Y;have kk:set=E:=Y;rw[kk]at hr hn;refine Ql<|x Qd<|Qb<|Qj ⟨[h0,sS 0],ov,hj.D he,h0,O,Q8 hr gx,hn⟩
 have T:k<R.2.length:=by have hA:(k:Int)<(R.2.length:Int):=hL;omega
 rw[QX T,LO]at Y;refine Qf<|Qe<|Qn<|Qc<|xii (i:=k) (gk.I I) O O T λms gl=>?_;refine Zf (R.2[k]'T) λv hv=>?_;rw[hv]at gl Y;refine x (Qq gl O)<|QP [sS 0] λkn w7 ko kp kq=>Qo<|Qv (u:=sS v) kq O O (LX O) O λw8 hf gm=>xe ?_;have h2:sW w6 w8:=ko.O hf kp;refine Ql<|Qw<|(ZT (kj.I h2)).Y ?_;rintro v9 w9 ⟨hq,hz⟩;have gn:=Qi hz;have kr:=gm.I hq;have mt:=gm.lt;refine x (Zl (l:=[]) (l':=[.tmp 18]))<|Qw<|(Qes (gp:=65) (cap:=[sP kn]) (p:=λe=>decide (e=v)) (enters_of func65 oc O) hz oa
  (λe W hW=>QkX (kr.J hW λJ=>oo (gn _ J).1) e)).Y ?_
 rintro go hH ⟨hg,kt⟩;refine Qb ?_;have ku:=h2.D hq;have h3:sW w6 hH:=ku.S hg λb hb=>.inr (oq (gn b hb).1 h2.size);have kv:=he.D h3;have gq:Z5 (set.filter λe=>!decide (e=v)):=hn.fil _;have gr:Qh 3 ↑G hH go (set.filter λe=>!decide (e=v)):=Q8 kt (he.D h2).size;have kw:xtD a un set v=if hld a un (set.filter λe=>!decide (e=v))=true then set.filter λe=>!decide (e=v)else set:=rfl
 rw[kw]at Y;refine Ql<|Qa<|Qo<|xc (first:=[]) (capt:=[sP b3,sP b5]) O<|(hT kv gr gq).Y ?_;rintro _ hJ ⟨rfl,hh⟩;refine Qa<|QL O O<|QL O O<|x Qd<|Qb<|Qe<|Ql<|ZI O O<|xe<|Zz rfl<|Qf<|Ql<|xe<|Q9 rfl (λhM=>?_) (λhM=>?_)
 ·rw[OQ hM]at Y;refine Qs<|Qa<|Qb<|Qs<|QC O O<|Qa<|xe ?_;exact⟨(k+1,go,set.filter λe=>!decide (e=v)),by show R.2.length - (k+1)<R.2.length - k;omega,ov,T,(I.D h3).D hh,Qm gr hh,gq,Y⟩
 rw[OP (λh=>MC (hM.symm.D h))]at Y;refine Qf<|Qs<|QC O O<|Qa<|xe ?_;exact⟨(k+1,h0,set),by show R.2.length - (k+1)<R.2.length - k;omega,ov,T,(I.D h3).D hh,Qm hr (h3.D hh),hn,Y⟩
open Go.RowKit
section
variable {e bys:Nat}
theorem QgE [h:Sl P t e 1 bys z]{x E G I:OZ}{b cap:Nat}{k0 k1 k2:IntKind}(hx:ev f x=sL b n cap)(J:ev f E=.int k0 lo)(S:ev f G=.int k1 lo)(T:ev f I=.int k2 hi)(ha:lo<=hi)(hc:hi<=cap)(w:OX):
  (execOp (ev f) ⟨d,.slice t x (some E) (some G) (some I),ty,pS,af,gd⟩).run P w=.ok (.value (.slice (some ⟨b,if hi=lo then 0 else lo,none⟩) 0 (hi - lo))) w:=by
 obtain⟨ii,U,_,hs,_⟩:=Sl.info h;by_cases V:hi=lo
 ·subst V;simp[execOp,hx,J,S,T,Instr.sliceAt,Instr.slice,Instr.sliceBounds,Instr.sliceBound,asIntOf,run_underlying h.u,sizeOf,typeInfo,U];intro Y;omega
 simp[execOp,hx,J,S,T,Instr.sliceAt,Instr.slice,Instr.sliceBounds,Instr.sliceBound,asIntOf,run_underlying h.u,sizeOf,typeInfo,U,hs,ha,hc,V,Addr.add];intro Y;exact Y.symm
theorem Qmw [h:Sl P t e 1 bys z]{s:OZ}{b cap:Nat}{u:OY}{a:Addr}{c:Nat}(G:QK ↑w b e us)(S:ev f s=.slice (some ⟨b,off,none⟩) n cap)(T:ev f y=.slice (some a) 1 c)(U:At [] ↑w a [u])(V:u.oneCell'=true)(Y:n+1<=cap)(ha:off+n<us.length)
  (hK:∀w',O1 [b] w w'->QK ↑w' b e (us.set (off+n) u)->K (QO f d (.slice (some ⟨b,off,none⟩) (n+1) cap)) w'):XO P ⟨d,.call ⟨.builtin .append,#[s,y],#[t,t]⟩,ty,pS,af,gd⟩ f w K:=by
 obtain⟨ii,hc,_,E,_⟩:=Sl.info h;have I:=run_firstCells_some (P:=P) w ii.size 1 a 1 c [u] (by rw[E];rfl) U.cells;rw[E]at I;have J:=run_storeCells_at P b (off+n) e [u] 0 us.toArray w G (by simp;omega) (by simp[V]);simp only[Oo,oL,K3 us (off+n) u ha]at J;refine xv (v:=.slice (some ⟨b,off,none⟩) (n+1) cap) (w':=w.setRow b (us.set (off+n) u).toArray) ?_ (hK _ (O1.setRow _ _ _) (X8 G));have he:(Builtin.append_ #[t,t] ty #[.slice (some ⟨b,off,none⟩) n cap,.slice (some a) 1 c]).run P w=.ok (.slice (some ⟨b,off,none⟩) (n+1) cap) (w.setRow b (us.set (off+n) u).toArray):=by
  simp[Builtin.append_,run_underlying h.u,sizeOf,typeInfo,hc,Builtin.lenOf,Y,I,Addr.add_lit,E,J]
 simp[execOp,resolve,invoke,builtin,S,T,he]
end
abbrev cstv (n:Nat)(f:Nat->Int):LV:=(oK n).map λi=>sS (f i)
theorem XZ {f:Nat->Int}(hi:i<n):(cstv n f)[0+i*1]?=some (sS (f i)):=by simp[hi]
theorem KW {f:Nat->Int}{v:Int}:(cstv n f).set (0+i*1) (sS v)=cstv n (Xd f i v):=by
 rw[LT,OM];exact JK (λv=>sS v) n f i v
def pre (ed:List Ed)(s:Nat):LI:=(ed.filter λe=>decide (e.2.2=(s:Int))).map (·.1)
def pos (ed:List Ed)(s:Nat):Nat:=(ed.filter λe=>decide (e.2.2<(s:Int))).length
def num (ed:List Ed)(s:Nat):Nat:=(pre ed s).length
theorem Jb (s:Nat):∀ed:List Ed,pos ed (s+1)=pos ed s+num ed s
 | []=>rfl
 | e::ed=>by
  have ih:=Jb s ed;unfold pos num pre at *;rw[Lj]at *;simp only[OE,decide_eq_true_eq];by_cases E:e.2.2<(s:Int)
  ·rw[OQ E,OQ (show e.2.2<((s+1:Nat):Int) by omega),OP (show ¬e.2.2=(s:Int) by omega),LL,LL];omega
  by_cases G:e.2.2=(s:Int)
  ·rw[OP E,OQ (show e.2.2<((s+1:Nat):Int) by omega),OQ G,LL,LL];omega
  rw[OP E,OP (show ¬e.2.2<((s+1:Nat):Int) by omega),OP G];exact ih
theorem Qa0 (ed:List Ed){s:Nat}(h:s<=t):pos ed s<=pos ed t:=by
 induction t with
 | zero=>rw[Nat.le_zero.1 h];exact Lp _
 | succ t ih =>
  rcases OJ t s with E|E
  ·rw[show s=t+1 by omega];exact Lp _
  have:=ih E;have:=Jb t ed;omega
theorem QgR (h:∀e∈ed,0<=e.2.2):pos ed 0=0:=by
 unfold pos;rw[List.length_eq_zero_iff,MN];intro e E hd;have:=OU hd;have:=h e E;omega
theorem Qcx (ed:List Ed)(s:Nat):pos ed s<=ed.length:=LF _ _
theorem QaZ {k:Nat}(h:k<ed.length)(s:Nat):pre (ed.take (k+1)) s=pre (ed.take k) s++if(ed[k]'h).2.2=(s:Int)then[(ed[k]'h).1]else[]:=by
 unfold pre;rw[Lh h,LR,Lv];congr 1;by_cases e:(ed[k]'h).2.2=(s:Int) <;> simp[e]
theorem q6 {k:Nat}(s:Nat):num (ed.take k) s<=num ed s:=by
 unfold num pre;rw[Lj,Lj];exact((List.take_sublist k ed).filter _).length_le
def offs (ed:List Ed)(s:Nat):Nat:=if num ed s=0 then 0 else pos ed s
theorem Qj7 {s:Nat}(h:j<num ed s):offs ed s+j<ed.length:=by
 unfold offs;rw[OP oa];have:=Jb s ed;have:=Qcx ed (s+1);omega
theorem Qj6 {s:Nat}(E:s≠t)(hi:i<num ed s)(G:j<num ed t):offs ed s+i≠offs ed t+j:=by
 unfold offs;rw[OP oa,OP oa];have I:=Jb s ed;have J:=Jb t ed;rcases Nat.lt_or_gt_of_ne E with h|h
 ·have:=Qa0 ed (show s+1<=t by omega);omega
 have:=Qa0 ed (show t+1<=s by omega);omega
def cnb (ed:List Ed):Nat->Int
 | 0=>0
 | i+1=>(num ed i:Int)
theorem QiC {k:Nat}(h:k<ed.length)(E:(ed[k]'h).2.2=(t:Int))(i:Nat):cnb (ed.take (k+1)) i=if i=t+1 then cnb (ed.take k) i+1 else cnb (ed.take k) i:=by
 cases i with
 | zero=>rw[OP oa];rfl
 | succ i =>
  show((num (ed.take (k+1)) i:Nat):Int)=_;unfold num;rw[QaZ h i];by_cases e:i=t
  ·subst e;rw[OQ E,OQ rfl,Lc];rfl
  rw[OP (by rw[E];omega),LH,OP oa];rfl
theorem QkH (h:Zr [] ↑w va vm ve a)(hB:Zb a)(hn:a.st=(n:Int)):
  QT sV 129 [.agg #[va,sS a.st,vm,ve]] w λr w'=>sW w w'/\∃rv:Nat->OY,Zs [] ↑w' r (oK n).length 1 ((oK n).flatMap λi=>[rv i])/\∀i,i<n->Qt [] ↑w' (rv i) (pre a.ed i):=by
 have pd:=hB.st1;have g9:=hB.ed_le;have hC:=hB.ed;have ka:∀e∈a.ed,0<=e.2.2:=λe J=>(hC e J).2.2.2.1;refine Zn func129 ?_;refine Qc<|Zd [va,sS a.st,vm,ve] λb1 w1 kb pf hD=>Qb ?_;have pg:=hD.lt;refine Qc ?_;have ga:(sS (a.st+1))=sS ((n+1:Nat):Int):=OR _ oa;refine Qr rfl hD O O<|QC O O<|Qo<|YP (n:=n+1) ga ga oa λbC w2 gb ph gc=>Qb ?_;have pj:=gc.lt;have kc:QK ↑w2 bC 3 (cstv (n+1) λ_=>0):=by
  have e:(oG (n+1) (sS 0).cells.toList).flatten=cstv (n+1) λ_=>0:=by
   apply LZ
   ·simp[Value.cells]
   intro i h1 h2;simp[Value.cells]
  rw[<-e];exact gc
 have hE:=kb.D gb;have hF:=hD.I gb;refine Qe<|Qc<|Qr O hF O O<|QG (h.ed.I hE) O<|Qa<|xe<|QW (α:=Nat×(Nat->Int)) [(5,5),(19,31)] (λz=>[(19,sS z.1)]) (λz w'=>z.1<=a.ed.length/\O1 [bC] w2 w'/\QK ↑w' bC 3 (cstv (n+1) z.2)/\∀i,z.2 i=cnb (a.ed.take z.1) i) (λz=>a.ed.length - z.1) (0,λ_=>0) La
  ⟨Ln _,O1.Z _ _,kc,λi=>by cases i <;> rfl⟩ ?_
 rintro⟨k,fc⟩ g w3 ⟨hk,hz,h0,U⟩;simp only[]at hk h0 U;have ke:sW w w3:=hE.O hz oa;have ge:b1∉[bC]:=ol
 have kf:=hF.J hz ge;refine Zi rfl O (λhG=>?_) (λhG=>?_)
 ·refine Qu ?_;have kg:a.ed.length<=k:=by have T:¬(k:Int)<(a.ed.length:Int):=hG;omega
  rw[Lq kg]at U;refine Qe<|Qc<|Qr O kf O O<|Qa<|xe<|QW (α:=Nat×(Nat->Int)) [(6,6),(34,48)] (λz=>[(34,sS z.1)]) (λz w'=>z.1<=n/\O1 [bC] w2 w'/\QK ↑w' bC 3 (cstv (n+1) z.2)/\∀i,i<=n->z.2 i=if i<=z.1 then(pos a.ed i:Int)else cnb a.ed i) (λz=>n - z.1) (0,fc) La
   ⟨Ln _,hz,h0,λi _=>by
    show fc i=if i<=0 then(pos a.ed i:Int)else cnb a.ed i
    rw[U i];cases i with
    | zero=>rw[OQ (Lp 0),QgR ka];rfl
    | succ i=>rw[OP oa]⟩ ?_
  rintro⟨s,I⟩ g w4 ⟨hs,h4,ha,hf⟩;simp only[]at hs ha hf;have gg:sW w w4:=hE.O h4 oa;have hg:=hF.J h4 ge;refine Qc<|x (Yw (b:=a.st) O O)<|xe<|Qe<|Zp O (λhH=>?_) (λhH=>?_)
  ·refine Qu ?_;have kh:s=n:=by have T:¬(s:Int)<a.st:=hH;omega
   subst kh;have gh:∀i,i<=s->I i=(pos a.ed i:Int):=λi hi=>by rw[hf i hi,OQ hi]
   have pn:=h4.size;refine Qc<|Qr O hg O O<|QG (h.ed.I gg) O<|Qo<|YP (n:=a.ed.length) O O oa λbA w5 gi po gj=>Qb<|Qc ?_;have gk:(sS a.st)=sS (s:Int):=OR _ hn;refine Qr O (hg.I gi) O O<|Qo<|YP (n:=s) gk gk oa λbO w6 gl pp hI=>Qb ?_;rw[VC]at hI;have pt:=gj.lt;have hJ:=gi.D gl;have ki:=gg.D hJ;have kj:=ha.I hJ;have kk:=hg.I hJ;have hK:bA≠bO:=oa
   have kn:bC≠bO:=oa
   have ko:b1≠bO:=oa
   have kp:Zs [] ↑w6 (sL bO s s) s 1 ((oK s).map λ_=>nS):=hI.arr od (n:=s) (cap:=s) (sz:=1) od oa (Lp _);refine Qe<|Ql<|QG kp O<|Qa<|xe<|QW (α:=Nat×(Nat->OY)) [(9,9),(58,79)] (λz=>[(58,sS z.1)]) (λz w'=>z.1<=s/\O1 [bO] w6 w'/\QK ↑w' bO 47 ((oK s).map z.2)/\∀i,i<z.1->z.2 i=.slice (some ⟨bA,offs a.ed i,none⟩) 0 (num a.ed i)) (λz=>s - z.1) (0,λ_=>nS) La
    ⟨Ln _,O1.Z _ _,hI,λi hi=>OS hi (Nat.not_lt_zero _)⟩ ?_
   rintro⟨r,rv⟩ g V ⟨hr,hh,hL,hM⟩;simp only[]at hr hL hM;have gm:sW w V:=ki.O hh oa;have gn:=kk.J hh (by simp only[oF];exact ko);have hN:=kj.J hh (by simp only[oF];exact kn);refine Zi O O (λhO=>?_) (λhO=>?_)
   ·refine Qu ?_;have kq:r=s:=by have T:¬(r:Int)<(s:Int):=hO;omega
    subst kq;have kr:=((gj.I gl).J hh (by simp only[oF];exact hK));refine Qe<|Qc<|Qr O gn O O<|QG (h.ed.I gm) O<|Qa<|xe<|QW (α:=Nat×(Nat->OY)×LV) [(11,11),(83,100)] (λz=>[(83,sS z.1)]) (λz w'=>z.1<=a.ed.length/\O1 [bA,bO] V w'/\QK ↑w' bO 47 ((oK r).map z.2.1)/\QK ↑w' bA 3 z.2.2/\z.2.2.length=a.ed.length/\(∀i,i<r->z.2.1 i=.slice (some ⟨bA,offs a.ed i,none⟩) (num (a.ed.take z.1) i) (num a.ed i))/\∀i j u,i<r->(pre (a.ed.take z.1) i)[j]?=some u->z.2.2[offs a.ed i+j]?=some (sS u)) (λz=>a.ed.length - z.1) (0,rv,_) La
     ⟨Ln _,O1.Z _ _,hL,kr,by simp[Value.cells],λi hi=>hM i hi,λi j u _ E=>by simp[pre]at E⟩ ?_
    rintro⟨m,Y,cs⟩ g w8 ⟨hm,hP,hQ,hj,h5,hl,ho⟩;simp only[]at hm hQ hj h5 hl ho;have go:sW w w8:=gm.S hP λb hb=>.inr (by simp only[oJ,oH,or_false]at hb;omega);have hR:=gn.J hP (by simp only[oJ,oH,or_false];omega);refine Zi O O (λhS=>?_) (λhS=>?_)
    ·refine Qu ?_;have kt:a.ed.length<=m:=by have T:¬(m:Int)<(a.ed.length:Int):=hS;omega
     rw[Lq kt]at hl ho;refine Ql<|Qb<|Qj ⟨[_],La,go,Y,?_,λi hi=>?_⟩
     ·rw[qP];have:=hQ.arr (L:=[]) od (n:=(oK r).length) (cap:=r) (sz:=1) od (by simp;omega) od;rw[L4]at this ⊢;exact this
     rw[hl i hi];have h6:num a.ed i<=1000000:=by unfold num pre;rw[Lj];exact Lx (LF _ _) (Lx g9 og)
     refine⟨od,Lx h6 og,.inr ⟨_,_,rfl,Lp _,(λu _=>od),(λu _=>hj.lt),λj u E=>?_⟩⟩;rw[Mq]at E;cases hq:(pre a.ed i)[j]? with
     | none=>rw[hq]at E;cases E
     | some v =>
      rw[hq]at E;cases E
      rw[Addr.add_lit,hj.cell];exact ho i j v hi hq
    have hp:m<a.ed.length:=by have T:(m:Int)<(a.ed.length:Int):=hS;omega
    have hT:=hC _ (Lk hp);have h7:=QaZ hp;refine Zf (a.ed[m]'hp) λe J=>?_;rw[J]at hT;simp only[J]at h7;obtain⟨t,S⟩:∃t:Nat,e.2.2=(t:Int):=⟨e.2.2.toNat,oa⟩;have h8:t<r:=oa
    have ku:num (a.ed.take (m+1)) t=num (a.ed.take m) t+1:=by unfold num;rw[h7,OQ S,Lc];rfl
    have h6:num (a.ed.take m) t<num a.ed t:=by have:=q6 (ed:=a.ed) (k:=m+1) t;omega
    have gq:=Qj7 h6;have kv:=hl t h8;refine Qf<|Qe<|Qn<|Qc<|xie (h.ed.I go) O O hp λpu gr=>?_;rw[J]at gr;refine x (QE gr O O)<|QP [sS 0,sS 0,sS 0] λb11 w9 kw kx kz=>Q0 (Qp e) kz ox λhv k0 hU=>xe ?_;have hV:sW w8 hv:=kw.O k0 kx;have gs:=hQ.I hV;have k4:=hj.I hV;have k5:=hj.lt;have k6:∀{b:Nat},b<↑w8->b11≠b:=λhb=>oa
    have hw:(sS e.2.2)=sS (t:Int):=OR _ S;refine ZJ [bA] (Y4 0 14 [10,11,13]) ?_;have hW:b11∉[bA]:=by simp only[oF];exact k6 k5
    have gt:bO∉[bA]:=by simp only[oF];exact λh=>hK h.symm
    have gu:sW hv { hv with drawn:=hv.drawn+1 }:=O1.C _ _
    refine p Qy<|p (QH O)<|pq (λ_ G=>Qk (hU.J G hW) O O)<|p Qy<|p (QH O)<|pq (λ_ G=>Qk (hU.J G hW) O O) <|
     p (λ_=>QD (i:=t) O (show Go.Lg.ev _ _=_ from hw) h8)<|pq (λ_ G=>Qk (u:=Y t) (gs.J G gt) O (Kv h8))<|p (QH O)<|pq (λ_ G=>Qk (hU.J G hW) O O) <|
     pk<|Q5 [[sS e.1]] λpw hX gv pz k9=>⟨(gu.D gv).any,?_⟩
    have h9:sW hv hX:=gu.D gv;refine pk<|Qmw (u:=sS e.1) (k4.I h9) (show Go.Lg.ev _ _=_ from kv) O (k9.at od) rfl oa (by rw[h5];exact gq) λgx hY ma=>⟨h9.any.Q hY,?_⟩;have mc:((oK r).map Y).length=r:=od
    refine p (λ_=>QD (i:=t) O (show Go.Lg.ev _ _=_ from hw) h8)<|pkk<|Qv (j:=0+t*1) (u:=.slice (some ⟨bA,offs a.ed t,none⟩) (num (a.ed.take m) t+1) (num a.ed t)) ((gs.I h9).J hY gt) O O (by rw[mc];omega) O λgy gz mf=>pe ?_;have mg:QK ↑gy bO 47 ((oK r).map (Xd Y t (.slice (some ⟨bA,offs a.ed t,none⟩) (num (a.ed.take m) t+1) (num a.ed t)))):=by
     have e1:=JK id r Y t (.slice (some ⟨bA,offs a.ed t,none⟩) (num (a.ed.take m) t+1) (num a.ed t));simp only[id]at e1;rw[<-e1];simpa using mf
    refine Qs<|QC O O<|Qa<|xe<|⟨(m+1,Xd Y t (.slice (some ⟨bA,offs a.ed t,none⟩) (num (a.ed.take m) t+1) (num a.ed t)),cs.set (offs a.ed t+num (a.ed.take m) t) (sS e.1)),by show a.ed.length - (m+1)<a.ed.length - m;omega,La,hp,?_,mg,ma.J gz (by simp only[oF];exact hK),by simp only[];rw[MR];exact h5,λi hi=>?_,λi j u hi E=>?_⟩
    ·have g0:∀b,b=bA\/b=bO->b∈[bA,bO]:=λb hb=>by simp only[oJ,oH,or_false];exact hb
     have k1:O1 [bA,bO] V hX:=hP.Q ((hV.D h9).Y λb hb=>by cases hb);have k2:O1 [bA,bO] hX gx:=hY.Y λb hb=>g0 b (.inl (Lb.1 hb));have k3:O1 [bA,bO] gx gy:=gz.Y λb hb=>g0 b (.inr (Lb.1 hb));exact(k1.Q k2).Q k3
    ·simp only[];by_cases e1:i=t
     ·subst e1;rw[Zt,ku]
     rw[ZM _ _ e1,hl i hi];congr 1;unfold num;rw[h7,OP (by rw[S];omega),LH]
    simp only[]at E ⊢;rw[h7]at E;by_cases e1:i=t
    ·subst e1;rw[OQ S]at E;rcases OJ j (num (a.ed.take m) i)with h2|h2
     ·rw[LY h2]at E;rw[MY oa];exact ho i j u hi E
     rw[Mk h2]at E;have mh:j - num (a.ed.take m) i=0:=by
      rcases Nat.eq_zero_or_pos (j - num (a.ed.take m) i)with h3|h3
      ·exact h3
      rw[Mn (by simp only[oL];exact h3)]at E;cases E
     have mj:j=num (a.ed.take m) i:=oa
     have mo:u=e.1:=by
      have:(pre (a.ed.take m) i).length=num (a.ed.take m) i:=rfl;rw[this,mh]at E;exact(Option.some.inj E).symm
     rw[mj,mo,List.getElem?_set_self (by rw[h5];exact gq)]
    rw[OP (by rw[S];omega),LH]at E;have mq:j<num a.ed i:=LP (Mc.1 E).1 (q6 i);rw[MY (Qj6 (λh=>e1 h.symm) h6 mq)];exact ho i j u hi E
   have g2:r<s:=by have T:(r:Int)<(s:Int):=hO;omega
   refine Qf<|Qe<|Qn<|Ql<|Qb ?_;have ms:=Jb r a.ed;have g3:=Qcx a.ed (r+1);have hfr:I r=(pos a.ed r:Int):=gh r oa;have mt:I (r+1)=(pos a.ed (r+1):Int):=gh (r+1) oa;have g4:(sS (I r))=sS (pos a.ed r:Int):=OR _ hfr;have mu:(sS (I (r+1)))=sS (pos a.ed (r+1):Int):=OR _ mt;have hA:(sS ((r:Int)+1))=sS ((r+1:Nat):Int):=rfl;refine ZJ [] (Y4 0 19 [18])<|p Qy<|p Qy<|p Qy<|p Qy<|p Qy<|p (λ_=>QD (i:=r) O O oa) <|
    pq (λ_ G=>Qk (hN.I G) O (XZ oa))<|p Qy<|p Qy<|p (λ_=>QD (i:=r) O O oa)<|pq (λ_ G=>Qk (hN.I G) O (XZ oa)) <|
    p Qy<|p Qy<|p (λ_=>YE O O ⟨oa,oa⟩)<|p (λ_=>QD (i:=r+1) O (show Go.Lg.ev _ _=_ from hA) oa) <|
    pq (λ_ G=>Qk (hN.I G) O (XZ oa))<|p (QgE O (show Go.Lg.ev _ _=_ from g4) (show Go.Lg.ev _ _=_ from g4) (show Go.Lg.ev _ _=_ from mu) oa g3)<|p (λ_=>QD (i:=r) O O g2)<|pkk<|Qv (j:=0+r*1) (u:=.slice (some ⟨bA,if pos a.ed (r+1)=pos a.ed r then 0 else pos a.ed r,none⟩) 0 (pos a.ed (r+1) - pos a.ed r)) (hL.I (O1.C _ _)) O O (by simp;omega) O λmv mw hg=>pe ?_
   have my:sW V { V with drawn:=V.drawn+1 }:=O1.C _ _
   have mz:(Value.slice (some ⟨bA,if pos a.ed (r+1)=pos a.ed r then 0 else pos a.ed r,none⟩) 0 (pos a.ed (r+1) - pos a.ed r))=.slice (some ⟨bA,offs a.ed r,none⟩) 0 (num a.ed r):=by
    have e1:pos a.ed (r+1) - pos a.ed r=num a.ed r:=oa
    have e2:(if pos a.ed (r+1)=pos a.ed r then 0 else pos a.ed r)=offs a.ed r:=by
     unfold offs;by_cases e3:num a.ed r=0
     ·rw[OQ e3,OQ oa]
     rw[OP e3,OP oa]
    rw[e1,e2]
   have m0:QK ↑mv bO 47 ((oK s).map (Xd rv r (.slice (some ⟨bA,offs a.ed r,none⟩) 0 (num a.ed r)))):=by
    have e1:=JK id s rv r (.slice (some ⟨bA,offs a.ed r,none⟩) 0 (num a.ed r));simp only[id]at e1;rw[<-e1,<-mz];simpa using hg
   refine Qs<|QC O O<|Qa<|xe<|⟨(r+1,Xd rv r (.slice (some ⟨bA,offs a.ed r,none⟩) 0 (num a.ed r))),by show s - (r+1)<s - r;omega,La,g2,(hh.Q (my.Y λb hb=>by cases hb)).Q mw,m0,λi hi=>?_⟩;simp only[];by_cases e1:i=r
   ·subst e1;rw[Zt]
   rw[ZM _ _ e1];exact hM i (by have T:i<r+1:=hi;omega)
  have m1:s<n:=by have T:(s:Int)<a.st:=hH;omega
  refine Qf<|Qe<|Qn<|Ql<|Qb ?_;have ms:=Jb s a.ed;have g3:=Qcx a.ed (s+1);have p0:I s=(pos a.ed s:Int):=by rw[hf s oa,OQ (Lp _)]
  have p4:I (s+1)=(num a.ed s:Int):=by rw[hf (s+1) oa,OP oa];rfl
  have hA:(sS ((s:Int)+1))=sS ((s+1:Nat):Int):=rfl;refine ZJ [] (Y4 0 12 [11])<|p Qy<|p Qy<|p (λ_=>YE O O ⟨oa,oa⟩)<|p (λ_=>QD (i:=s+1) O (show Go.Lg.ev _ _=_ from hA) oa) <|
   pq (λ_ G=>Qk (ha.I G) O (XZ oa))<|p Qy<|p Qy<|p (λ_=>QD (i:=s) O O oa)<|pq (λ_ G=>Qk (ha.I G) O (XZ oa)) <|
   p (λ_=>YE O O ⟨oa,oa⟩)<|p (λ_=>QD (i:=s+1) O (show Go.Lg.ev _ _=_ from hA) oa)<|pkk<|Qv (j:=0+(s+1)*1) (u:=sS (I (s+1)+I s)) (ha.I (O1.C _ _)) O O (by simp;omega) O λp5 m2 g5=>pe ?_
  rw[KW]at g5;have m3:sW w4 { w4 with drawn:=w4.drawn+1 }:=O1.C _ _
  refine Qs<|QC O O<|Qa<|xe<|⟨(s+1,Xd I (s+1) (I (s+1)+I s)),by show n - (s+1)<n - s;omega,La,m1,(h4.Q (m3.Y λb hb=>by cases hb)).Q m2,g5,λi hi=>?_⟩;simp only[];by_cases e1:i=s+1
  ·subst e1;rw[Zt,OQ (Lp _)];omega
  rw[ZM _ _ e1,hf i hi];by_cases e2:i<=s
  ·rw[OQ e2,OQ oa]
  rw[OP e2,OP oa]
 have hy:k<a.ed.length:=by have T:(k:Int)<(a.ed.length:Int):=hG;omega
 have hT:=hC _ (Lk hy);have g6:=λt S=>QiC (t:=t) hy S;refine Zf (a.ed[k]'hy) λe J=>?_;rw[J]at hT;simp only[J]at g6;obtain⟨t,S⟩:∃t:Nat,e.2.2=(t:Int):=⟨e.2.2.toNat,oa⟩;have p6:t<n:=oa
 refine Qf<|Qe<|Qn<|Qc<|xie (h.ed.I ke) O O hy λp7 g7=>?_;rw[J]at g7;refine x (QE g7 O O)<|QP [sS 0,sS 0,sS 0] λb5 p8 m4 m5 m6=>Q0 (Qp e) m6 ox λm7 m8 m9=>xe ?_;have hZ:sW w3 m7:=m4.O m8 m5;have hw:(sS (e.2.2+1))=sS ((t+1:Nat):Int):=OR _ oa;have p9:0<=fc (t+1)/\fc (t+1)<=1000000:=by
  rw[U];have h1:=q6 (ed:=a.ed) (k:=k) t;have h2:num a.ed t<=a.ed.length:=by unfold num pre;rw[Lj];exact LF _ _
  show 0<=((num (a.ed.take k) t:Nat):Int)/\((num (a.ed.take k) t:Nat):Int)<=1000000;omega
 refine Qs<|Qa<|Qr O m9 O O<|QC O O<|x (QD (i:=t+1) O (show Go.Lg.ev _ _=_ from hw) oa) <|
  ZA (h0.I hZ) O (XZ oa)<|QC O O<|x (QD (i:=t+1) O (show Go.Lg.ev _ _=_ from hw) oa)<|Qo<|Qv (j:=0+(t+1)*1) (u:=sS (fc (t+1)+1)) (h0.I hZ) O O (by simp;omega) O λqf pc hR=>xe ?_
 rw[KW]at hR;refine Qs<|QC O O<|Qa<|xe<|⟨(k+1,Xd fc (t+1) (fc (t+1)+1)),by show a.ed.length - (k+1)<a.ed.length - k;omega,La,hy,(hz.Q (hZ.Y λb hb=>by cases hb)).Q pc,hR,λi=>?_⟩;simp only[];rw[g6 t S i];by_cases e1:i=t+1
 ·subst e1;rw[Zt,OQ rfl,U]
 rw[ZM _ _ e1,OP e1,U]
def bq (ed:List Ed):Nat->Nat->LI->LI
 | 0,_,l=>l
 | f+1,i,l=>if i<l.length then bq ed f (i+1) ((pre ed (O2 l i).toNat).foldl ye l)else l
theorem Qll {f:Nat}(h:¬i<l.length):bq ed f i l=l:=by
 cases f with
 | zero=>rfl
 | succ f=>rw[bq,OP h]
def crq (a:QF)(tg:LI):LI:=bq a.ed (tg.length+a.st.toNat) 0 tg
def blkd (a:QF)(tg:LI):LI:=((oK a.st.toNat).filter λi:Nat=>decide ((i:Int)∉crq a tg)).map λi:Nat=>(i:Int)
structure RkI (n:Nat)(l:LI)(f:Nat->Int):Prop where
 s:∀i:Nat,i<n->(f i<0↔(i:Int)∉l)
 lo:∀i:Nat,i<n->-1<=f i
 hi:∀i:Nat,i<n->f i<=(l.length:Int)
theorem QeP {tg:LI}(h:Zr [] ↑w va vm ve a)(hy:Zb a)(hn:a.st=(n:Int))(hT:Qt [] ↑w vt tg)(hO:∀x∈tg,0<=x/\x<(n:Int))(ma:tg.length<=1000000):
  QT sV 55 [.agg #[va,sS a.st,vm,ve],vt] w λr w'=>sW w w'/\∃b f,r=sL b n n/\↑w<=b/\QK ↑w' b 3 (cstv n f)/\∀i:Nat,i<n->(f i<0↔(i:Int)∉crq a tg):=by
 have mc:=hy.st1;have gx:=hy.ed_le;have gy:=hy.ed;refine Zf (crq a tg) λR hR=>?_;have gz:bq a.ed (tg.length+n) 0 tg=R:=by rw[<-hR];unfold crq;rw[hn];rfl
 rw[hR];refine Zn func55 ?_;refine Qc<|Zd [va,sS a.st,vm,ve] λb2 w1 hP mf hQ=>Qb<|Qc<|QY hQ O O<|Qw<|(QkH (h.I hP) hy hn).Y ?_;rintro vr w2 ⟨hS,rv,g0,g2⟩;refine Qb ?_;have h6:=hP.D hS;have hU:(sS a.st)=sS (n:Int):=OR _ hn;refine Qc<|Qr O (hQ.I hS) O O<|Qo<|YP (n:=n) hU hU oa λbO w3 hV hW g3=>Qb ?_;have hX:QK ↑w3 bO 3 (cstv n λ_=>0):=by
  have e:(oG n (sS 0).cells.toList).flatten=cstv n λ_=>0:=by
   apply LZ
   ·simp[Value.cells]
   intro i h1 S;simp[Value.cells]
  rw[<-e];exact g3
 have g4:=h6.D hV;have mg:=h6.size;have g5:Zs [] ↑w3 (sL bO n n) n 1 (cstv n λ_=>0):=hX.arr od (n:=n) (cap:=n) (sz:=1) od oa (Lp _);refine Qe<|Ql<|QG g5 O<|Qa<|xe<|QW (α:=Nat×(Nat->Int)) [(7,7),(21,27)] (λz=>[(21,sS z.1)]) (λz w'=>z.1<=n/\O1 [bO] w3 w'/\QK ↑w' bO 3 (cstv n z.2)/\∀i,i<z.1->z.2 i=-1) (λz=>n - z.1) (0,λ_=>0) La ⟨Ln _,O1.Z _ _,hX,λi hi=>OS hi (Nat.not_lt_zero _)⟩ ?_;rintro⟨k,f4⟩ g w4 ⟨hk,h7,hz,hr⟩;simp only[]at hk hz hr;refine Zi rfl O (λh8=>?_) (λh8=>?_)
 ·refine Qu ?_;have g6:k=n:=by have T:¬(k:Int)<(n:Int):=h8;omega
  subst g6;have g7:sW w w4:=g4.O h7 oa;have hY:sW w2 w4:=hV.O h7 hW;have g8:=hY.size;refine Ql<|Qw<|(ZT (hT.I g7)).Y ?_;rintro v5 w5 ⟨hZ,h9⟩;refine Qb ?_;have g9:Qt [] ↑w5 v5 tg:=Qh.ints h9 oa od;have ga:bO∉ob v5:=λY=>oq (Qi h9 _ Y).1 hz.lt
  have ka:=hY.D hZ;refine Qe<|Ql<|QG g9 O<|Qa<|xe<|QW (α:=Nat×(Nat->Int)) [(10,10),(32,39)] (λz=>[(32,sS z.1)]) (λz w'=>z.1<=tg.length/\O1 [bO] w5 w'/\QK ↑w' bO 3 (cstv k z.2)/\RkI k (tg.take z.1) z.2) (λz=>tg.length - z.1) (0,f4) La
   ⟨Ln _,O1.Z _ _,hz.I hZ,⟨λi hi=>by show f4 i<0↔_;rw[hr i hi];simp,λi hi=>by show -1<=f4 i;rw[hr i hi];omega,λi hi=>by show f4 i<=_;rw[hr i hi];omega⟩⟩ ?_
  rintro⟨j,f6⟩ g w6 ⟨hj,hA,hB,hc⟩;simp only[]at hj hB hc;have gb:=Qg h9 hA λb hb Y=>ga (Lb.1 Y ▸ hb);have kb:Qt [] ↑w6 v5 tg:=Qh.ints gb oa od;refine Zi O O (λhC=>?_) (λhC=>?_)
  ·refine Qu ?_;have kc:tg.length<=j:=by have T:¬(j:Int)<(tg.length:Int):=hC;omega
   rw[Lq kc]at hc;have ke:sW w2 w6:=ka.O hA hW;refine Qe<|Qc<|Qb<|QW (α:=Nat×OY×LI×(Nat->Int)) [(8,8),(11,11),(13,13),(40,78)] (λz=>[(8,z.2.1),(11,sS z.1)]) (λz w'=>z.1<=z.2.2.1.length/\sW w2 w'/\Qh 3 ↑w2 w' z.2.1 z.2.2.1/\bO∉ob z.2.1/\QK ↑w' bO 3 (cstv k z.2.2.2)/\RkI k z.2.2.1 z.2.2.2/\z6 k tg z.2.2.1/\bq a.ed (tg.length+k - z.1) z.1 z.2.2.1=R) (λz=>tg.length+k+1 - z.1) (0,v5,tg,f6) ov
    ⟨Ln _,ke,Q8 gb g8,ga,hB,hc,z6.zero _ _,gz⟩ ?_
   rintro⟨i,vq,l,f7⟩ g w7 ⟨hi,h0,hD,gc,hF,hG,h4,U⟩;simp only[]at hi hD gc hF hG h4 U;have mh:=h4.len;have kf:=h4.all hO;have ge:Qt [] ↑w7 vq l:=Qh.ints hD oa od;refine Qe<|Ql<|Qa<|QG ge O<|ZX O O<|xe<|Zp O (λhH=>?_) (λhH=>?_)
   ·refine Qu ?_;have kg:¬i<l.length:=by have T:¬(i:Int)<(l.length:Int):=hH;omega
    rw[Qll kg]at U;refine Ql<|Qb<|Qj ⟨[_],La,h6.D h0,bO,f7,O,oa,hF,λi hi=>by rw[<-U];exact hG.s i hi⟩
   have G:i<l.length:=by have T:(i:Int)<(l.length:Int):=hH;omega
   have kh:=kf _ (Xh G);have ki:tg.length+k - i=(tg.length+k - (i+1))+1:=oa
   rw[ki,bq,OQ G]at U;have hI:=Zu G;refine Zf (O2 l i) λs hs=>?_;rw[hs]at kh U hI;have gg:s=(s.toNat:Int):=oa
   have hf:s.toNat<k:=oa
   have hE:=g2 s.toNat hf;have kj:(pre a.ed s.toNat).length<=131072:=by unfold pre;rw[Lj];exact Lx (LF _ _) gx
   have gh:∀x∈pre a.ed s.toNat,0<=x/\x<(k:Int):=λx hx=>by
    obtain⟨e,he,rfl⟩:=Lz.1 hx;have:=gy e (LS.1 he).1;omega
   have gi:(sS s)=sS (s.toNat:Int):=OR _ gg;have kk:s.toNat<(oK k).length:=by rw[L4];exact hf
   refine Zf (pre a.ed s.toNat) λps kn=>?_;rw[kn]at hE kj gh U;refine Qf<|Qe<|Qn<|Ql<|Qa<|Qa<|xii (i:=i) ge O O G λmj gj=>?_;rw[hI]at gj;refine x (Qq gj O)<|O4 (g:=λj:Nat=>[rv j]) (i:=s.toNat) (λ_=>O) (g0.I h0) O (show Go.Lg.ev _ _=_ from gi) kk λmo gk=>?_;rw[MB]at gk;refine x (Qq (u:=rv s.toNat) gk O)<|QG (hE.I h0) O<|Qa<|xe<|QW (α:=Nat×OY×LI×(Nat->Int)) [(8,8),(13,13),(54,78)] (λz=>[(8,z.2.1),(54,sS z.1)]) (λz w'=>z.1<=ps.length/\sW w2 w'/\Qh 3 ↑w2 w' z.2.1 z.2.2.1/\bO∉ob z.2.1/\QK ↑w' bO 3 (cstv k z.2.2.2)/\RkI k z.2.2.1 z.2.2.2/\z6 k tg z.2.2.1/\z.2.2.1[i]?=some s/\(ps.drop z.1).foldl ye z.2.2.1=ps.foldl ye l) (λz=>ps.length - z.1) (0,vq,l,f7) ov
    ⟨Ln _,h0,hD,gc,hF,hG,h4,by rw[LD G,hI],rfl⟩ ?_
   rintro⟨m,hJ,lm,f8⟩ g w8 ⟨Y,hg,hh,hl,ha,I,hu,hv,J⟩;simp only[]at Y hh hl ha I hu hv J;have mq:=hu.len;have ho:i<lm.length:=(Mc.1 hv).1;have gl:lm[i]'ho=s:=by have:=hv;rw[LD ho]at this;exact Option.some.inj this
   have ko:Qt [] ↑w8 hJ lm:=Qh.ints hh oa od;refine Zi O O (λhK=>?_) (λhK=>?_)
   ·refine Qu ?_;have kp:ps.length<=m:=by have T:¬(m:Int)<(ps.length:Int):=hK;omega
    rw[Ls kp]at J;have kq:lm=ps.foldl ye l:=J;rw[<-kq]at U;refine Qs<|Qa<|QC O O<|Qb<|⟨(i+1,hJ,lm,f8),by show tg.length+k+1 - (i+1)<tg.length+k+1 - i;omega,ov,ho,hg,hh,hl,ha,I,hu,U⟩
   have hp:m<ps.length:=by have T:(m:Int)<(ps.length:Int):=hK;omega
   have gm:=gh _ (Lk hp);rw[QX hp,LO]at J;refine Zf (ps[m]'hp) λq hq=>?_;rw[hq]at gm J;obtain⟨t,ht⟩:∃t:Nat,q=(t:Int):=⟨q.toNat,oa⟩;have V:t<k:=oa
   have h5:(sS q)=sS (t:Int):=OR _ ht;refine Qf<|Qe<|Qn<|Qc<|xii (i:=m) (hE.I hg) O O hp λms gn=>?_;rw[hq]at gn;refine x (Qq gn O)<|Qb<|Ql<|Qa<|x (QD (i:=t) O (show Go.Lg.ev _ _=_ from h5) V)<|ZA ha O (XZ V)<|x (Yw (a:=f8 t) (b:=0) O O)<|xe<|Zp O (λhL=>?_) (λhL=>?_)
   ·have kr:q∈lm:=by rw[ht];exact Classical.byContradiction λhn=>hL ((I.s t V).2 hn)
    have hM:ye lm q=lm:=by unfold ye;rw[OP (not_not_intro kr)]
    rw[hM]at J;refine Qf<|Qs<|QC O O<|Qa<|xe ?_;exact⟨(m+1,hJ,lm,f8),by show ps.length - (m+1)<ps.length - m;omega,ov,hp,hg,hh,hl,ha,I,hu,hv,J⟩
   have go:q∉lm:=by rw[ht];exact(I.s t V).1 hL
   have hM:ye lm q=lm++[q]:=by unfold ye;rw[OQ go]
   rw[hM]at J;have mt:=I.hi s.toNat hf;have mu:¬f8 s.toNat<0:=λh=>(I.s s.toNat hf).1 h (by rw[<-gg,<-gl];exact Lk ho);have kt:=Qi hh;have mv:=hg.size;refine Ql<|Qa<|Qa<|Qa<|Qa<|xii (i:=i) ko O O ho λmw gq=>?_;rw[gl]at gq;refine x (Qq gq O)<|x (QD (i:=s.toNat) O (show Go.Lg.ev _ _=_ from gi) hf)<|ZA ha O (XZ hf)<|QC O O<|x (QD (i:=t) O (show Go.Lg.ev _ _=_ from h5) V) <|
    Qo<|Qv (j:=0+t*1) (u:=sS (f8 s.toNat+1)) ha O O (by simp;omega) O λw9 hN gr=>xe ?_
   rw[KW]at gr;have ku:=Qg hh hN λb hb Y=>hl (Lb.1 Y ▸ hb);have my:=hN.size;refine Qs<|Qa<|Qa<|Qo<|Q5 [[sS q]] λmz m0 hw m1 kv=>Qo<|Q2 (m:=1) (news:=[sS q]) (L:=[]) (Qm ku hw) O O O (kv.at od) om oa (oq hw.size hg.size) λkw m2 kx gs kz=>Qb<|Qs<|QC O O<|Qa<|xe ?_;have m3:=hw.size;refine⟨(m+1,kw,lm++[q],Xd f8 t (f8 s.toNat+1)),by show ps.length - (m+1)<ps.length - m;omega,ov,hp,((hg.O hN oa).D hw).S gs λb hb=>.inr (oo (kt b hb).1),Qh.snoc kx,λk0=>?_,(gr.I hw).J gs hl,⟨λE hi'=>?_,λE hi'=>?_,λE hi'=>?_⟩,hu.add gm go,?_,J⟩
   ·rcases kz _ k0 with h1|h1
    ·exact hl h1
    have:=ha.lt;omega
   ·simp only[];rw[Le,Lb];by_cases e1:E=t
    ·subst e1;rw[Zt];exact⟨λh=>OS h oa,λh=>OS (Or.inr ht.symm) h⟩
    rw[ZM _ _ e1,I.s E hi'];exact⟨λh S=>S.elim h λh3=>e1 oa,λh S=>h (.inl S)⟩
   ·simp only[];by_cases e1:E=t
    ·subst e1;rw[Zt];omega
    rw[ZM _ _ e1];exact I.lo E hi'
   ·simp only[];rw[Lc,Lt];by_cases e1:E=t
    ·subst e1;rw[Zt];omega
    rw[ZM _ _ e1];have:=I.hi E hi';omega
   simp only[];rw[LY ho];exact hv
  have G:j<tg.length:=by have T:(j:Int)<(tg.length:Int):=hC;omega
  have V:tg.take (j+1)=tg.take j++[tg[j]'G]:=Lh G;have k4:=hO _ (Lk G);refine Qf<|Qe<|Qn<|Qc<|xii (i:=j) kb O O G λm4 gt=>?_;refine Zf (tg[j]'G) λq hq=>?_;rw[hq]at gt V k4;obtain⟨t,ht⟩:∃t:Nat,q=(t:Int):=⟨q.toNat,oa⟩;have k5:t<k:=oa
  have h5:(sS q)=sS (t:Int):=OR _ ht;refine x (Qq gt O)<|Qb<|Qs<|Qa<|Qa<|x (QD (i:=t) O (show Go.Lg.ev _ _=_ from h5) k5)<|Qo<|Qv (j:=0+t*1) (u:=sS 0) hB O O (by simp;omega) O λm5 k6 gu=>xe ?_;rw[KW]at gu;refine Qs<|QC O O<|Qa<|xe<|⟨(j+1,Xd f6 t 0),by show tg.length - (j+1)<tg.length - j;omega,La,G,hA.Q k6,gu,?_⟩;simp only[];rw[V];refine⟨λE hi'=>?_,λE hi'=>?_,λE hi'=>?_⟩
  ·rw[Le,Lb];by_cases e1:E=t
   ·subst e1;rw[Zt];exact⟨λh=>OS h oa,λh=>OS (Or.inr ht.symm) h⟩
   rw[ZM _ _ e1,hc.s E hi'];exact⟨λh S=>S.elim h λh3=>e1 oa,λh S=>h (.inl S)⟩
  ·by_cases e1:E=t
   ·subst e1;rw[Zt];omega
   rw[ZM _ _ e1];exact hc.lo E hi'
  rw[Lc,Lt];by_cases e1:E=t
  ·subst e1;rw[Zt];omega
  rw[ZM _ _ e1];have:=hc.hi E hi';omega
 have G:k<n:=by have T:(k:Int)<(n:Int):=h8;omega
 refine Qf<|Qe<|Qn<|Ql<|Qb<|Qs<|Qa<|Qa<|x (QD (i:=k) O O G)<|Qo<|Qv (j:=0+k*1) (u:=sS (-1)) hz O O (by simp;omega) O λm6 k9 gv=>xe ?_;rw[KW]at gv;refine Qs<|QC O O<|Qa<|xe<|⟨(k+1,Xd f4 k (-1)),by show n - (k+1)<n - k;omega,La,G,h7.Q k9,gv,λi hi=>?_⟩;simp only[];by_cases e1:i=k
 ·subst e1;rw[Zt]
 rw[ZM _ _ e1];exact hr i (by have T:i<k+1:=hi;omega)
theorem QfF (f:Nat->Int)(k:Nat):(((oK (k+1)).filter λi=>decide (f i<0)).map λi:Nat=>(i:Int))=((oK k).filter λi=>decide (f i<0)).map (λi:Nat=>(i:Int))++if f k<0 then[(k:Int)]else[]:=by
 rw[Nf,LR,Lv];congr 1;by_cases e:f k<0 <;> simp[e]
theorem Qdc {b:Nat}{f:Nat->Int}(V:QK ↑w b 3 (cstv n f))(hn:n<=4096):
  QT sV 54 [sL b n n] w λr w'=>sW w w'/\Qh 3 ↑w w' r (((oK n).filter λi=>decide (f i<0)).map λi:Nat=>(i:Int)):=by
 have hA:Zs [] ↑w (sL b n n) n 1 (cstv n f):=V.arr od (n:=n) (cap:=n) (sz:=1) od oa (Lp _);refine Zn func54 ?_;refine Qc<|Qb<|Qc<|Qb<|Qe<|Ql<|QG hA O<|Qa<|xe<|QW (α:=Nat×OY) [(3,5),(8,19)] (λz=>[(3,z.2),(8,sS z.1)]) (λz w'=>z.1<=n/\sW w w'/\Qh 3 ↑w w' z.2 (((oK z.1).filter λi=>decide (f i<0)).map λi:Nat=>(i:Int))) (λz=>n - z.1) (0,ZR) ov ⟨Ln _,O1.Z _ _,QM _ _ _ _⟩ ?_;rintro⟨k,vo⟩ g w1 ⟨Y,G,E⟩;simp only[]at Y E;refine Zi rfl O (λS=>?_) (λS=>?_)
 ·refine Qu ?_;have ha:k=n:=by have hc:¬(k:Int)<(n:Int):=S;omega
  rw[ha]at E;refine Ql<|Qb<|Qj ⟨[_],La,G,E⟩
 have I:k<n:=by have hc:(k:Int)<(n:Int):=S;omega
 have J:=QfF f k;have hh:(((oK k).filter λi=>decide (f i<0)).map λi:Nat=>(i:Int)).length<=4096:=by
  rw[Lj];exact Lx (LF _ _) (by rw[L4];omega)
 refine Qf<|Qe<|Qn<|Ql<|x (QD (i:=k) O O I)<|ZA (V.I G) O (XZ I)<|x Qd<|Qb<|Ql<|x (Yw (a:=f k) (b:=0) O O)<|xe<|Zp rfl (λT=>?_) (λT=>?_)
 ·rw[OP T,LH]at J;refine Qf<|Qs<|QC O O<|Qa<|xe ?_;exact⟨(k+1,vo),by show n - (k+1)<n - k;omega,ov,I,G,by simp only[];rw[J];exact E⟩
 rw[OQ T]at J;refine Qs<|Qa<|Qa<|Qo<|Q5 [[sS k]] λhj w2 U hl he=>Qo<|Q2 (m:=1) (news:=[sS k]) (L:=[]) (Qm E U) O O O (he.at od) om oa (oq G.size U.size) λv3 w3 hf hg hm=>Qb<|Qs<|QC O O<|Qa<|xe ?_;exact⟨(k+1,v3),by show n - (k+1)<n - k;omega,ov,I,(G.D U).S hg λb hb=>.inr (Qi E b hb).1,by simp only[];rw[J];exact Qh.snoc hf⟩
def U8 (n:Nat):LI:=(oK n).map λi:Nat=>(i:Int)
theorem QnF {st:Int}(hn:st=(n:Int))(hl:n<=4096):
  QT sV 128 [.agg #[va,sS st,vm,ve]] w λr w'=>sW w w'/\Qh 3 ↑w w' r (U8 n):=by
 refine Zn func128 ?_;refine Qc<|Zd [va,sS st,vm,ve] λb1 w1 S hp hf=>Qb ?_;have T:(sS st)=sS (n:Int):=OR _ hn;refine Qc<|Qr O hf O O<|Qo<|YP (n:=n) T T oa λbO G hg hq hh=>Qb ?_;have U:QK ↑G bO 3 (cstv n λ_=>0):=by
  have e:(oG n (sS 0).cells.toList).flatten=cstv n λ_=>0:=by
   apply LZ
   ·simp[Value.cells]
   intro i h1 h2;simp[Value.cells]
  rw[<-e];exact hh
 have hr:=S.size;have hj:Zs [] ↑G (sL bO n n) n 1 (cstv n λ_=>0):=U.arr od (n:=n) (cap:=n) (sz:=1) od oa (Lp _);refine Qe<|Ql<|QG hj O<|Qa<|xe<|QW (α:=Nat×(Nat->Int)) [(4,4),(10,17)] (λz=>[(10,sS z.1)]) (λz w'=>z.1<=n/\O1 [bO] G w'/\QK ↑w' bO 3 (cstv n z.2)/\∀i,i<z.1->z.2 i=(i:Int)) (λz=>n - z.1) (0,λ_=>0) La ⟨Ln _,O1.Z _ _,U,λi hi=>OS hi (Nat.not_lt_zero _)⟩ ?_;rintro⟨k,f3⟩ g w3 ⟨hk,V,E,I⟩;simp only[]at hk E I;refine Zi rfl O (λJ=>?_) (λJ=>?_)
 ·refine Qu ?_;have hm:k=n:=by have Y:¬(k:Int)<(n:Int):=J;omega
  subst hm;refine Ql<|Qb<|Qj ⟨[_],La,(S.D hg).O V oa,?_⟩;have e:cstv k f3=(U8 k).map (Value.int .i64):=by
   unfold cstv U8;rw[Mm];exact List.map_congr_left λi hi=>OR _ (I i (MD.1 hi))
  rw[e]at E;have ha:(U8 k).length=k:=by simp[U8]
  have:=E.own (n:=k) (sz:=1) (by rw[Lj,ha,OM]) oa (base:=↑w) oa;show w3.ownsRow _ _ 1 _ (U8 k).length _;rw[ha];exact this
 have hc:k<n:=by have Y:(k:Int)<(n:Int):=J;omega
 refine Qf<|Qe<|Qn<|Ql<|Qb<|Qs<|Qa<|Qa<|Qa<|x (QD (i:=k) O O hc)<|Qo<|Qv (j:=0+k*1) (u:=sS (k:Int)) E O O (by simp;omega) O λw4 ho he=>xe ?_;rw[KW]at he;refine Qs<|QC O O<|Qa<|xe<|⟨(k+1,Xd f3 k (k:Int)),by show n - (k+1)<n - k;omega,La,hc,V.Q ho,he,λi hi=>?_⟩;simp only[];by_cases e1:i=k
 ·subst e1;rw[Zt]
 rw[ZM _ _ e1];exact I i (by have Y:i<k+1:=hi;omega)
section
variable {P:LI->Prop}
structure SyB (P:LI->Prop)(s:Sy):Prop where
 nd:s.tup.Nodup
 p:∀t∈s.tup,P t
theorem Qmb (hB:B<=4096)(T:∀l:List (LI),l.Nodup->(∀t∈l,P t)->l.length<=B){t:LI}{v:Int}{z:Sy}(E:SyB P z)(U:∀u,Ym v aa t=some u->P u):
  ∃z',syE aa i t z v=some z'/\SyB P z':=by
 unfold syE;cases V:Ym v aa t with
 | none=>exact⟨z,O,E⟩
 | some u =>
  simp only[];by_cases I:u∈z.tup
  ·rw[OQ I];exact⟨_,O,E.nd,E.p⟩
  have J:(z.tup++[u]).Nodup:=J6 E.nd I;have S:∀t∈z.tup++[u],P t:=λt G=>by
   rcases Le.1 G with G|G
   ·exact E.p t G
   rw[Lb.1 G];exact U u V
  have Y:=T _ J S;rw[Lc,Lt]at Y;rw[OP I,OP oa];exact⟨_,O,J,S⟩
theorem QdE (G:B<=4096)(I:∀l:List (LI),l.Nodup->(∀t∈l,P t)->l.length<=B){i:Nat}{t:LI}:∀(vs:LI) (z:Sy),SyB P z->(∀v∈vs,∀u,Ym v aa t=some u->P u)->∃z',Ug aa i t vs z=some z'/\SyB P z'
 | [],z,E,_=>⟨z,O,E⟩
 | v::vs,z,E,J=>by
  obtain⟨S,T,U⟩:=Qmb (i:=i) G I E (J v Lo);obtain⟨V,Y,h4⟩:=QdE G I vs S U (λw hw=>J w (Lm _ hw));exact⟨V,by rw[Ug,T];exact Y,h4⟩
theorem Qgi (G:B<=4096)(I:∀l:List (LI),l.Nodup->(∀t∈l,P t)->l.length<=B)(J:∀t,P t->∀v∈evs aa,∀u,Ym v aa t=some u->P u):∀(f i:Nat) (z:Sy),SyB P z->∃z',syL aa f i z=some z'
 | 0,_,z,_=>⟨z,O⟩
 | f+1,i,z,E=>by
  rw[syL];split
  ·rename_i hi;have T:P (UP z i):=E.p _ (by unfold UP;simp[oO,hi]);have S:(Z1 aa i (UP z i) z).tup=z.tup:=by unfold Z1;split <;> rfl
   obtain⟨U,V,Y⟩:=QdE (i:=i) G I (evs aa) (Z1 aa i (UP z i) z) ⟨by rw[S];exact E.nd,by rw[S];exact E.p⟩ (J _ T);obtain⟨s2,h3⟩:=Qgi G I J f (i+1) U Y;exact⟨s2,by rw[V];exact h3⟩
  exact⟨z,O⟩
theorem QjC (G:B<=4096)(I:∀l:List (LI),l.Nodup->(∀t∈l,P t)->l.length<=B)(J:(∀a∈aa,a.st≠0)->P (oG aa.length 0))(S:∀t,P t->∀v∈evs aa,∀u,Ym v aa t=some u->P u):
  ∃z,xd aa=some z:=by
 unfold xd;split
 ·exact⟨_,rfl⟩
 rename_i T;have U:P (oG aa.length 0):=J (λa V e=>T ⟨a,V,e⟩);obtain⟨z,Y⟩:=Qgi G I S 4096 0 (qE aa) ⟨by simp[qE],λt E=>by simp[qE]at E;subst E;exact U⟩;exact⟨_,by rw[Y];rfl⟩
end
def KY (k:Nat):LI->Int
 | []=>0
 | x::t=>x+(k:Int)*KY k t
theorem Qep {k:Nat}:∀{t:LI},(∀x∈t,0<=x/\x<(k:Int))->0<=KY k t/\KY k t<((k ^ t.length:Nat):Int)
 | [],_=>by simp[KY]
 | x::t,h=>by
  have hx:=h x Lo;obtain⟨E,S⟩:=Qep (t:=t) (λy G=>h y (Lm _ G));have T:(0:Int)<(k:Int):=oa
  rw[KY,LL,OL];have I:(k:Int)*KY k t<=(k:Int)*(((k ^ t.length:Nat):Int) - 1):=Int.mul_le_mul_of_nonneg_left oa oa;have U:0<=(k:Int)*KY k t:=Int.mul_nonneg oa E;rw[Int.mul_sub,Int.mul_one]at I;have J:((k ^ t.length*k:Nat):Int)=(k:Int)*((k ^ t.length:Nat):Int):=by rw[Int.natCast_mul,Int.mul_comm]
  rw[J];exact⟨oa,oa⟩
theorem Qbu {k:Nat}:∀{t u:LI},t.length=u.length->(∀x∈t,0<=x/\x<(k:Int))->(∀x∈u,0<=x/\x<(k:Int))->KY k t=KY k u->t=u
 | [],[],_,_,_,_=>rfl
 | [],_::_,h,_,_,_=>by cases h
 | _::_,[],h,_,_,_=>by cases h
 | x::t,y::u,T,G,I,J=>by
  have hx:=G x Lo;have S:=I y Lo;rw[KY,KY]at J;have U:(x+(k:Int)*KY k t) % (k:Int)=x:=by rw[Int.add_mul_emod_self_left];exact Int.emod_eq_of_lt hx.1 hx.2
  have m2:(y+(k:Int)*KY k u) % (k:Int)=y:=by rw[Int.add_mul_emod_self_left];exact Int.emod_eq_of_lt S.1 S.2
  rw[J]at U;have V:x=y:=oa
  subst V;have Y:(k:Int)*KY k t=(k:Int)*KY k u:=oa
  have hk:(k:Int)≠0:=oa
  rw[Qbu (ou T) (λz E=>G z (Lm _ E)) (λz E=>I z (Lm _ E)) (Int.eq_of_mul_eq_mul_left hk Y)]
theorem Qgg {k:Nat}(U:∀a∈aa,Zb a)(hk:∀a∈aa,a.st<=(k:Int))(hB:k ^ aa.length<=4096):∃z,xd aa=some z:=by
 have S:∀t,Vt aa t->∀x∈t,0<=x/\x<(k:Int):=λt E x hx=>by
  obtain⟨i,hi,e⟩:=LM hx;have V:i<aa.length:=by rw[<-E.1];exact hi
  have I:=E.2 i hi V;have J:=hk _ (Lk V);rw[e]at I;omega
 refine QjC (P:=Vt aa) hB (λl hn G=>?_) (λhz=>?_) (λt E v _ u T=>XB U E T)
 ·have I:(l.map (KY k)).Nodup:=by
   unfold List.Nodup;rw[L7];refine List.Pairwise.imp_of_mem (λ{a b} Y hb hc e=>hc ?_) hn;exact Qbu (by rw[(G a Y).1,(G b hb).1]) (S a (G a Y)) (S b (G b hb)) e
  have J:=xD (k ^ aa.length) _ I (λu T=>by
   obtain⟨t,E,rfl⟩:=Lz.1 T;have h3:=Qep (S t (G t E));rw[(G t E).1]at h3;exact h3)
  rw[Lj]at J;exact J
 refine⟨od,λi h h'=>?_⟩;have I:=hz _ (Lk h');have J:=(U _ (Lk h')).st0;simp only[List.getElem_replicate];omega
def bpt (a:QF)(tg:LI):LI×Bool:=if a.st=0 then([],false)else ptR a a.st.toNat 0 tg (U8 a.st.toNat)
theorem Qls {m:Int}(E:(n:Int)<=m):Jn m none (U8 n)=0:=by
 refine Qc4 (λx hx=>?_) ?_
 ·obtain⟨i,hi,rfl⟩:=Lz.1 hx;have:=MD.1 hi;omega
 unfold U8 YN;rw[L7];exact List.pairwise_lt_range.imp λh=>oa
theorem QiT {tg:LI}(h:Zr [] ↑w va vm ve a)(J:Zb a)(hT:Qt [] ↑w vt tg)(hh:Jn a.st none tg=0):
  QT sV 53 [.agg #[va,sS a.st,vm,ve],sS 0,vt] w λr w'=>sW w w'/\∃v,r=.tuple #[v,.bool (bpt a tg).2]/\Yj ↑w ↑w' v (bpt a tg).1:=by
 have hp:=J.st0;have hq:=J.st1;obtain⟨n,hn⟩:∃n:Nat,a.st=n:=⟨a.st.toNat,oa⟩;have hj:a.st.toNat=n:=oa
 have E:bpt a tg=if a.st=0 then([],false)else ptR a n 0 tg (U8 n):=by unfold bpt;rw[hj]
 refine Zf (bpt a tg) λR hR=>?_;rw[hR]at E ⊢;refine Zn func53 ?_;refine Qc<|Zd [va,sS a.st,vm,ve] λb3 G he hr S=>x Qd<|Qb<|Qe<|Ql<|Qr O S O O<|x (Yd (a:=0) (b:=a.st) O O)<|xe<|Za rfl (λT=>?_) (λT=>?_)
 ·have U:a.st=0:=by have hk:(0:Int)≥a.st:=T;omega
  rw[OQ U]at E;rw[E];refine Qc<|x Qd<|Qb<|Qj ⟨[ZR,.bool false],ov,he,ZR,O,Yj.nil _ _⟩
 have U:¬a.st=0:=by have hk:¬(0:Int)≥a.st:=T;omega
 rw[OP U]at E;have hf:0<n:=oa
 refine Qf<|Qe<|ZJ [] (Y4 0 13 [4,5]) ?_;have hl:sW G { G with drawn:=G.drawn+1 }:=O1.C _ _
 refine pq (λ_ V=>Zj (S.I V) O O)<|p Qy<|p Qy<|pq (λ_ V=>Zj (S.I V) O O)<|pk<|xg<|(QnF (w:={ G with drawn:=G.drawn+1 }) hn oa).Y ?_
 rintro v2 w2 ⟨hm,ho⟩;have Y:=hl.D hm;have I:=he.D Y;have hs:(U8 n).length<=4096:=by simp[U8];omega
 refine⟨Y,?_⟩;refine pk<|xg<|(Qly (n:=n) (from0:=0) (h.I I) ((ZF a).2 J) hn hf (hT.I I) (Qh.ints ho oa od) hh (Qls oa) (Lz.2 ⟨0,MD.2 hf,rfl⟩)).Y ?_;rintro _ w3 ⟨hg,v,rfl,ha⟩;rw[<-E]at ha ⊢;refine⟨Y.D hg,?_⟩;refine p Qy<|p (λ_=>QZ O O)<|p (λ_=>QZ O O)<|p (λ_=>QZ O O)<|p ZK<|p ZK<|p ZK<|pe ?_;refine Ql<|Qa<|x Qd<|Qb<|Qj ⟨[v,_],ov,I.D hg,v,O,?_⟩;rw[E]at ha ⊢;exact λL hL=>Qh.ints ha (Lx (QjR a n tg _) oa) λb hb=>LP (hL b hb) I.size
def nbl (a:QF):LI×Bool:=((bpt (Kq [a]) (blkd (Kq [a]) (Kq [a]).mr)).1,!(bpt (Kq [a]) (blkd (Kq [a]) (Kq [a]).mr)).2)
theorem Qlm (a:QF)(h:0<=a.st)(tg:LI):Jn a.st none (blkd a tg)=0:=by
 refine Qc4 (λx hx=>?_) ?_
 ·obtain⟨i,hi,rfl⟩:=Lz.1 hx;have:=MD.1 (LS.1 hi).1;omega
 unfold blkd YN;rw[L7];exact(List.pairwise_lt_range.filter _).imp λh=>oa
theorem Qg2 (E:Zb a):∃Q,xd [a]=some (Kq [a],Q)/\Zb (Kq [a]):=by
 have I:=E.st0;obtain⟨z,G⟩:=Qgg (aa:=[a]) (k:=a.st.toNat) (λb hb=>by rw[Lb.1 hb];exact E) (λb hb=>by rw[Lb.1 hb];omega) (by have:=E.st1;simp only[oL,Nat.pow_one];omega);have e:Kq [a]=z.1:=by unfold Kq;rw[G]
 rw[e];exact⟨z.2,G,(Xb (λb hb=>by rw[Lb.1 hb];exact E) (A:=z.1) (Q:=z.2) G).1.okay (λb hb=>by rw[Lb.1 hb];exact E)⟩
theorem zW {q:AV}(h:XG [] ↑w vl [q])(Y:Zb q.a)(h9:q.a.st<=100):
  QT sV 16 [vl] w λr w'=>sW w w'/\∃v,r=.tuple #[v,.bool (nbl q.a).2,sS 0]/\Yj ↑w ↑w' v (nbl q.a).1:=by
 obtain⟨Q,hz,E⟩:=Qg2 Y;have ha:=E.st0;have hl:=E.st1;have ho:(Kq [q.a]).mr.length<=4096:=by
  have:=xD (Kq [q.a]).st.toNat _ (E.mri.imp λhB e=>oa) λx hx=>oo (E.mr x hx)
  omega
 refine Zn func16 ?_;refine Qc<|x Qd<|x Qd<|Qb<|Ql<|Qw<|(zT h λp hp=>by rw[Lb.1 hp];exact h9).Y ?_;rintro _ w1 ⟨hq,va,vt,c,rfl,hR⟩;have G:c=0/\Y1 ↑w ↑w1 va (Kq [q.a]):=by
  unfold Yt at hR;have hck:K5 ([q].map (·.a))=0:=by
   show K5 [q.a]=0;unfold K5 ckL;rw[OP od,OP (by rw[(ZF _).2 Y];simp)];rfl
  rw[OP (by rw[hck];simp)]at hR;have hm:[q].map (·.a)=[q.a]:=rfl;rw[hm,hz]at hR;exact⟨hR.1,hR.2.1⟩
 obtain⟨rfl,hr,hs,ht,rfl,hu⟩:=G;have I:=hu [] od;refine Zf (Kq [q.a]) λS hS=>?_;have hw:nbl q.a=((bpt S (blkd S S.mr)).1,!(bpt S (blkd S S.mr)).2):=by unfold nbl;rw[hS]
 rw[hS]at I E ha hl ho;obtain⟨n,hn⟩:∃n:Nat,S.st=n:=⟨S.st.toNat,oa⟩;have hy:S.st.toNat=n:=oa
 have h0:∀x∈S.mr,0<=x/\x<(n:Int):=λx hx=>oo (E.mr x hx)
 rw[hw,hS];refine Qa<|QL O O<|QL O O<|QL O O<|QP Yu λb5 w2 h1 h2 h3=>Q0 [hr,sS S.st,hs,ht] h3 ⟨I.al.one,O,I.mr.one,I.ed.one,Z⟩ λJ h4 U=>x Qd<|Qb ?_;have V:sW w1 J:=h1.O h4 h2;have he:=hq.D V;refine Qe<|Ql<|ZI O O<|xe<|Zz rfl<|Qf<|Qe<|ZJ [] (Y4 0 12 [4,5,6]) ?_;have hf:sW J { J with drawn:=J.drawn+1 }:=O1.C _ _
 have hg:=V.D hf;refine pq (λ_ G=>Zj (U.I G) O O)<|pq (λ_ G=>Zj (U.I G) O O)<|p (QH O)<|pq (λ_ G=>Qk (U.I G) O O)<|pk<|xg<|(QeP (w:={ J with drawn:=J.drawn+1 }) (I.I hg) E hn (I.mr.I hg) h0 oa).Y ?_
 rintro _ w4 ⟨h5,b,f,rfl,hb,h6,h7⟩;have hh:=hf.D h5;refine⟨hh,?_⟩;refine pk<|xg<|(Qdc h6 oa).Y ?_;rintro v5 w5 ⟨h8,hj⟩;have hA:(((oK n).filter λi=>decide (f i<0)).map λi:Nat=>(i:Int))=blkd S S.mr:=by
  unfold blkd;rw[hy];congr 1;exact List.filter_congr λi hi=>bD (h7 i (MD.1 hi))
 rw[hA]at hj;have T:=hh.D h8;refine⟨T,?_⟩;have hC:(blkd S S.mr).length<=4096:=by
  unfold blkd;rw[Lj];exact Lx (LF _ _) (by rw[L4];omega)
 refine pk<|xg<|(QiT (I.I (V.D T)) E (Qh.ints hj oa od) (Qlm S ha _)).Y ?_;rintro _ w6 ⟨hk,v,rfl,hv⟩;refine⟨T.D hk,?_⟩;refine p Qy<|p (λ_=>QZ O O)<|p (λ_=>QZ O O)<|p ZK<|p ZK<|pe ?_;refine Ql<|Qa<|x (Zh O)<|x Qd<|x Qd<|Qb<|Qj ⟨[v,_,sS 0],ox,(he.D T).D hk,v,O,hv.Y (he.D T).size⟩
end Go.Lg
namespace Go.Proofs
open Go.Proofs.Tryz
open Go.Shelf
def Tryz.sortEd_ren:Go.Shelf.Ren:=⟨λ|6=>244|15=>141|14=>278|28=>220|29=>221|20=>300|21=>301|22=>302|23=>303|24=>304|25=>305|26=>306|27=>307|46=>318|47=>258|48=>259|49=>319|50=>320|57=>325|n=>n,λ|22=>51|24=>179|25=>345|3=>3|39=>246|0=>0|53=>317|55=>319|4=>4|46=>311|45=>310|50=>205|5=>5|9=>9|66=>363|70=>367|76=>389|77=>379|n=>n,λ|n=>n⟩
theorem Tryz.sortEd:Go.Proofs.SlLaysF0.n6 sV Tryz.sortEd_ren:=lyS
end Go.Proofs
namespace Go.Lg
open Go.Lg Go.Sort
abbrev Ez:={ x:Ed // (0<=x.1/\x.1<1099511627776)/\0<=x.2.1/\x.2.1<1099511627776 }
instance:Inhabited Ez:=⟨⟨(0,0,0),og⟩⟩
abbrev U6 (x:Ez):LV:=[sS x.1.1,sS x.1.2.1,sS x.1.2.2]
abbrev EzO (base:Nat)(w:OX)(v:OY)(l:List Ez):Prop:=w.ownsRow base 179 3 v l.length (l.flatMap U6)
def ecf (x y:Ez):Int:=if x.1.1=y.1.1 then x.1.2.1 - y.1.2.1 else x.1.1 - y.1.1
theorem QoR (x y:Ez)(W:OX):Calls sV 310 #[sT (U6 x),sT (U6 y)] W λe w'=>e=.returned (sS (ecf x y))/\∃q os',w'=grow (W.drewN q) os':=by
 have E:IntKind.i64.wrap (x.1.1 - y.1.1)=x.1.1 - y.1.1:=Xu ⟨oq x.2 y.2,oq x.2 y.2⟩;have G:IntKind.i64.wrap (x.1.2.1 - y.1.2.1)=x.1.2.1 - y.1.2.1:=Xu ⟨oq x.2 y.2,oq x.2 y.2⟩
 go_enter func310,ntmps310
 go_wp2
 ·go_ret;rename_i h;exact⟨by rw[ecf,OP (ou h)];rfl,0,_,by rw[alloc_eq_grow,alloc_eq_grow,grow_grow];rfl⟩
 go_ret;rename_i h;exact⟨by rw[ecf,OQ (ou h)];rfl,0,_,by rw[alloc_eq_grow,alloc_eq_grow,grow_grow];rfl⟩
theorem QoS (x y:Ez)(W:OX):Calls sV 245 #[sT (U6 x),sT (U6 y)] W λe w'=>e=.returned (sS (ecf x y))/\∃q os',w'=grow (W.drewN q) os':=by
 have E:IntKind.i64.wrap (x.1.1 - y.1.1)=x.1.1 - y.1.1:=Xu ⟨oq x.2 y.2,oq x.2 y.2⟩;have G:IntKind.i64.wrap (x.1.2.1 - y.1.2.1)=x.1.2.1 - y.1.2.1:=Xu ⟨oq x.2 y.2,oq x.2 y.2⟩
 go_enter func245,ntmps245
 go_wp2
 ·go_ret;rename_i h;exact⟨by rw[ecf,OP (ou h)];rfl,0,_,by rw[alloc_eq_grow,alloc_eq_grow,grow_grow];rfl⟩
 go_ret;rename_i h;exact⟨by rw[ecf,OQ (ou h)];rfl,0,_,by rw[alloc_eq_grow,alloc_eq_grow,grow_grow];rfl⟩
theorem Qab (x:Ez):(U6 x).length=3:=rfl
theorem QcU:∀l:List Ez,(l.flatMap U6).length=l.length*3
 | []=>rfl
 | x::l=>by rw[LK,Lc,QcU l,Qab,LL];omega
theorem Qem {l:List Ez}(J:j<l.length*3):(l.flatMap U6)[j]?=some ((flatK U6 3 l.toArray)[j]!):=by
 have E:j / 3<l.length:=Nat.div_lt_of_lt_mul oa;have G:j % 3<3:=Nat.mod_lt _ og;rw[get_flatK _ _ _ _ (ou J)];have S:(l.flatMap U6)[j]?=(U6 (l[j / 3]'E))[j % 3]?:=by
  rw[<-(XX U6 3 Qab l (j / 3) E),LW,OQ G,MJ];congr 1;omega
 rw[S];have T:(l.toArray)[j / 3]! = l[j / 3]'E:=by simp[E]
 rw[T];have I:j % 3<(U6 (l[j / 3]'E)).length:=G;exact(LD I).D (OR some (getElem!_pos (U6 (l[j / 3]'E)) (j % 3) I).symm)
theorem Qio (x y:Ez):ltOf ecf x y=true↔x.1.1<y.1.1\/x.1.1=y.1.1/\x.1.2.1<y.1.2.1:=by
 unfold ltOf ecf;rw[decide_eq_true_iff];split <;> omega
theorem Qaf (x y:Ez):ltOf ecf x y=false↔y.1.1<x.1.1\/y.1.1=x.1.1/\y.1.2.1<=x.1.2.1:=by
 rw[<-Bool.not_eq_true,Qio];omega
theorem Qnb:SWO (ltOf ecf) where
 irrefl x:=by rw[Qaf];omega
 trans x y z h1 h2:=by rw[Qio]at *;omega
 ntrans x y z h1 h2:=by rw[Qaf]at *;omega
theorem QjY [Inhabited α]{lt:α->α->Bool}{d E:Array α}(I:PermIn 0 d.size d E)(J:SortedIn lt 0 d.size E):E.toList.Perm d.toList/\E.toList.Pairwise (λx y=>lt y x=false):=by
 obtain⟨S,_,G⟩:=I;have e1:E.extract 0 d.size=E:=by rw[<-S];exact Array.extract_size
 rw[e1,Array.extract_size]at G;refine⟨G,?_⟩;rw[Md];intro i j hi T U;have hi':i<E.size:=by simpa using hi
 have V:j<E.size:=by simpa using T
 have:=J i j (Ln _) U oa;rw[getElem!_pos E j V,getElem!_pos E i hi']at this;simpa using this
theorem Qcr (eg:∀args w,(callFunc g args).run sV w=.ok (.enter g args) w)(hf:∀(x y:Ez) (W:OX),Calls sV g #[sT (U6 x),sT (U6 y)] W λe w'=>e=.returned (sS (ecf x y))/\∃q os',w'=grow (W.drewN q) os')
    {v:OY} {l:List Ez} (h:EzO base w v l) (hl:l.length<=1099511627776):
  QT sV 244 [v,.func (.func g) #[] #[]] w λ_ w'=>O1 (ob v) w w'/\∃l':List Ez,l'.Perm l/\l'.Pairwise (λx y=>ltOf ecf y x=false)/\EzO base w' v l':=by
 unfold QT;rcases h.2 with⟨rfl,h0⟩|⟨gb,cap,cur,rfl,hh,J,hm,ho,hq,hr⟩
 ·have hs:l=[]:=Lu h0;subst hs;have I:=AnyF.slices_SortFunc_none Tryz.sortEd none 0 (.func (.func g) #[] #[]) w;change Calls sV 244 _ _ _ at I;refine Calls.mono I λe w' S=>?_;obtain⟨rfl,rfl⟩:=S;exact⟨O1.Z _ _,[],List.Perm.refl _,List.Pairwise.nil,h⟩
 have V:gb<w.heap.size:=(LJ.1 J).1;have hH:HoldsK U6 3 w gb 0 l.toArray:=by
  intro j E;rw[size_flatK,LQ]at E;have Y:=Qem E;rw[<-hr,LW,OQ E]at Y;constructor
  ·show(match w.heap[gb]? with|some (.cells c _ _)=>if(none:Option _).isSome then none else c[0+j]?|_=>none)=_
   rw[J];simp only[oX,Option.isSome_none,Oh,if_false];rw[<-ME,Y];rfl
  show(match w.heap[gb]? with|some (.cells _ _ (lo,hi))=>decide (lo<=0+j) && decide (0+j<hi)|_=>false)=false
  rw[J];simp
 have I:=AnyQ.slices_SortFunc Tryz.sortEd 3 isAgg179 sizeOf179 U6 Qab (λx v hv=>by simp at hv;rcases hv with rfl|rfl|rfl <;> rfl) ecf Qnb g #[] gb 0 cap l.toArray w eg (λm os dk _ x y=>hf x y _) hH V (by simp;omega)
 change Calls sV 244 _ _ _ at I;rw[LQ]at I;refine Calls.mono I λe w' S=>?_;obtain⟨rfl,G,n,os,hp,ht,rfl⟩:=S;have T:G.size=l.length:=by have:=hp.1;simpa using this
 have ha:=QjY (d:=l.toArray) (by rw[LQ];exact hp) (by rw[LQ];exact ht);have U:(sortWorldK U6 3 w gb 0 n G os).heap=w.heap.modify gb (onCells (putCells id 0 (flatK U6 3 G)))++os:=rfl;refine⟨⟨rfl,O,O,?_,λk hk hn=>?_⟩,G.toList,ha.1,ha.2,?_⟩
 ·rw[U,Np,My];omega
 ·rw[U,Mv,My,OQ hk,MQ,OP (λe=>hn (by simp[ob,e]))]
 refine⟨QcU _,.inr ⟨gb,cap,putCells id 0 (flatK U6 3 G) cur,by simp[T],hh,?_,by simp[T];exact hm,ho,by simp[putCells,hq],?_⟩⟩
 ·rw[U,Mv,My,OQ V,MQ,OQ rfl,J];rfl
 apply Nq;intro j;rw[LW];by_cases E:j<G.toList.length*3
 ·rw[OQ E,Qem E,ME];have hu:j<cur.size:=by simp[T]at E;omega
  have hw:j<(flatK U6 3 G).size:=by simpa using E
  simp only[putCells,Array.getElem?_mapIdx,Array.getElem?_eq_getElem hu,Ov,Nat.zero_le,oX,true_and,OQ hw,OK,id]
 rw[OP E,Mn];rw[QcU];omega
theorem Qid:∀l:List Ez,(l.map (·.1)).flatMap Qp=l.flatMap U6
 | []=>rfl
 | x::l=>by rw[LU,LK,LK,Qid l];rfl
theorem Qel:∀l:List Ed,(∀e∈l,(0<=e.1/\e.1<1099511627776)/\0<=e.2.1/\e.2.1<1099511627776)->∃zs:List Ez,zs.map (·.1)=l
 | [],_=>⟨[],O⟩
 | e::l,h=>by
  obtain⟨zs,E⟩:=Qel l (λd hd=>h d (Lm _ hd));exact⟨⟨e,h e Lo⟩::zs,by rw[LU,E]⟩
abbrev Qbz (x y:Ed):Prop:=x.1<y.1\/x.1=y.1/\x.2.1<=y.2.1
theorem yw (eg:∀args w,(callFunc g args).run sV w=.ok (.enter g args) w)(G:∀(x y:Ez) (W:OX),Calls sV g #[sT (U6 x),sT (U6 y)] W λe w'=>e=.returned (sS (ecf x y))/\∃q os',w'=grow (W.drewN q) os')
    {v:OY} {l:List Ed} (h:w.ownsRow base 179 3 v l.length (l.flatMap Qp)) (E:l.length<=1099511627776) (hb:∀e∈l,(0<=e.1/\e.1<1099511627776)/\0<=e.2.1/\e.2.1<1099511627776):
  QT sV 244 [v,.func (.func g) #[] #[]] w λ_ w'=>O1 (ob v) w w'/\∃l':List Ed,l'.Perm l/\l'.Pairwise Qbz/\w'.ownsRow base 179 3 v l'.length (l'.flatMap Qp):=by
 obtain⟨zs,rfl⟩:=Qel l hb;rw[Lj]at E;rw[Lj,Qid]at h;refine(Qcr eg G h E).Y λ_ _ ⟨I,l',J,S,T⟩=>⟨I,l'.map (·.1),J.map _,?_,by rw[Lj,Qid];exact T⟩;rw[L7];refine S.imp λ{x y} U=>?_;have:=(Qaf y x).1 U;exact this
theorem jt {v:OY}{l:List Ed}(h:w.ownsRow base 179 3 v l.length (l.flatMap Qp))(E:l.length<=1099511627776)(hb:∀e∈l,(0<=e.1/\e.1<1099511627776)/\0<=e.2.1/\e.2.1<1099511627776):
  QT sV 283 [v] w λ_ w'=>O1 (ob v) w w'/\∃l':List Ed,l'.Perm l/\l'.Pairwise Qbz/\w'.ownsRow base 179 3 v l'.length (l'.flatMap Qp):=by
 refine Zn func283 ?_;refine Qs<|Qa<|Qw<|(yw (enters_of func310 oc O) QoR h E hb).Y ?_;rintro I J G;refine xe ?_;exact⟨[],Z,G⟩
theorem QeS {v:OY}{l:List Ed}(h:w.ownsRow base 179 3 v l.length (l.flatMap Qp))(E:l.length<=1099511627776)(hb:∀e∈l,(0<=e.1/\e.1<1099511627776)/\0<=e.2.1/\e.2.1<1099511627776):
  QT sV 244 [v,.func (.func 245) #[] #[]] w λ_ w'=>O1 (ob v) w w'/\∃l':List Ed,l'.Perm l/\l'.Pairwise Qbz/\w'.ownsRow base 179 3 v l'.length (l'.flatMap Qp):=
 yw (enters_of func245 oc O) QoS h E hb
def cmF (c:Yl)(l:List (LI)):LI:=l.zipIdx.filterMap λp=>if(Vx c.ex c.cs p.1).2.2=true then some (p.2:Int)else none
theorem QiE {c:Yl}{l:List (LI)}{k:Nat}(h:k<l.length):cmF c (l.take (k+1))=cmF c (l.take k)++(if(Vx c.ex c.cs (l[k]'h)).2.2=true then[(k:Int)]else[]):=by
 unfold cmF;rw[Lh h,List.zipIdx_append,List.filterMap_append];have e:0+(l.take k).length=k:=by rw[LA];omega
 rw[e];simp only[List.zipIdx_cons,List.zipIdx_nil,List.filterMap_cons,List.filterMap_nil];by_cases E:(Vx c.ex c.cs (l[k]'h)).2.2=true
 ·rw[OQ E,OQ E]
 rw[OP E,OP E]
theorem Qlf (c:Yl)(l:List (LI)):(cmF c l).length<=l.length:=by
 unfold cmF;refine Lx (List.length_filterMap_le _ _) ?_;rw[List.length_zipIdx];exact Lp _
def Qew (c:Yl):Bool:=match xd (O3 c.co),xd (O3 c.co++O3 c.rq)with
 | some (pa,ps),some (_,ts)=>ts.all λt=>decide ((wrf c.rq (t.drop c.co.length) (enb pa (plx ps (t.take c.co.length)))).length<=1)
 | _,_=>false
def cmB (c:Yl):LI:=match xd (O3 c.co++O3 c.rq)with
 | some (sa,ts)=>cmF c (ts.map (·.take c.co.length))++[sa.st]
 | none=>[]
structure CmI (b2 base:Nat)(W:OX)(xa:OY)(st:Int)(xm vb ve:OY)(bad:LI)(es:List Ed):Prop where
 B:QK ↑W b2 53 [xa,sS st,xm,ve]
 b:Qh 3 base W vb bad
 e:W.ownsRow base 179 3 ve es.length (es.flatMap Qp)
 dj:Dj vb ve
 bd:∀e∈es,(0<=e.1/\e.1<1099511627776)/\0<=e.2.1/\e.2.1<1099511627776
theorem CmI.I {G base:Nat}{W W':OX}{xa:OY}{st:Int}{xm vb ve:OY}{bad:LI}{es:List Ed}(h:CmI G base W xa st xm vb ve bad es)(E:sW W W'):CmI G base W' xa st xm vb ve bad es :=
 ⟨h.B.I E,Qm h.b E,Qm h.e E,h.dj,h.bd⟩
theorem CmI.addB {W:OX}{xa:OY}{st:Int}{xm G:OY}{bad bad':LI}(h:CmI E base W xa st xm vb ve bad es)(hb:E<base)(I:O1 (ob vb) W W')(T:Qh 3 base W' G bad')(U:∀b∈ob G,b∈ob vb\/↑W<=b):CmI E base W' xa st xm G ve bad' es :=
 ⟨h.B.J I (QJ h.b hb),T,Qg h.e I (λb hb V=>h.dj b V hb),λb Y J=>(U b Y).elim (λS=>h.dj b S J) (λS=>oo (QU h.e b J)),h.bd⟩
theorem CmI.addE {W W1:OX}{xa:OY}{st:Int}{xm I:OY}{bad:LI}{e:Ed}(h:CmI E base W xa st xm vb ve bad es)(hb:E<base)(Y:O1 (ob ve) W W1)(S:W1.ownsRow base 179 3 I (es.length+1) (es.flatMap Qp++Qp e))(hn:∀b∈ob I,b∈ob ve\/↑W<=b)
  (T:O1 [E] W1 W') (hB:QK ↑W' E 53 [xa,sS st,xm,I]) (he:(0<=e.1/\e.1<1099511627776)/\0<=e.2.1/\e.2.1<1099511627776):CmI E base W' xa st xm vb I bad (es++[e]):=by
 refine⟨hB,Qg (Qg h.b Y (λb hb G=>h.dj b hb G)) T (λb J G=>by have:=(Qi h.b b J).1;rw[Lb.1 G]at this;omega),?_,λb U ha=>(hn b ha).elim (λV=>h.dj b U V) (λV=>oo (QU h.b b U)),λd hd=>?_⟩
 ·have h9:=Qg S T (λb J G=>by have:=((Qi S) b J).1;rw[Lb.1 G]at this;omega);rw[Lc,LC];simpa using h9
 rcases Le.1 hd with hd|hd
 ·exact h.bd d hd
 rw[Lb.1 hd];exact he
theorem CmI.stb {xa:OY}{st:Int}{xm:OY}{bad:LI}:Z7 B (λW=>CmI G base W xa st xm vb ve bad es):=
 λW W' X h E hX=>⟨Z7.blk W W' X h.B E hX,Z7.row W W' X h.b E hX,Z7.row W W' X h.e E hX,h.dj,h.bd⟩
theorem Qb4 (h0:ZV [] ↑w c)(ko:Kb w 4096)(kp:Y2 c.V=0)(hf:(spc c.V).a.st<4096)(h1:Qew c.V=true):
  QT sV 183 [c.val] w λr w'=>sW w w'/\∃xa xm xe vb,r=.tuple #[.agg #[xa,sS ((spc c.V).a.st+1),xm,xe],vb,sS 0]/\ZH [xa,xm,xe]/\Qh 3 ↑w w' vb (cmB c.V):=by
 refine QT.of_G 20 func183 O ntmps183 results183 od ?_;refine QQ<|Qx oh oh<|Zd c.cells λb1 w1 pd hb1 kq=>QP U5 λE w2 kr hb2 kt=>x Qd<|Qb ?_;have hO:=pd.D kr;have hl1:=kq.lt;have pf:=kt.lt;have pg:=kq.I kr;have ku:ZV [E] ↑w2 c:=(h0.up (L':=[E]) (λb hb=>.inr (by rw[Lb.1 hb];omega))).I hO;refine QQ<|Qx oh oh<|QY pg O O<|Qw<|(QbO (h0.I hO) (ko.I hO)).Y ?_;rintro r3 w3 ⟨gn,vp,rfl,_,ph⟩;obtain⟨b,q,rfl,rfl,S,_,pj⟩:=ph kp;rw[kp];have hy:=hO.D gn;have kv:Jr [E] b ↑w3 q:=(pj [E] (λx hx=>by rw[Lb.1 hx];exact pf)).2 ku;have hsp:=Qcp S.p S.s;have hst':q.s.a.st<4096:=by rw[hsp]at hf;exact hf
 have pn:cmB q.c.V=cmF q.c.V ((q.ts.map (·.2)).map (·.take q.c.V.co.length))++[q.s.a.st]:=by unfold cmB;rw[S.s]
 have po:∀t∈q.ts.map (·.2),(wrf q.c.V.rq (t.drop q.c.V.co.length) (enb q.p.a (plx (q.qs.map (·.2)) (t.take q.c.V.co.length)))).length<=1:=λt ht=>by
  unfold Qew at h1;rw[S.p,S.s]at h1;exact OU (L9.1 h1 t ht)
 have pp:(spc q.c.V).a.st=q.s.a.st:=by rw[hsp]
 rw[pp,pn];refine Qa<|QL O O<|QL O O<|x Qd<|Qb<|QQ<|QQ<|Qx oh oh<|Qa<|ZI O O<|xe<|JF rfl<|Z4 ?_;refine QQ<|Qx oh oh<|Qa<|Z0 O<|Q7 O<|Qr O kv.B O O<|QP [sS 0] λb6 w4 pt pu pw=>Qo<|Qv (j:=0) (u:=sS q.s.a.st) pw O O od rfl λG pz kw=>xe ?_;have hP:sW w3 G:=pt.O pz pu;have ho:=kv.I hP;have hz3:=gn.size;have kx:=kw.lt;have p0:QK ↑G E 53 U5:=(kt.I gn).I hP;have hR:QK ↑G b6 3 [sS q.s.a.st]:=kw;have hst0:0<=q.s.a.st:=by
  have:=(Xb (λa Y=>by
   rcases Le.1 Y with Y|Y
   ·exact YL (Yr S.ok).co a Y
   exact YL (Yr S.ok).rq a Y) S.s).1.st
  omega
 refine QQ<|QQ<|Qx oh oh<|ZA hR O O<|x (Yd O O)<|xe<|QlA O (λkz=>OS (show q.s.a.st≥4096 from kz) oa) (λkz=>?_);refine Z4 ?_;have go:sW G { G with drawn:=G.drawn+1 }:=O1.C _ _
 refine QQ<|Vu (sW G) [oz 0,oz 1,oz 2,oz 3,oz 4,oz 6,oz 7,oz 8,oz 9,oz 10,oz 11,oz 12,oz 14,oz 15,oz 16,oz 17,oz 18,oA 5,oA 13,oA 19,oz 20,oA 21] mixed oh oh oc go ?_;refine p Qy<|p (YC O)<|p (QH O)<|p (QH O)<|pq (λ_ U=>Qk (ho.B.I U) O O)<|pq (λ_ U=>Qk (hR.I U) O O)<|p (λ_=>YE O O ⟨oa,oa⟩)<|p Qy<|p (YC O)<|p (QH O)<|p (QH O) <|
  pq (λ_ U=>Qk (ho.B.I U) O O)<|p Qy<|p (YC O)<|p (QH O)<|p (QH O)<|pq (λ_ U=>Qk (ho.B.I U) O O)<|pk<|xg<|(ZT (ho.s.al.I go)).Y ?_
 rintro xa w6 ⟨p4,gq⟩;have gr:=go.D p4;refine⟨gr,?_⟩;refine pk<|xg<|(ZT (ho.s.mr.I gr)).Y ?_;rintro xm w7 ⟨p5,gs⟩;have hS:=gr.D p5;refine⟨hS,?_⟩;refine pk<|xg<|(zE (ho.s.ed.I hS)).Y ?_;rintro hT w8 ⟨p6,hU⟩;have gt:=hS.D p6;refine⟨gt,?_⟩;refine p (λ_=>QB ⟨xH gq,O,xH gs,xH hU,Z⟩)<|pkk<|Us [xa,sS (q.s.a.st+1),xm,hT] (p0.I gt) ⟨Qz gq,O,Qz gs,Qz hU,Z⟩ λw9 k0 p7=>pe ?_;have k4:O1 [E] G w9:=gt.any.Q k0;have hz7:=hS.size;have hA:E<G.heap.size:=oa
 have k5:=ho.st k4;have hX:ZH [xa,xm]:=⟨Qz gq,Qz gs,Z⟩;have p8:w9.ownsRow ↑G 179 3 hT q.s.a.ed.length (q.s.a.ed.flatMap Qp):=Qg (Q8 hU oa) k0 (λb hb I=>by have:=(Qi hU b hb).1;rw[Lb.1 I]at this;omega);have hz:=Yr S.ok;have hB:∀a∈O3 q.c.V.co++O3 q.c.V.rq,Zb a:=λa Y=>by
  rcases Le.1 Y with Y|Y
  ·exact YL hz.co a Y
  exact YL hz.rq a Y
 have gu:=(Xb hB S.s).1.okay hB;have p9:∀e∈q.s.a.ed,(0<=e.1/\e.1<1099511627776)/\0<=e.2.1/\e.2.1<1099511627776:=λe he=>by
  have h1:=gu.ed e he;have h2:=gu.al _ h1.2.2.1;omega
 have qf:CmI E ↑G w9 xa (q.s.a.st+1) xm Zo hT [] q.s.a.ed:=⟨p7,QM _ _ _ _,p8,λb hb=>(by cases hb),p9⟩;have k6:=qh hB S.s;have k9:=k6.1;have qj:=k6.2;simp only[]at k9 qj;have hckc:=hz.c8;have hY:q.c.V.co.length=q.c.co.length:=Lj ..;have ql:q.c.V.rq.length=q.c.rq.length:=Lj ..;have hcr:=hz.cr;have q0:(O3 q.c.V.co++O3 q.c.V.rq).length=q.c.co.length+q.c.rq.length:=by rw[Lc];unfold O3;rw[Lj,Lj,hY,ql]
 refine QQ<|QQ<|Qx oh oh<|Qa<|Z0 O<|Qr O k5.B O O<|QG k5.ts.arr O<|Qa<|xe<|Zf ((q.ts.map (·.2)).map (·.take q.c.V.co.length)) λtcs gv=>?_;rw[gv];have htcl:tcs.length=q.ts.length:=by rw[<-gv,Lj,Lj]
 have hTn:q.ts.length<=4096:=by have h2:=(Xb hB S.s).1.st;have h3:(q.ts.map (·.2)).length=q.ts.length:=Lj ..;omega
 refine ZL<|Kf (α:=Nat×OY×OY×List Ed) [(3,3),(7,16),(60,109)] (λz=>[(3,z.2.1),(60,sS z.1)])
  (λz ds W'=>z.1<=q.ts.length/\O1 [E] G W'/\Kh ↑G ↑W' ds W'/\CmI E ↑G W' xa (q.s.a.st+1) xm z.2.1 z.2.2.1 (cmF q.c.V (tcs.take z.1)) z.2.2.2/\z.2.2.2.length<=131072+z.1)
  (λz=>q.ts.length - z.1) oh (0,Zo,hT,q.s.a.ed) ov ⟨Ln _,k4,⟨Ml,λD hD=>by cases hD⟩,qf,gu.ed_le⟩ ?_
 rintro⟨k,vb,ve,es⟩ g ds h4 ⟨hk,hC,ma,J,q4⟩;simp only[]at hk J q4;have hz10:=hC.size;have hZ:=Qlf q.c.V (tcs.take k);rw[LA]at hZ;refine QQ<|Qx oh oh<|ZX O O<|xe<|QQ<|V9 O (λmc=>?_) (λmc=>?_)
 ·refine Jl ?_;rw[Lq oa]at J hZ;refine Zf (cmF q.c.V tcs) λbad ga=>?_;rw[ga]at J hZ;have gx:E∉ob ve:=QJ J.e hA;have q5:E∉ob vb:=QJ J.b hA;have gb:b6∉[E]:=ol
  have j1:b6∉ob ve:=QJ J.e kx;have j2:b6∉ob vb:=QJ J.b kx;refine QQ<|Qx oh oh<|Qr O J.B O O<|Qw<|(QeS J.e oa J.bd).Y ?_;rintro r11 h5 ⟨hq,hj,hp,_,ho11⟩;refine xe ?_;have gc:=J.B.J hq gx;have gy:=(hR.J hC gb).J hq j1;have gz:=Qg J.b hq (λb hb I=>J.dj b hb I);have hz11:=hq.size;have hu:=Qi J.e;have hE:=Qi gz;have j3:Kh ↑G ↑h4 ds h5:=ma.J hq (Go.Lg.Q3 J.e);refine QQ<|Vu (λw'=>O1 (E::ob vb) h5 w'/\QK ↑w' E 53 [xa,sS (q.s.a.st+1),xm,ve]/\QK ↑w' b6 3 [sS q.s.a.st]) [oz 0,oz 1,oz 2,oA 3,oA 4,oA 5,oz 6,oz 7] mixed oh oh oc ⟨O1.C _ _,gc.I (O1.C _ _),gy.I (O1.C _ _)⟩ ?_;refine pq (λ_ U=>Zj U.2.1 O O)<|p Qy<|pq (λ_ U=>Qk U.2.2 O O)<|pk<|Q5 [[sS q.s.a.st]] λb116 g0 g4 hb116 j4=>?_;have h6:=(O1.C [] h5).D g4;have hz12:=h6.size;refine⟨⟨h6.any,gc.I h6,gy.I h6⟩,?_⟩;refine pk<|Q2 (m:=1) (news:=[sS q.s.a.st]) (L:=[]) (Qm gz h6) O O O (j4.at od) om oa oa λmf hG mg ge hn13=>?_;have gg:O1 (ob vb) h5 hG:=h6.any.Q ge;have mh:=gc.J gg q5;have mj:=gy.J gg j2;refine⟨⟨gg.Y (λb hb=>Lm _ hb),mh,mj⟩,?_⟩;refine pk<|Us [xa,sS (q.s.a.st+1),xm,ve] mh ⟨hX.1,O,hX.2.1,Qz J.e,Z⟩ λhg T mo=>?_;have g5:O1 (E::ob vb) h5 hg:=(gg.Y (λb hb=>Lm _ hb)).Q (T.Y od);refine⟨⟨g5,mo,mj.J T gb⟩,?_⟩;refine p ZK<|p ZK<|pe ?_;have hv:Kh ↑G ↑h4 ds hg:=j3.J g5 (λb hb=>by
   rcases Ll.1 hb with rfl|hb
   ·exact gc.cells
   exact Go.Lg.Q3 gz b hb)
  have za:E∉ds:=λI=>oo (hv.2 E I).1
  have hH:sW w hg:=(((hy.D hP).O hC oa).S hq (λb hb=>.inr (oq (hu b hb).1 hy.size))).S g5 (λb hb=>.inr (by
   rcases Ll.1 hb with rfl|hb
   ·omega
   have:=(hE b hb).1;have:=hy.size;omega))
  refine JE ⟨λD hD=>(hv.2 D hD).2.2,hv.1,[.agg #[xa,sS (q.s.a.st+1),xm,ve],mf,sS 0],λW' g6=>?_⟩;refine⟨⟨Jm (mo.J g6 za),O,O,Z⟩,hH.S g6 (λD hD=>.inr (oq (hv.2 D hD).1 hy.size)),xa,xm,ve,mf,O,⟨hX.1,hX.2.1,Qz J.e,Z⟩,?_⟩;have h9:=Qh.snoc (Qg mg T (λb hb I=>by have:=(Qi mg b hb).1;rw[Lb.1 I]at this;omega));have mq:=Qg h9 g6 (λb hb I=>by
   obtain⟨o,g1,g2⟩:=Go.Lg.Q3 h9 b hb;rw[(hv.2 b I).2.2]at g1;cases g1
   cases g2)
  rw[<-ga]at mq;exact Q8 mq (oo hy.size)
 have hI:k<q.ts.length:=by have h62:(k:Int)<(q.ts.length:Int):=mc;omega
 have ms:k<tcs.length:=oa
 have hh:=QiE (c:=q.c.V) ms;have z2:tcs[k]'ms=(q.ts[k]'hI).2.take q.c.V.co.length:=by subst gv;simp
 have gh:=Lk hI;have hJ:=k9 _ (LG (f:=(·.2)) gh);have hw:=po _ (LG (f:=(·.2)) gh);rw[z2]at hh;refine Zf (cmF q.c.V (tcs.take k)) λbad ga=>?_;rw[ga]at J hZ hh;refine Zf (ob vb++ob ve) λav g7=>?_;have hE:=Qi J.b;have hu:=Qi J.e;have z3:∀x∈av,↑G<=x/\x<h4.heap.size:=λx hx=>by
  rw[<-g7]at hx;exact(Le.1 hx).elim (hE x) (hu x)
 have z4:Jr (E::av) b ↑G q:=ho.up (λx hx=>by
  rcases Ll.1 hx with rfl|hx
  ·exact .inl Lo
  exact .inr (z3 x hx).1)
 have gi:Jr (E::av) b ↑h4 q:=z4.st (hC.Y od);refine Zf (cmF q.c.V (tcs.take (k+1))) λg8 mt=>?_;rw[mt]at hh;refine Z4<|QeJ (α:=OY×OY×List Ed) [(3,3),(7,16),(61,109)] (λz=>[(3,z.1),(60,sS k)]) (λz h7 W'=>O1 [E] G W'/\Kh ↑G ↑W' h7 W'/\CmI E ↑G W' xa (q.s.a.st+1) xm z.1 z.2.1 g8 z.2.2/\z.2.2.length<=131072+(k+1)) oh ?_ ?_
 rotate_left
 ·rintro⟨gj,hr,hj⟩ g h7 W ⟨z5,hDW,hIW,hlW⟩;refine Qx oh oh<|QC O O<|Qa<|xe ?_;exact⟨(k+1,gj,hr,hj),oe,ov,hI,z5,hDW,by simp only[];rw[mt];exact hIW,hlW⟩
 refine ZL<|QQ<|Qx oh oh<|Qa<|O4 (g:=Yz) J2 gi.ts.arr O O hI λa63 mu=>?_;refine Zf (q.ts[k]'hI) λt ht=>?_;rw[ht]at mu gh hJ hw hh;have htl:t.2.length=q.c.co.length+q.c.rq.length:=by rw[hJ.1,q0]
 refine x (Qq mu O)<|QP [sS 0] λb7 h5 hq hb7 hB7=>Qo<|Qv (j:=0) (u:=sS k) hB7 O O od rfl λg0 g4 hB712=>Qb ?_;have g9:sW h4 g0:=hq.O g4 hb7;have hB712':QK ↑g0 b7 3 [sS k]:=hB712;refine QQ<|Qx oh oh<|Qa<|Qa<|Qw<|(QaJ (gi.I g9) ((gi.ts.each t gh).I g9) oa).Y ?_;rintro r13 hG ⟨ge,v9,mv,rfl,ka,mw⟩;refine Qa<|QL O O<|QL O O<|x Qd<|Qb ?_;have hK:=g9.D ge;have my:=gi.I hK;rw[hY]at hw hh;refine Zf (t.2.take q.c.co.length) λtc gk=>?_;refine Zf (t.2.drop q.c.co.length) λtr mz=>?_;rw[gk]at ka hw hh;rw[mz]at mw hw;have htcl2:tc.length=q.c.co.length:=by rw[<-gk,LA];omega
 have m0:∀x∈tc,0<=x/\x<4096:=λx hx=>(hJ.bd (m:=4096) (λa Y=>(hB a Y).st1)) x (L3 (by rw[gk];exact hx));have hVc:Vt (O3 q.c.V.co) tc:=by
  have h1:=hJ.take;rw[show(O3 q.c.V.co).length=q.c.co.length by unfold O3;rw[Lj];exact hY,gk]at h1;exact h1
 have hVr:Vt (O3 q.c.V.rq) tr:=by
  have h1:=hJ.drop;rw[show(O3 q.c.V.co).length=q.c.co.length by unfold O3;rw[Lj];exact hY,mz]at h1;exact h1
 have gl:Jr [] b ↑hG q:=my.up od;have hvo:=UY gl.k1 gl.k2 gl.k3 (ka.up (L':=[]) od) (by rw[S.ex,S.cs];exact hz.cd) hVc.tpOk;rw[S.ex,S.cs]at hvo;refine Zf (Vx q.c.V.ex q.c.V.cs tc) λV hV=>?_;rw[hV]at hvo hh;have kb:=J.I hK;have hz13:=hK.size;have m1:=hB712'.I ge;refine QeJ (α:=OY) [(3,3),(11,14),(71,86)] (λz=>[(3,z)]) (λz h7 W=>h7=ds/\O1 (ob vb) hG W/\Qh 3 ↑G W z g8/\∀x∈ob z,x∈ob vb\/↑hG<=x) oh ?_ ?_
 ·refine QQ<|Qx oh oh<|Qa<|Z0 O<|Q7 O<|x (ZS (us:=[q.vs,q.vx,q.vk]) gl.B O O O)<|Qa<|Qw<|hvo.Y ?_;rintro r14 hg ⟨T,rfl⟩;refine Qa<|QL O O<|QL O O<|QL O O<|QL O O<|x Qd<|x Qd<|x Qd<|Qb<|QQ<|Qx oh oh<|Qa<|xe ?_;have m2:=Qm kb.b T;refine Kg O (λkc=>?_) (λkc=>?_)
  ·rw[OQ kc]at hh;refine Qx oh oh<|Qa<|ZA (m1.I T) O O<|Qo<|Q5 [[sS k]] λb85 y1 hl hb85 hB85=>?_;have zy1:=hl.size;have hz14:=T.size;refine Qo<|Q2 (m:=1) (news:=[sS k]) (L:=[]) (Qm m2 hl) O O O (hB85.at od) om oa oa λz y2 gm hL ke=>Qb<|⟨z,⟨rfl,Z⟩,rfl,(T.D hl).any.Q hL,by rw[hh];exact Qh.snoc gm,λx hx=>(ke x hx).imp id (λh=>oa)⟩
  rw[OP (by rw[kc];decide),LH]at hh;refine Z4 ?_;exact⟨vb,La,O,T.any,by rw[hh];exact m2,λx hx=>.inl hx⟩
 rintro gj g h7 hg ⟨rfl,T,hbO,hbn⟩;have hI14:=kb.addB hA T hbO hbn;have hz14:=T.size;have kf:∀x∈ob vb,x∈E::av:=λx hx=>Lm _ (by rw[<-g7];exact Le.2 (.inl hx));have m3:∀x∈E::ob ve,x∈E::av:=λx hx=>by
  rcases Ll.1 hx with rfl|hx
  ·exact Lo
  exact Lm _ (by rw[<-g7];exact Le.2 (.inr hx))
 have kg:=my.st (T.Y kf);have hI9a:=ka.st (T.Y kf);have m4:=mw.st (T.Y kf);have hH:O1 [E] G hg:=(hC.D hK.any).S T (λx hx=>.inr (hE x hx).1);have hs014:sW w hg:=(hy.D hP).O hH oa;have hn7b:b7∉ob vb:=λI=>oo (hE b7 I).2
 have gb:b6∉[E]:=ol
 have hv:Kh ↑G ↑h4 h7 hg:=(ma.I hK).J T (Go.Lg.Q3 kb.b);refine QQ<|Vu (sW hg) [oz 0,oz 1,oz 2,oz 3,oz 4,oA 5,oz 6,oz 7] mixed oh oh oc (O1.C _ _) ?_;refine p Qy<|p (YC O)<|p (QH O)<|pq (λ_ U=>Qk (kg.B.I U) O O)<|p Qy<|pk<|xg<|(Qak (hI9a.I (O1.C _ _)) ((ko.I hs014).I (O1.C _ _)) m0 oa).Y ?_;rintro r15 w15 ⟨rfl,hs15⟩;have kh:=(O1.C [] hg).D hs15;refine⟨kh,?_⟩;have m5:(match O6 q.mm (Kn tc)with|some u=>u|none=>sS 0)=sS (plx (q.qs.map (·.2)) tc):=by
  rw[S.m tc htcl2 (λx hx=>(m0 x hx).1)];unfold plx;by_cases I:tc∈q.qs.map (·.2)
  ·rw[OQ I,OQ I]
  rw[OP I,OP I]
 have hM:=Qa1 S.ok S.p;have m6:=QgS hM.2.2.1 tc;refine Zf (plx (q.qs.map (·.2)) tc) λpi hpi=>?_;rw[hpi]at m5 hw m6;rw[<-hM.2.1]at m6;have hckp:cks q.p.a pi=0:=by
  unfold cks;rw[OP (by rw[(ZF q.p.a).2 hM.1];decide),OP oa]
 refine pq (λ_ U=>(X1 (k:=Kn tc) (kg.m.I U) O O).D (OR (λv=>Result.ok (Next.value v) _) m5))<|p ZK<|pe ?_;refine QQ<|Qx oh oh<|Qa<|Qa<|Qa<|Qw<|(UQ (b:=b) (st:=pi) (vr:=mv) m4.cells).Y ?_;rintro r16 h8 ⟨hs16,c1,c2,c3,rfl,hc1,ku,hc3,hR1,hR2,hR3⟩;refine xe ?_;have hs:=kh.D hs16;have hz1415:=kh.size;have hz16:=hs.size;have ki:=hI14.I hs;have hD16:=hv.I hs;have hB716:=(m1.J T hn7b).I hs;have hB616:=(hR.J hH gb).I hs;have hs516:O1 [E] G h8:=hH.D hs.any;refine Zf (wrf q.c.V.rq tr (enb q.p.a pi)) λfl kj=>?_;rw[kj]at hw;have kk:∀x∈E::ob ve,x<hg.heap.size:=λx hx=>by
  rcases Ll.1 hx with rfl|hx
  ·omega
  have:=(hu x hx).2;omega
 have hSt16:Jr (E::ob ve) b ↑h8 q:=(kg.I hs).up (λx hx=>.inl (m3 x hx));have hIr16:Qt (E::ob ve) ↑h8 mv tr:=(m4.I hs).up (λx hx=>.inl (m3 x hx));have hEv:∀p∈fl,0<=p.1/\p.1<32:=λp hp=>by
  rw[<-kj]at hp;have g1:=(qg.1 hp).1;unfold enb at g1;obtain⟨e,he,g2⟩:=Lz.1 g1;have g3:=hM.1.al _ (hM.1.ed e (ZC he).1).2.2.1;rw[g2]at g3;exact g3
 have hn7L:b7∉E::ob ve:=λI=>by
  rcases Ll.1 I with g1|g1
  ·omega
  have:=(hu b7 g1).2;omega
 have hn6L:b6∉E::ob ve:=λI=>by
  rcases Ll.1 I with g1|g1
  ·omega
  have:=(hu b6 g1).1;omega
 have gx:E∉ob ve:=QJ J.e hA;have hb016:G.heap.size<=h8.heap.size:=oa
 have hel2:es.length+1<=1099511627776:=oa
 have hkb2:(0:Int)<=(k:Int)/\(k:Int)<1099511627776:=oa
 refine ZL<|Qb2 (α:={ x:Int×Int // x∈fl }) (E::ob ve) oa (capt:=[sP c1,sP c2,sP c3]) O (encs:=λx=>[sS x.1.1,sS x.1.2]) og (λ_=>O)
  (VD hR1 hR2 hR3 (λI=>oo (kk _ I)) (λI=>oo (kk _ I)) (λx hx=>oo (kk _ hx)) hSt16 hIr16 (λx hx=>hz.rq x.it (LG hx)) hVr hckp O kj)
  (λpre W=>∃hr hj,O1 (E::ob ve) h8 W/\CmI E ↑G W xa (q.s.a.st+1) xm gj hr g8 hj/\(pre=[]->hr=ve/\hj=es)/\hj.length<=es.length+pre.length)
  (λpre=>Z7.ex λhr=>Z7.ex λhj=>(Z7.J (Lp _)).and (CmI.stb.and ((Z7.pure _).and (Z7.pure _))))
  (λ_ _ _=>False) (λ_ _=>Z7.pure _)
  ⟨ve,es,O1.Z _ _,ki,λ_=>⟨O,O⟩,Lp _⟩
  (λf x f' W=>f'=upd (upd (upd f 98 (sS x.1.1)) 99 (sS x.1.2)) 16 (sS x.1.1)) (λx f'=>Z7.pure _) ?_ ?_ ?_ ?_
 ·rintro l pre ⟨⟨e,i⟩,he⟩ W hW;refine Qx oh oh<|Qb<|⟨O,Xy.refl _ _ _,Lg.Js.refl _ _,hW,O⟩
 ·rintro l pre ⟨⟨e,i⟩,he⟩ f' W ⟨hr,hj,hf,hn,m7,hlen⟩ rfl hN;have m8:pre=[]:=Lu (Nat.lt_one_iff.1 (LP hN hw));rw[((m7 m8).1),((m7 m8).2)]at hn;have m9:=hf.size;have hee:=hEv _ he;refine ZL<|Qx oh oh<|Qr O hn.B O O<|ZA (hB716.J hf hn7L) O O<|Qa<|ZA (hB616.J hf hn6L) O O<|x (QB ⟨O,O,O,Z⟩)<|Qo<|Q5 [Qp ((k:Int),e,q.s.a.st)] λb106 y1 hl hb106 hB106=>?_;have zy1:=hl.size;refine Qo<|Q2 (m:=1) (news:=Qp ((k:Int),e,q.s.a.st)) (L:=[]) (Qm hn.e hl) O O O (hB106.at od) (by simp[Qp,Value.oneCell']) hel2 oa λu y2 gm hL ke=>?_;refine Q7 O<|Qo<|Qv (u:=u) ((hn.B.I hl).J hL gx) O O od (Qz gm) λy3 pc hB3=>xe ?_;have kn:O1 (E::ob ve) W y3:=(hl.any.Q (hL.Y λx hx=>Lm _ hx)).Q (pc.Y od);have hnw:∀x∈ob u,x∈ob ve\/↑W<=x:=λx hx=>(ke x hx).imp id (λh=>oa);refine⟨Xy.J kn m9 (λx hx=>⟨.inl hx,?_⟩),Lg.Js.J kn,u,es++[((k:Int),e,q.s.a.st)],hf.Q kn,hn.addE hA (hl.any.Q hL) gm hnw pc hB3 ⟨hkb2,oe⟩,λh=>OS h od,by simp only[oM,oL];omega⟩;rcases Ll.1 hx with rfl|hx
  ·exact hn.B.cells
  exact Go.Lg.Q3 hn.e x hx
 ·rintro D xs W hD hxs ⟨hr,hj,hf,hn,_,hlen⟩ hdD;have hxl:xs.length=fl.length:=by have g1:=OR oY hxs;rw[Lj]at g1;exact g1
  have m9:=hf.size;refine⟨(gj,hr,hj),ov,hs516.S hf (λx hx=>?_),((hD16.J hf (λx hx=>?_)).up oa).cons oa (show ↑h8<=D from hD) hdD,hn,oe⟩
  ·rcases Ll.1 hx with rfl|hx
   ·exact .inl Lo
   exact .inr (hu x hx).1
  rcases Ll.1 hx with rfl|hx
  ·exact ki.B.cells
  exact Go.Lg.Q3 ki.e x hx
 rintro D e pre W hD hSp hF;exact hF.elim
instance ayZi1:Ay sV 29 3 28 27:=⟨oc,oc⟩
theorem QdX (p:Int×Int):∀u∈Zg p,u.oneCell'=true:=by
 intro y E;simp only[Zg,oJ,oH,or_false]at E;rcases E with rfl|rfl <;> rfl
instance ayAv1:Ay sV 23 5 5 1:=⟨underlying23,oc⟩
def nm1 (c k:Nat):ByteArray:=⟨#[UInt8.ofNat (c+k)]⟩
def Ka (k n:Nat):KX:=if 48<=n/\n<52 then⟨nm1 97 k,false,false,false,(n:Int) - 47⟩else
 ⟨nm1 97 k,decide (((n &&& 1:Nat):Int)=1),decide (((n &&& 2:Nat):Int)=2),decide (((n &&& 4:Nat):Int)=4),0⟩
def Jg (ns:LN)(i:Nat):List KX:=(oK i).map λk=>Ka k (ns.getD k 0)
theorem QcX (ns:LN)(i:Nat):Jg ns (i+1)=Jg ns i++[Ka i (ns.getD i 0)]:=by
 unfold Jg;rw[Nf,Lv];rfl
theorem KT (ns:LN)(i:Nat):(Jg ns i).length=i:=by unfold Jg;simp
theorem Qb3 (hn:ns.length=5)(hb:∀n∈ns,n<256):
  QT sV 82 [sT (bys ns)] w λr w'=>sW w w'/\w'.ownsRow ↑w 94 5 r (Jg ns 5).length ((Jg ns 5).flatMap Zv):=by
 refine Zn func82 ?_;refine Qc<|Zd (bys ns) λb1 w1 hm hJ ho=>Qb<|Qc<|Qb<|Qe<|Qc<|Qb<|QW (α:=Nat×OY) [(3,53)] (λz=>[(3,z.2),(4,sS z.1)]) (λz w'=>z.1<=5/\sW w1 w'/\w'.ownsRow ↑w1 94 5 z.2 (Jg ns z.1).length ((Jg ns z.1).flatMap Zv)) (λz=>5 - z.1) (0,Zo) ov
  ⟨Ln _,O1.Z _ _,QM _ _ _ _⟩ ?_
 rintro⟨k,v⟩ g w2 ⟨hk,V,S⟩;simp only[]at hk S;refine Qe<|Ql<|ZX O O<|xe<|Zp rfl (λh7=>?_) (λh7=>?_)
 ·refine Qu ?_;have ht:k=5:=by have h8:¬(k:Int)<5:=h7;omega
  rw[ht]at S;refine Ql<|Qb<|Qj ⟨[v],La,hm.D V,Q8 S hm.size⟩
 have G:k<5:=by have h8:(k:Int)<5:=h7;omega
 have q:=UJ (ns:=ns) (j:=0+k*1) oa;have ql:=XW hb (0+k*1);have hu:ns.getD (0+k*1) 0=ns.getD k 0:=by rw[show 0+k*1=k by omega]
 rw[hu]at q ql;have hp:=QcX ns k;have hK:=KT ns k;refine Zf (ns.getD k 0) λn hv=>?_;rw[hv]at q ql hp;have hw:=ho.I V;refine Qf<|Qe<|Qn<|Ql<|x (Z9 (k':=.u8) O ⟨oa,oa⟩)<|QC O O<|Qo<|Q5 [[.int .u8 ((97:Int)+(k:Int))]] λhy w3 he hL h0=>?_;have h1:((97:Int)+(k:Int))=((97+k:Nat):Int):=oa
 have h2:QK ↑w3 hy 5 [.int .u8 ((97+k:Nat):Int)]:=by rw[<-h1];exact h0
 refine x (Qmn (n:=97+k) h2 oa O)<|x (QB ⟨O,Z⟩)<|Qo<|YK (us:=[.string ⟨#[]⟩,.bool false,.bool false,.bool false,sS 0]) O λI w4 h3 hM h4=>Q0 (Zv ⟨nm1 97 k,false,false,false,0⟩) h4 ⟨O,O,O,O,O,Z⟩ λw5 h5 hq =>
  xe ?_
 have hf:sW w2 w5:=(he.D h3).O h5 (oo he.size);have J:=hw.I hf;have hN:=hf.size;have hO:=he.size;have hP:=ho.lt;have hQ:=V.size;have hg:b1∉[I]:=ol
 refine QV (α:=Unit) [(16,49)] (λ_=>[]) (λ_ w'=>O1 [I] w5 w'/\QK ↑w' I 94 (Zv (Ka k n))) oh ?_ ?_
 ·refine QV (α:=Bool) [(16,25)] (λz=>[(25,.bool z)]) (λz w'=>w'=w5/\(z=true↔48<=n/\n<52)) oh ?_ ?_
  ·refine Qs<|Qa<|x (ZQ (i:=k) O O G)<|ZA J O q<|xb (Yd O O) (λhh=>?_) (λhh=>?_)
   ·have hr:(48:Int)<=(n:Int):=hh;refine Qa<|Qa<|x (ZQ (i:=k) O O G)<|ZA J O q<|ZX O O<|QA O<|xe<|⟨decide ((n:Int)<52),La,O,?_⟩;rw[decide_eq_true_eq];omega
   have hr:¬(48:Int)<=(n:Int):=hh;refine Qa<|Zy<|J0<|QA O<|xe ?_;exact⟨false,La,O,⟨λh=>(by cases h),λh=>OS oa hr⟩⟩
  rintro z g6 T ⟨rfl,hz⟩;refine Q9 O (λY=>?_) (λY=>?_)
  ·have E:=hz.1 Y;refine Qs<|Qa<|x (ZQ (i:=k) O O G)<|ZA J O q<|x (Z9 (k':=.i64) O ⟨oa,oa⟩)<|x (X9 O O ⟨oa,oa⟩)<|Q7 O<|Qo<|Qv hq O O od rfl λw7 U hj =>
    xe ?_
   refine⟨(),Z,U,?_⟩;unfold Ka;rw[OQ E];exact hj
  have E:¬(48<=n/\n<52):=λh=>by have:=hz.2 h;rw[this]at Y;cases Y
  have ha:sW T { T with drawn:=T.drawn+1 }:=O1.C _ _
  refine ZJ [I] (Y4 0 21 [16,18,20])<|p Qy<|p (λ_=>ZQ (i:=k) O O G)<|pq (λ_ E=>Qk (J.J E hg) O q)<|p (λ_=>qT (a:=n) (b:=1) O O ql og)<|p (λ_=>Q6 O O) <|
   p Qy<|p (λ_=>ZQ (i:=k) O O G)<|pq (λ_ E=>Qk (J.J E hg) O q)<|p (λ_=>qT (a:=n) (b:=2) O O ql og)<|p (λ_=>Q6 O O) <|
   p Qy<|p (λ_=>ZQ (i:=k) O O G)<|pq (λ_ E=>Qk (J.J E hg) O q)<|p (λ_=>qT (a:=n) (b:=4) O O ql og)<|p (λ_=>Q6 O O)<|?_
  refine p (QH O)<|pk<|Qv (hq.I ha) O O od rfl λw7 U hj=>⟨(ha.any (L:=[I])).Q U,?_⟩;refine p (QH O)<|pk<|Qv hj O O od rfl λw8 hs h6=>⟨((ha.any (L:=[I])).Q U).Q hs,?_⟩;refine p (QH O)<|pkk<|Qv h6 O O od rfl λw9 h9 hA=>pe ?_;refine⟨(),Z,(((ha.any (L:=[I])).Q U).Q hs).Q h9,?_⟩;unfold Ka;rw[OP E];exact hA
 rintro _ g6 T ⟨hB,hC⟩;have hD:sW w2 T:=hf.O hB oa;refine Qs<|Qa<|QY hC O O<|Qo<|Q5 [Zv (Ka k n)] λhR hS hE hT hF=>?_;have hl:=hD.D hE;have hU:=hl.size;refine Qo<|Q2 (news:=Zv (Ka k n)) (L:=[]) (Qm S hl) O O O (hF.at od) (Qbs _) oa oa λhG hV hH hI hW =>
  Qb<|Qs<|Qa<|QC O O<|Qb<|⟨(k+1,hG),oe,ov,G,(V.D hl).S hI (λc E=>.inr (Qi S c E).1),?_⟩
 simp only[];rw[hp,Lc,LC];simpa using hH
structure D25 (c:Yl):Prop where
 ev:c.ev.length=5/\Xr c.ev=0
 c0:c.co.length≠0
 c3:c.co.length<=3
 r2:c.rq.length<=2
 co:∀x∈c.co,Xn x.nm=true/\GdA x.a/\∀e∈x.a.al,e<5
 rq:∀x∈c.rq,Xn x.nm=true/\GdA x.a/\∀e∈x.a.al,∃y∈c.co,e∈y.a.al
 nd:(c.co.map (·.nm)++c.rq.map (·.nm)).Nodup
 x2:c.ex.length<=2
 ex:∀x∈c.ex,Xn x.nm=true/\x.ls≠[]/\XD (szs c.co) none x.ls=0
 xn:(c.ex.map (·.nm)).Nodup
 k1:c.cs.length<=1
 cs:∀x∈c.cs,Xn x.nm=true/\Xk (szs c.co) x=0
theorem Qhk:∀{k:Nat},k<5->Xn (nm1 97 k)=true
 | 0,_=>og
 | 1,_=>og
 | 2,_=>og
 | 3,_=>og
 | 4,_=>og
theorem VZ {seen:List ByteArray}{k:Nat}(E:k<5)(G:nm1 97 k∉seen):XM seen (Ka k n)=0:=by
 have I:(Ka k n).nm=nm1 97 k:=by unfold Ka;split <;> rfl
 unfold XM;rw[I,OP (by rw[Qhk E];decide),OP G];unfold Ka;by_cases h:48<=n/\n<52
 ·rw[OQ h];simp only[];rw[OP oa,OP od]
 rw[OP h];simp only[];rw[OP oa,OP od]
theorem Qij (ns:LN):Xr (Jg ns 5)=0:=by
 have e:Jg ns 5=[Ka 0 (ns.getD 0 0),Ka 1 (ns.getD 1 0),Ka 2 (ns.getD 2 0),Ka 3 (ns.getD 3 0),Ka 4 (ns.getD 4 0)]:=rfl;have E:∀k n,(Ka k n).nm=nm1 97 k:=λk n=>by unfold Ka;split <;> rfl
 unfold Xr;rw[OP (by rw[KT];decide),e];simp only[UV,E];rw[VZ og og,VZ og og,VZ og og,VZ og og,VZ og og];simp
theorem Uk {k:IntKind}[h:Ik P t k][h':St P E]{x:OZ}{G:IntKind}(hx:ev f x=.int G n)(I:n<128):
  (execOp (ev f) ⟨d,.convert t E x,ty,pS,af,gd⟩).run P w=.ok (.value (.string ⟨#[UInt8.ofNat n]⟩)) w:=by
 refine qn hx ?_;rw[run_convert_int_string w t E G n (by rw[h.u];rfl) h'.u];have J:Utf8.valid (n:Int)=true:=by
  unfold Utf8.valid;simp;omega
 unfold Utf8.encode;simp only[J,if_true,Ox,I]
theorem QgI {x:OZ}{k:IntKind}{a b:Int}(hx:ev f x=.int k a)(G:ev f y=.int k b)(hb:b≠0):
  (execOp (ev f) ⟨d,.binOp .rem t x y E,ty,pS,af,gd⟩).run P w=.ok (.value (.int k (a.tmod b))) w:=by
 refine JM hx G ?_;simp[binOp,Op.intDiv,hb]
theorem Qkb {e bys:Nat}[h:Sl P t e sz bys z](ha:∀u∈z.cells,u.oneCell'=true){s:OZ}{b o c:Nat}(J:QK ↑w b T cs)(G:∃E,ev f s=.slice (some ⟨b,E,none⟩) m c/\(0<m->E=o/\o+m*sz<=cs.length))
  (hK:∀w' cs',O1 [b] w w'->QK ↑w' b T cs'->cs'.length=cs.length->cs'.take o=cs.take o->K (QO f d (.tuple #[])) w'):XO P ⟨d,.call ⟨.builtin .clear,#[s],#[t]⟩,ty,pS,af,gd⟩ f w K:=by
 obtain⟨E,G,hm⟩:=G;obtain⟨i,hi,hz,hf,_⟩:=Sl.info h;have hc:=h.zs;rcases Nat.eq_zero_or_pos m with rfl|hmp
 ·have S:(execOp (ev f) ⟨d,.call ⟨.builtin .clear,#[s],#[t]⟩,ty,pS,af,gd⟩).run P w=.ok (.value (.tuple #[])) w:=by
   simp[execOp,resolve,invoke,builtin,G,Builtin.clear_,run_underlying h.u]
  exact xv S (hK w cs (O1.Z _ _) J O O)
 obtain⟨rfl,hg⟩:=hm hmp;have he:(Builtin.zeroCells z.cells m).toList.length=m*sz:=by simp[Builtin.zeroCells,hc]
 have U:=run_storeCells_at P b E T (Builtin.zeroCells z.cells m).toList 0 cs.toArray w J (by simp only[Oc];omega) (λu V=>by
  simp only[Builtin.zeroCells,Array.toList_map,OF]at V;obtain⟨j,hj,rfl⟩:=V;have hh:=h.pos;have Y:j % z.cells.size<z.cells.size:=Nat.mod_lt _ oa;rw[getElem!_pos z.cells _ Y];exact ha _ (Array.getElem_mem Y))
 simp only[Oo]at U;obtain⟨I,rfl⟩:∃I,m=I+1:=⟨m - 1,oa⟩;have S:(execOp (ev f) ⟨d,.call ⟨.builtin .clear,#[s],#[t]⟩,ty,pS,af,gd⟩).run P w=.ok (.value (.tuple #[])) (w.setRow b ((cs.take E++(Builtin.zeroCells z.cells (I+1)).toList++cs.drop (E+(Builtin.zeroCells z.cells (I+1)).toList.length))).toArray):=by
  simp[execOp,resolve,invoke,builtin,G,Builtin.clear_,run_underlying h.u,zeroValue,typeInfo,hi,hz]at U ⊢;simp[U]
 refine xv S (hK _ _ (O1.setRow _ _ _) (X8 J) ?_ ?_)
 ·simp only[oM,OD,OC,he];omega
 rw[LE,List.take_append_of_le_length (by simp;omega),List.take_take,Nat.min_self]
theorem KD {α:Type}{sz:Nat}{g:α->LV}(E:∀x,(g x).length=sz):∀(l:List α) (i:Nat) (u:α),i<l.length->(l.set i u).flatMap g=(l.flatMap g).take (i*sz)++g u++(l.flatMap g).drop (i*sz+sz)
 | [],i,u,h=>OS h od
 | a::l,0,u,h=>by
  rw[List.set_cons_zero,LK,LK,Nat.zero_mul,Nu,Mx,LT,List.drop_append_of_le_length (by rw[E a];exact Lp _),Ls (by rw[E a];exact Lp _),Mx]
 | a::l,i+1,u,h=>by
  have G:(i+1)*sz=(g a).length+i*sz:=by rw[E a,Nat.succ_mul];omega
  have I:(i+1)*sz+sz=(g a).length+(i*sz+sz):=oa
  have J:∀(F:LV) k,(g a++F).take ((g a).length+k)=g a++F.take k:=λF k=>by rw[Nv,Lq (l:=g a) oa,MX]
  have S:∀(F:LV) k,(g a++F).drop ((g a).length+k)=F.drop k:=λF k=>by rw[List.drop_append,Ls (l:=g a) oa,Mx,MX]
  rw[List.set_cons_succ,LK,LK,I,G,J,S,KD E l i u (ou h)];simp only[Oq]
theorem Qe9 [h1:Ag P t sz]{g:α->LV}(E:∀x,(g x).length=sz){x:OZ}{e b cap:Nat}{l:List α}{u:α}(h:w.ownsRow base e sz (sL b l.length cap) l.length (l.flatMap g))(hx:ev f x=.pointer (some ⟨b,i*sz,none⟩))(J:ev f y=sT (g u))(hi:i<l.length)(S:ZH (g u))
  (hK:∀w',O1 [b] w w'->w'.ownsRow base e sz (sL b l.length cap) l.length ((l.set i u).flatMap g)->K (QO f d undef) w'):XO P ⟨d,.store t x y,ty,pS,af,gd⟩ f w K:=by
 rcases h.2 with⟨e1,_⟩|⟨g',cap',cur,e1,T,U,G,V,Y,ha⟩
 ·cases e1
 cases e1
 have hB:QK ↑w b e cur.toList:=U;have hf:l.length*sz<=cap*sz:=MI _ G;have hc:(i+1)*sz<=l.length*sz:=MI _ hi;rw[Nat.succ_mul]at hc;have I:cur.toList.length=cap*sz:=by rw[Array.length_toList];exact Y
 refine JO hB hx J (E u) oa S O λw' hs he=>hK w' hs ⟨?_,.inr ⟨b,cap,_,O,T,he,G,V,?_,?_⟩⟩
 ·rw[KD E l i u hi];simp only[oM,OD,OC,E u,h.1];omega
 ·simp only[Oc,oM,OD,OC,E u,I];omega
 have hX:(cur.toList.take (i*sz)++g u).length=i*sz+sz:=by simp only[oM,OD,E u,I];omega
 rw[KD E l i u hi,<-ha];show(cur.toList.take (i*sz)++g u++cur.toList.drop (i*sz+sz)).take (l.length*sz)=_;rw[Nv,Lq oa,hX,List.take_take,M7 oa,List.drop_take]
theorem Qhm (p:Int×Int)(w:OX):QT sV 88 [sT (Zg p)] w λr w'=>r=.bool (decide (p.2=0))/\sW w w':=by
 refine Zn func88 ?_;refine Qc<|Zd (Zg p) λI J E S G=>Qb<|Qc<|Qr O G O O<|x (Q6 O O)<|Qb<|Qj ⟨[_],La,O,E⟩
theorem QkF [Fu sV gp fn]{q:(Int×Int)->Bool}{v:OY}{l:xq}(h:Zs L ↑w v l.length 2 (l.flatMap Zg))
  (G:∀e∈l,∀(E:OX),sW w E->QT sV gp ([sT (Zg e)]++cap) E λr w'=>r=.bool (q e)/\sW E w'):
  QT sV 163 [v,.func (.func gp) #[] cap.toArray] w λr w'=>r=sS (fix q 0 l)/\sW w w' :=
 ixG ⟨_,O,func163⟩ XH (ldA XH) h G
theorem Qe0 {e bys:Nat}[h:Sl P t e sz bys z]{x E:OZ}{b cap:Nat}{k:IntKind}(hx:ev f x=sL b n cap)(G:ev f E=.int k lo)(S:lo<=n):
  (execOp (ev f) ⟨d,.slice t x (some E) none none,ty,pS,af,gd⟩).run P w=.ok (.value (.slice (some ⟨b,if cap=lo then 0 else lo*sz,none⟩) (n - lo) (cap - lo))) w:=by
 obtain⟨i,hi',_,I,_⟩:=Sl.info h;have e2:(Instr.sliceBound (.int k lo) n .sliceB).run P w=.ok lo w:=Yp S;by_cases J:cap=lo
 ·simp[execOp,hx,G,Instr.sliceAt,Instr.slice,run_underlying h.u,Instr.sliceBounds,e2,sizeOf,typeInfo,hi',I,J]
 simp[execOp,hx,G,Instr.sliceAt,Instr.slice,run_underlying h.u,Instr.sliceBounds,e2,sizeOf,typeInfo,hi',I,J,Addr.add];exact λe=>e.symm
theorem Qe1 {e bys:Nat}[h:Sl P t e sz bys z]{x E:OZ}{b cap:Nat}{k:IntKind}(hx:ev f x=sL b n cap)(G:ev f E=.int k hi)(I:hi<=cap):
  (execOp (ev f) ⟨d,.slice t x none (some E) none,ty,pS,af,gd⟩).run P w=.ok (.value (sL b hi cap)) w:=by
 obtain⟨i,hi',_,J,_⟩:=Sl.info h;have e2:(Instr.sliceBound (.int k hi) cap .sliceAcap).run P w=.ok hi w:=Yp I;simp[execOp,hx,G,Instr.sliceAt,Instr.slice,run_underlying h.u,Instr.sliceBounds,e2,sizeOf,typeInfo,hi',Addr.add]
theorem yW {α:Type}(q:α->Bool):∀(l:List α) (i:Nat),(fix q i l=-1/\∀x∈l,q x=false)\/∃k,k<l.length/\fix q i l=((i+k:Nat):Int)/\l.take k=(l.take (k+1)).filter λx=>!q x
 | [],i=>.inl ⟨O,λx h=>by cases h⟩
 | a::l,i=>by
  rw[Yq];by_cases h:q a=true
  ·rw[OQ h];exact .inr ⟨0,od,od,by simp[h]⟩
  rw[OP h];have I:q a=false:=by simpa using h
  rcases yW q l (i+1)with⟨E,G⟩|⟨k,E,G,J⟩
  ·exact .inl ⟨E,λx hx=>by rcases Ll.1 hx with rfl|hx;exact I;exact G x hx⟩
  exact .inr ⟨k+1,ou E,by rw[G];congr 1;omega,by rw[M6,M6,L6,OQ (by simp[I]),<-J]⟩
theorem QdY {e b cap:Nat}(h:w.ownsRow base e sz (sL b n cap) n cs):n<=cap/\∃cur:LV,QK ↑w b e cur/\cur.length=cap*sz/\cur.take (n*sz)=cs:=by
 rcases h.2 with⟨e1,_⟩|⟨g',cap',cur,e1,S,E,G,T,I,J⟩
 ·cases e1
 cases e1
 exact⟨G,cur.toList,E,by rw[Array.length_toList];exact I,J⟩
theorem Qj1 {e b cap k:Nat}{E cur:LV}(h:w.ownsRow base e sz (sL b n cap) n cs)(V:k<=n)(G:QK ↑w' b e cur)(I:cur.length=cap*sz)(J:cur.take (k*sz)=E)(S:E.length=k*sz):
  w'.ownsRow base e sz (sL b k cap) k E:=by
 rcases h.2 with⟨e1,_⟩|⟨g',cap',cur',e1,T,Y,ha,U,he,hf⟩
 ·cases e1
 cases e1
 exact⟨S,.inr ⟨b,cap,cur.toArray,O,T,G,oa,U,by rw[LQ];exact I,J⟩⟩
theorem xC {α:Type}{sz:Nat}{g:α->LV}(E:∀x,(g x).length=sz):∀l:List α,(l.flatMap g).length=l.length*sz
 | []=>od
 | a::l=>by rw[LK,Lc,xC E l,E a,LL,Nat.succ_mul];omega
theorem QdW:∀(l:xq) (k:Nat),(l.flatMap Zg).take (k*2)=(l.take k).flatMap Zg
 | [],k=>od
 | a::l,0=>od
 | a::l,k+1=>by
  rw[show(k+1)*2=k*2+2 by omega,LK,M6,LK,<-QdW l k];rfl
abbrev nzT (l:xq):xq:=l.filter λp=>!decide (p.2=0)
theorem Qk4 {v:OY}{l:xq}(h:w.ownsRow base 193 2 v l.length (l.flatMap Zg))(hl:l.length<=1000):
  QT sV 87 [v,.func (.func 88) #[] #[]] w λr w'=>O1 (ob v) w w'/\w'.ownsRow base 193 2 r (nzT l).length ((nzT l).flatMap Zg):=by
 have hix:=QkF (cap:=[]) (q:=λp=>decide (p.2=0)) (QN (L:=[]) h oa od) (λe _ V _=>Qhm e V);have hr:=yW (λp:Int×Int=>decide (p.2=0)) l 0;rcases h.2 with⟨rfl,Y⟩|⟨g,cap,cur,rfl,hR,_⟩
 ·have h7:l=[]:=Lu Y;subst h7;refine Zn func87 ?_;refine Qc<|Qb<|Ql<|Qa<|Qw<|hix.Y ?_;rintro r1 V ⟨rfl,G⟩;refine Qb<|Qe<|Ql<|x (Q6 O O)<|xe<|Za O (λ_=>?_) (λh8=>OS O h8);refine Ql<|Qb<|Qj ⟨[nS],La,G,Qm h G⟩
 obtain⟨hS,_⟩:=QdY h;refine Zn func87 ?_;refine Qc<|Qb<|Ql<|Qa<|Qw<|hix.Y ?_;rintro r1 V ⟨rfl,G⟩;refine Qb<|Qe<|Ql<|x (Q6 O O)<|xe<|Za rfl (λha=>?_) (λha=>?_)
 ·have h9:nzT l=l:=List.filter_eq_self.2 λp hp=>by
   rcases hr with⟨_,h2⟩|⟨k,_,h2,_⟩
   ·have:=h2 p hp;simpa using this
   have hT:fix (λp:Int×Int=>decide (p.2=0)) 0 l=-1:=ha;omega
  refine Ql<|Qb<|Qj ⟨[sL g l.length cap],La,G.any,?_⟩;rw[h9];exact Qm h G
 refine Exists.elim (hr.resolve_left λa=>ha a.1) λT hc=>?_;have hs:fix (λp:Int×Int=>decide (p.2=0)) 0 l=(T:Int):=by have:=hc.2.1;omega
 refine Qf<|Qe<|Ql<|x (YE (a:=(T:Int)) (b:=1) (OR sS hs) O ⟨oa,oa⟩)<|Qb<|QW (α:=Nat×Nat×xq) [(5,7),(16,35)] (λz=>[(5,sS z.1),(6,sS z.2.1)])
  (λz w'=>z.1<z.2.1/\z.2.1<=l.length/\z.2.2.length=l.length/\z.2.2.take z.1=nzT (l.take z.2.1)/\z.2.2.drop z.2.1=l.drop z.2.1/\O1 [g] w w'/\w'.ownsRow base 193 2 (sL g z.2.2.length cap) z.2.2.length (z.2.2.flatMap Zg))
  (λz=>l.length - z.2.1) (T,T+1,l) ⟨OR sS hs,O,Z⟩
  ⟨Nat.lt_succ_self _,hc.1,O,hc.2.2,O,G.any,Qm h G⟩ ?_
 rintro⟨i,j,ts⟩ g2 w2 ⟨hB,hj,hf,I,hg,ht,J⟩;simp only[]at hB hj hf I hg J;refine Qe<|Ql<|Qa<|x (qS O)<|ZX O O<|xe<|Zp rfl (λhh=>?_) (λhh=>?_)
 ·refine Qu ?_;have hC:j=l.length:=by have hD:¬(j:Int)<(l.length:Int):=hh;omega
  rw[hC,OH]at I;have hv:(nzT l).length=i:=by rw[<-I,LA];omega
  refine Exists.elim (QdY J).2 λhU hw=>?_;have hE:=hw.1;have hF:=hw.2.2;refine Ql<|Qa<|x (Qe0 (lo:=i) O O oa)<|Qo<|Qkb (m:=l.length - i) (o:=i*2) (λu hu=>by simp[Value.cells]at hu;rw[hu];rfl) hE ⟨_,O,λh=>⟨by rw[OP oa],oa⟩⟩ λw3 hV hk hG hW hH=>xe ?_;refine Ql<|Qa<|x (Qe1 (hi:=i) O O oa)<|Qb<|Qj ⟨[sL g i cap],La,ht.Q hk,?_⟩;rw[hv];refine Qj1 J oa hG oa ?_ ?_
  ·rw[hH,<-I,<-QdW,<-hF,List.take_take,M7 oa]
  rw[xC XH,hv]
 have E:j<l.length:=by have hD:(j:Int)<(l.length:Int):=hh;omega
 have hm:j<ts.length:=oa
 have hI:ts[j]'hm=l[j]'E:=by
  have U:=OR (λz=>z[0]?) hg;simp only[List.getElem?_drop,Oo,oU hm,oU E]at U;exact Option.some.inj U
 have hy:ts.drop (j+1)=l.drop (j+1):=by
  have U:=OR (List.drop 1) hg
  rwa [List.drop_drop,List.drop_drop]at U
 have S:nzT (l.take (j+1))=nzT (l.take j)++(if(l[j]'E).2=0 then[]else[l[j]'E]):=by
  unfold nzT;rw[Lh E,LR];by_cases Y:(l[j]'E).2=0 <;> simp[Y]
 have hA:=QN (L:=[]) J oa od;rw[show sL g ts.length cap=sL g l.length cap from by rw[hf]]at hA;refine Qf<|Qe<|Qn<|Ql<|Qa<|O4 XH hA O O hm λhX hn=>?_;rw[hI]at hn;refine Zf (l[j]'E) λe he=>?_;rw[he]at hn S;refine x (QE hn O O)<|QP [sS 0,sS 0] λb7 w3 hk hJ hK=>Q0 (Zg e) hK ov λw4 hL hz=>xe ?_;have hM:sW w2 w4:=hk.O hL hJ;refine Ql<|QY hz O O<|Qo<|xc (first:=[]) (capt:=[]) O<|(Qhm e w4).Y ?_;rintro r5 w5 ⟨rfl,h3⟩;refine x (Zh O)<|xe ?_;have h4:=hM.D h3;have h5:=Qm J h4;have h6:O1 [g] w w5:=ht.D h4.any;refine Q9 rfl (λho=>?_) (λho=>?_)
 ·have hq:¬e.2=0:=by simpa using ho
  rw[OP hq]at S;have hN:w5.ownsRow base 193 2 (sL g ts.length cap) ts.length (ts.flatMap Zg):=h5;refine Ql<|Qa<|QY (hz.I h3) O O<|x (QD (i:=i) O O oa)<|Qo<|Qe9 (u:=e) XH hN (OR (λn=>Value.pointer (some ⟨g,n,none⟩)) (LT (i*2))) O oa ov λw6 hO hP =>
   xe ?_
  refine Qs<|Qa<|QC O O<|Qb<|Qs<|Qa<|QC O O<|Qb ?_;have hQ:(ts.set i e).length=ts.length:=MR;refine⟨(i+1,j+1,ts.set i e),oe,ov,oe,E,oe,?_,?_,h6.Q hO,?_⟩
  ·simp only[];rw[S,<-I,List.set_eq_take_append_cons_drop,OQ oa,Nv,Lq (by rw[LA];omega),LA,M7 oa,MX,M6,Nu]
  ·simp only[];rw[List.drop_set_of_lt oa,hy]
  simp only[];rw[hQ];exact hP
 have hq:e.2=0:=by simpa using ho
 rw[OQ hq,LH]at S;refine Qf<|Qs<|Qa<|QC O O<|Qb<|⟨(i,j+1,ts),oe,ov,oe,E,hf,by rw[S];exact I,hy,h6,h5⟩
instance ayAz1:Ay sV 25 3 24 1:=⟨oc,oc⟩
instance ayAz2:Ay sV 30 2 24 1:=⟨oc,oc⟩
instance ayAz3:Ay sV 31 2 28 27:=⟨oc,oc⟩
instance ayAz4:Ay sV 34 3 33 1:=⟨oc,oc⟩
abbrev X4V:={r:LN // r.length=4/\∀n∈r,n<256}
abbrev Y5 (r:X4V):LV:=bys r.1
theorem qB (r:X4V):(Y5 r).length=4:=by show(bys r.1).length=4;unfold bys;rw[Lj,r.2.1]
structure PlV where
 ns:LN
 vx:OY
 xs:List X4V
 f0:Int
 f1:Int
 f2:Int
 bd:Int
abbrev YZ (l:PlV):LV:=bys l.ns++[l.vx,.int .i8 l.f0,.int .i8 l.f1,.int .i8 l.f2,.int .i8 l.bd]
abbrev i8R (n:Int):Prop:=-128<=n/\n<=127
structure PlA (L:LN)(H:xw)(l:PlV):Prop where
 n:l.ns.length=147
 b:∀n∈l.ns,n<256
 x:Zs L H l.vx l.xs.length 4 (l.xs.flatMap Y5)
 f0:i8R l.f0
 f1:i8R l.f1
 f2:i8R l.f2
 bd:i8R l.bd
theorem Qmq {l:PlV}(h:l.ns.length=147):(YZ l).length=152:=by rw[YZ,Lc,Xi,h];rfl
theorem QgT {l:PlV}(h:l.ns.length=147)(j:Nat):(YZ l)[147+j]?=([l.vx,.int .i8 l.f0,.int .i8 l.f1,.int .i8 l.f2,.int .i8 l.bd]:LV)[j]?:=by
 rw[YZ,Mk (by rw[Xi];omega),Xi,h,MX]
theorem QdS {l:PlV}(h:l.ns.length=147)(E:j<147):(YZ l)[j]?=some (.int .u8 ((l.ns.getD j 0:Nat):Int)):=by
 rw[YZ,LY (by rw[Xi];omega)];exact UJ oa
theorem Qcy {l:PlV}{o:Nat}(j:Nat)(u:OY)(h:(bys ((l.ns.drop o).take m))[j]?=some u):(YZ l)[o+j]?=some u:=by
 have E:=Qli (ns:=l.ns) (o:=o) (n:=m) j u h;have G:=(Mc.1 E).1;rw[YZ,LY G];exact E
theorem Qey {sz:LI}:∀(ls:xq) (pr:Option Int),(∀b,pr=some b->∀p∈ls,b<p.1)->ls.Pairwise (λp q=>p.1<q.1)->(∀p∈ls,0<=p.1/\p.1<(sz.length:Int)/\0<=p.2/\p.2<O2 sz p.1.toNat)->XD sz pr ls=0
 | [],_,_,_,_=>rfl
 | p::ls,pr,G,I,hb=>by
  obtain⟨T,U,V,Y⟩:=hb p Lo;obtain⟨k1,k2⟩:=L2.1 I;have J:zd pr p.1=false:=by
   cases pr with
   | none=>rfl
   | some b=>have:=G b O p Lo;unfold zd;exact OV oa
  rw[XD,OP oa,OP (by rw[J];decide),OP oa];exact Qey ls (some p.1) (λb S q E=>by cases S;exact k1 q E) k2 (λq E=>hb q (Lm _ E))
theorem Qex {sz:LI}:∀(ls:xq) (pr:Option Int),(∀b,pr=some b->∀p∈ls,b<p.1)->ls.Pairwise (λp q=>p.1<q.1)->(∀p∈ls,0<=p.1/\p.1<(sz.length:Int)/\p.2≠0/\-65536<=p.2/\p.2<=65536)->JA sz pr ls=0
 | [],_,_,_,_=>rfl
 | p::ls,pr,G,I,hb=>by
  obtain⟨V,Y,J,h4,h5⟩:=hb p Lo;obtain⟨k1,k2⟩:=L2.1 I;have S:zd pr p.1=false:=by
   cases pr with
   | none=>rfl
   | some b=>have:=G b O p Lo;unfold zd;exact OV oa
  have T:grt p.2=false:=by unfold grt;rw[OV oa,OV oa];rfl
  rw[JA,OP oa,OP (by rw[S];decide),OP (by rw[T];simpa using J)];exact Qex ls (some p.1) (λb U q E=>by cases U;exact k1 q E) k2 (λq E=>hb q (Lm _ E))
theorem QdA (a:Int){b:Int}(h:0<b):-b<a.tmod b/\a.tmod b<b:=⟨Int.lt_tmod_of_pos a h,Int.tmod_lt_of_pos a h⟩
end Go.Lg
