/- Merged out of 60 texts. -/
import Derived.Test.YtpfnhheoeaiomaaGreatDoorPcc
import Derived.Shelf.SlSortCmp.NoneTotal
import Derived.Ground.SlsfProg
import Derived.Tactics
import Derived.ArgAppend
import Derived.Sort.Grow
import Derived.Deep.Draws
import Derived.Sort.Statements
import Derived.Shelf.Lay
import Derived.Tactics2
set_option maxHeartbeats 40000000
set_option maxRecDepth 100000
set_option linter.all false
open Go Go.Lg
open Go.Value renaming int->oB
open Go.IntKind renaming i64->oC
open _root_.List renaming mem_singleton->oF,replicate->oG,not_mem_nil->oH,range->oJ,mem_cons->oK,length_singleton->oL,length_append->oM,range'->oN,getD->oO,length_cons->oQ,map_cons->oS,flatMap_cons->oT,length->oU,getElem?_eq_getElem->oV,cons_append->oZ,getElem?_append_left->Oa,size_toArray->Od,append_assoc->Of,mem_range'_1->Oh,mem_filter->Oi,mem_map->Ol,nil_append->On,append_nil->Oo,getElem_replicate->Oq,singleton_append->Ov,filter_cons->OA,map_nil->OC,length_drop->OF,length_take->OG,take_length->OI,flatMap_nil->OJ,map->OS
open _root_.Bool renaming and_eq_true->oI,false_eq_true->Ok,true_and->OK
open _root_.Array renaming replicate->oP
open _root_.Nat renaming zero_add->oX,add_zero->Ox,le_refl->OE,pow_succ->OH,lt_or_ge->OM,sub_zero->ON,succ_mul->OO,mul_one->OQ
open _root_.Int renaming toNat_natCast->Oy
open _root_.Option renaming map_some->OD
open Go renaming World->O1,Value->O2,Operand->O3,Program->O4
open Go.Proofs Go.Proofs.Tryz
open Go.Proofs.Tryz renaming prog->sV
variable {w w' W':O1}{L L' ds ns av:LN}{n t i sz base T j N E m g id B kt ty G lo et gp bp off M:Nat}{a:Qz}{l o u un hi ul out rs:LI}{cs us cap capt:LV}{α:Type}{y:O3}{va ve vm z vt vl vs v' vk vx vb vr vo vu:O2}{f:Fr}{P:O4}{c:CL}{aa:List Qz}{fn:Func}{s:Int}{lf:Lf}{es ed:List Ed}{K:xx}{d:xE}{pS:String}{af:xC}{gd:xq}{k':IntKind}{q:IV}{ks:List KV}
namespace Go.Lg
theorem Qdq {a b:LI}(U:Qu [] ↑w va a)(hb:Qu [] ↑w vb b)(hl:a.length+b.length<=1000):
  QR sV 84 [va,vb] w λr w'=>sW w w'/\∃l,l.length<=a.length+b.length/\(∀x,x∈l↔x∈a\/x∈b)/\Qi 3 ↑w w' r l:=by
 refine Zm func84 ?_;refine Qc<|Qb<|Qk<|Qv<|(ZZ U).S ?_;rintro v1 w1 ⟨G,I⟩;have ho:=G.size;refine Qa<|Qo<|QaL I O (hb.I G) O (Uj b) oa oa λV J Y he hp=>Qb ?_;have S:Qi 3 ↑w J V (a++b):=by
  unfold Qi;rw[Lc,Lv];exact Y
 have hf:sW w J:=G.O he (λc E=>.inr (Qj I c E).1);have hq:(a++b).length=a.length+b.length:=Lc;refine Qk<|Qv<|(Qh1 S oa).S ?_;rintro r3 w3 ⟨hg,l3,hr,hh,T⟩;have hj:sW w w3:=hf.O hg (λc E=>.inr (Qj S c E).1);refine xe<|Qk<|Qv<|(Qm9 T oa).S ?_;rintro r4 w4 ⟨hk,l4,hs,hm,hn⟩;refine Qb<|Qh ⟨[_],La,hj.O hk (λc E=>.inr (Qj T c E).1),l4,oa,λx=>by rw[hm,hh,Lh],hn⟩
theorem yi {v:O2}{al:LI}(h:Qu [] ↑w v al)(hb:∀e∈al,0<=e/\e<32)(hi:YA al)(hn:ns.length=27)(S:∀n∈ns,n<256):
  QR sV 85 [v,sT (bys ns),sS 3] w λr w'=>sW w w'/\∃a:Qz,YT ↑w ↑w' r a/\GdA a/\a.al=al:=by
 refine Zm func85 ?_;refine Qc<|Za (bys ns) λb4 w1 hh hj E=>QN [nS,sS 0,nS,nS] λb6 w2 G hr T=>xe ?_;obtain⟨s0,hk⟩:∃s0,ns.getD 0 0=s0:=⟨_,O⟩;have U:ns[0]?=some s0:=by
  rw[<-hk,List.getD_eq_getElem?_getD,LE oa];rfl
 have hs:s0<256:=S s0 (Ml U);have q0:(bys ns)[0]?=some (.int .u8 (s0:Int)):=by
  unfold bys;rw[MC,U];rfl
 have ht:=E.lt;have hu:=T.lt;refine Qc<|Qq O (E.I G) O q0<|Qa<|x (Yh (k':=.u8) O ⟨oa,oa⟩)<|x (zP (a:=(s0:Int)) (b:=3) O O oa oa)<|Zc O<|Qo<|Qw (u:=.int .u8 ((s0 % 3:Nat):Int)) (E.I G) O (OV (Value.int .u8) (by omega:(s0:Int) % 3=((s0 % 3:Nat):Int))) (by rw[Xx];omega) O λw3 I V =>
  xe ?_
 have J:sW w w3:=(hh.D G).Q I hj;rw[Qkz]at V;have Y:(ns.set 0 (s0 % 3)).length=27:=by rw[MX];exact hn
 have ha:(ns.set 0 (s0 % 3)).getD 0 0=s0 % 3:=Qh3 oa;refine Qk<|QV V O (by rw[Xx];exact Y)<|Qv<|(QgB (h.I J) hb hi Y (Qlv S oa)).S ?_;rintro r4 w4 ⟨he,a,hA,hok,_,hm,hc⟩;obtain⟨a0,k0,k1,k2,k3⟩:=hc (by rw[ha];omega);rw[ha]at k2;obtain⟨us,hv,hf,ho⟩:=Y9 hA;have hp:QL ↑w4 b6 53 [nS,sS 0,nS,nS]:=(T.J I ol).I he;have hw:=I.size;refine Qo<|Zj (us:=us) hp O (show Go.Lg.ev _ _=_ from hv) hf O ho λw5 hg hq=>xe ?_;refine Qh ⟨[sT us],⟨⟨_,O,ZF hf (hq.at (L:=[]) od).cells⟩,Z⟩,(J.D he).Q hg oa,a,?_,GdA.of k0 k1 k2 k3 (Nat.mod_lt _ og),hm⟩;show YT _ _ (sT us) _;rw[<-hv];exact(Y8 hA oa hg).S J.size
open Go.Sort
theorem QoB {b:Nat}{al:LI}(e:Int)(w:O1)(E:QL ↑w b T [va])(hA:Qu L ↑w va al):
  QR sV 86 ([sS e]++[sP b]) w λr w'=>r=.bool (decide (e∉al))/\w'=w:=by
 refine Zm func86 ?_;refine Qc<|Qb<|Qc<|ZE E O O<|Qa<|Qv<|(ZK hA e).S ?_;rintro G I ⟨rfl,rfl⟩;refine x (Zl O)<|Qb<|Qh ⟨[_],La,?_,O⟩;show Value.bool (!decide (e∈al))=_;rw[decide_not]
theorem jJ {b:Nat}{al:LI}(e:Int)(w:O1)(G:QL ↑w b T [va])(hA:Qu L ↑w va al):
  FnGives sV 86 #[sP b] #[iC e] (.bool (decide (e∉al))) w:=by
 have h:=QoB e w G hA;unfold QR at h;unfold FnGives;refine Calls.mono h λe' w' E=>?_;cases e' with
 | returned v =>
  obtain⟨rfl,rfl⟩:=E;exact⟨O,0,O⟩
 | _=>exact E.elim
theorem Qij {os:xA}{d:Array Int}:O5 [g] w (grow (putRow iC (Sort.ahead w n) g 0 d) os):=by
 have E:(grow (putRow iC (Sort.ahead w n) g 0 d) os).heap=w.heap.modify g (onCells (putCells iC 0 d))++os:=rfl;refine⟨O,O,O,?_,λi hi G=>?_⟩
 ·rw[E,Nw,MD];omega
 rw[E,Mz,MD,OU hi,MW,OT (λe=>G (by simp[e]))]
theorem QmZ {b:Nat}{v:O2}{al:LI}(h:Qi 3 base w v l)(hl:l.length<=1099511627776)(J:QL ↑w b T [va])(hb:b∉ob v)(hA:Qu (ob v) ↑w va al):
  QR sV 63 [v,.func (.func 86) #[] #[sP b]] w λr w'=>O5 (ob v) w w'/\Qi 3 base w' r (l.filter λx=>decide (x∈al)):=by
 have eg:∀args w,(callFunc 86 args).run sV w=.ok (.enter 86 args) w:=enters_of func86 oc O;rcases h.2 with⟨rfl,h0⟩|⟨g,cap,cur,rfl,ha,S,hh,hj,hm,hn⟩
 ·have ho:l=[]:=Lt h0;subst ho;refine Zm func63 ?_;refine Qc<|Qb<|Qk<|Qa<|Qv<|(QdX (cap:=[sP b]) (q:=λ_=>true) (Qu.fl (QaP [] ↑w)) (λe G=>by cases G)).S ?_;rintro r1 w1 ⟨rfl,U⟩;refine Qb<|Qd<|Qk<|x (Zd O O)<|xe<|Zi O (λ_=>?_) (λh8=>OW O h8);refine Qk<|Qb<|Qh ⟨[nS],La,U,Qm h U⟩
 unfold QR;have V:=λ(n:Nat) (os:xA) (d:Array Int)=>Qij (w:=w) (g:=g) (n:=n) (os:=os) (d:=d);have hp:b∉[g]:=hb;have hq:Qu [g] ↑w va al:=hA;have I:=AnyE.slices_DeleteFunc Tryz.delI iC (λ_=>O) (λx=>decide (x∉al)) 86 #[sP b] eg 0 (λw=>oc) g 0 cap l.toArray w
  (λW x E=>by
   have Y:sW w W:=⟨E.os,E.tape,E.output,E.size,λk hk _=>E.block k hk⟩;exact jJ x W (J.I Y) (hA.I Y))
  (λn os dk x _=>jJ x _ (J.J (V n os dk) hp) (hq.st (V n os dk)))
  (J8 S hn) (by simp;omega) (ou hh)
 change Calls sV 63 _ _ _ at I;rw[LW]at I;refine Calls.mono I λe w' G=>?_;obtain⟨rfl,q,rfl⟩:=G;have hf:(l.toArray.toList.filter λx=>!decide (x∉al))=l.filter λx=>decide (x∈al):=by
  refine Nx λx _=>?_;by_cases hx:x∈al <;> simp[hx]
 rw[hf];have hr:=LJ (λx=>decide (x∈al)) l;generalize (l.filter λx=>decide (x∈al))=u at *;have:=Ui (e:=3) (n:=q) (k:=u.length) (os:=#[]) (d:=(u++oG (l.length - u.length) 0).toArray) ha S (by simp;omega) hj hm od;rw[grow_empty]at this;refine⟨this.1,?_⟩;have h2:=this.2;have h3:(u++oG (l.length - u.length) 0).toArray.toList.take u.length=u:=od
 rw[h3]at h2;exact h2
theorem Qcs {e:Int}{q:Bool}(h:QR sV gp ([sS e]++cap) w λr w'=>r=.bool q/\w'=w):FnGives sV gp cap.toArray #[iC e] (.bool q) w:=by
 unfold QR at h;unfold FnGives;have e0:#[iC e]++cap.toArray=([iC e]++cap).toArray:=od
 rw[e0];refine Calls.mono h λe' w' E=>?_;cases e' with
 | returned v =>
  obtain⟨rfl,rfl⟩:=E;exact⟨O,0,O⟩
 | _=>exact E.elim
theorem QfJ [Fu sV gp fn]{p:Int->Bool}{v:O2}(eg:∀args w,(callFunc gp args).run sV w=.ok (.enter gp args) w)(h:Qi 3 base w v l)(hl:l.length<=1099511627776)
  (G:∀(e:Int) (W:O1),O5 (ob v) w W->QR sV gp ([sS e]++cap) W λr w'=>r=.bool (p e)/\w'=W):
  QR sV 63 [v,.func (.func gp) #[] cap.toArray] w λr w'=>O5 (ob v) w w'/\Qi 3 base w' r (l.filter λx=>!p x):=by
 rcases h.2 with⟨rfl,Y⟩|⟨g,cp,cur,rfl,ha,S,hh,hj,hm,hn⟩
 ·have ho:l=[]:=Lt Y;subst ho;refine Zm func63 ?_;refine Qc<|Qb<|Qk<|Qa<|KS<|(QdX (cap:=cap) (q:=λ_=>true) (Qu.fl (QaP [] ↑w)) (λe I=>by cases I)).S ?_;rintro r1 w1 ⟨rfl,T⟩;refine Qb<|Qd<|Qk<|x (Zd O O)<|xe<|Zi O (λ_=>?_) (λh8=>OW O h8);refine Qk<|Qb<|Qh ⟨[nS],La,T,Qm h T⟩
 unfold QR;have hp:=λ(n:Nat) (os:xA) (d:Array Int)=>Qij (w:=w) (g:=g) (n:=n) (os:=os) (d:=d);have U:∀(e:Int) (W:O1),O5 [g] w W->QR sV gp ([sS e]++cap) W λr w'=>r=.bool (p e)/\w'=W:=G;have J:=AnyE.slices_DeleteFunc Tryz.delI iC (λ_=>O) p gp cap.toArray eg 0 (λw=>oc) g 0 cp l.toArray w
  (λW x E=>Qcs (U x W ⟨E.os,E.tape,E.output,E.size,λk G _=>E.block k G⟩))
  (λn os dk x _=>Qcs (U x _ (hp n os dk)))
  (J8 S hn) (by simp;omega) (ou hh)
 change Calls sV 63 _ _ _ at J;rw[LW]at J;refine Calls.mono J λe w' I=>?_;obtain⟨rfl,q,rfl⟩:=I;have hf:(l.toArray.toList.filter λx=>!p x)=l.filter λx=>!p x:=rfl;rw[hf];have hq:=LJ (λx=>!p x) l;generalize (l.filter λx=>!p x)=u at *;have:=Ui (e:=3) (n:=q) (k:=u.length) (os:=#[]) (d:=(u++oG (l.length - u.length) 0).toArray) ha S (by simp;omega) hj hm od;rw[grow_empty]at this;refine⟨this.1,?_⟩;have V:=this.2;have h3:(u++oG (l.length - u.length) 0).toArray.toList.take u.length=u:=od
 rw[h3]at V;exact V
theorem jm {V:VwV}(h:VwA ↑w V):
  QR sV 60 [.pointer (some ⟨V.b,0,none⟩)] w λr w'=>sW w w'/\Qi 3 ↑w w' r (kpt V.a V.o):=by
 refine Zm func60 ?_;refine Qc<|Za [.pointer (some ⟨V.b,0,none⟩)] λY w1 G hc I=>Qb ?_;have E:=h.I G;refine Qc<|ZE I O O<|Z6 O<|Zc O<|Qq O E.blk O O<|Qv<|(ZZ E.a.al).S ?_;rintro v2 w2 ⟨J,S⟩;have hge:=Qj S;refine x (Zn (l:=[]) (l':=[.tmp 1]))<|Qv<|(QfJ (gp:=138) (cap:=[sP Y]) (p:=λe=>!decide (e∈V.o)) (enters_of func138 oc O) S E.a.al.le
  (λe W hW=>have T:=J.O hW λb hb=>.inr (hge b hb).1;Qdo (E.I T) (I.I T) e)).S ?_
 rintro v3 w3 ⟨ha,U⟩;refine Qb ?_;have e:(V.a.al.filter λx=>!!decide (x∈V.o))=kpt V.a V.o:=by unfold kpt;simp
 rw[e]at U;exact Qh ⟨[_],La,G.D (J.O ha λb hb=>.inr (hge b hb).1),Zf U G.size⟩
theorem Qhw {b:Nat}{v:Int}(G:QL ↑w b 3 [sS v])(e:Ed):
  QR sV 210 [sT (Qp e),sP b] w λr w'=>r=.bool (decide (e.2.1=v))/\sW w w':=by
 refine Zm func210 ?_;refine Qc<|Za (Qp e) λJ S E T I=>Qb<|Qc<|Qq O I O O<|ZE (G.I E) O O<|x (Zd O O)<|Qb<|Qh ⟨[_],La,O,E⟩
theorem Qps [Fu sV gp fn]{q:Ed->Bool}{v:O2}{l:List Ed}(h:UP L ↑w v l)
  (G:∀(e:Ed) (E:O1),sW w E->QR sV gp ([sT (Qp e)]++cap) E λr w'=>r=.bool (q e)/\sW E w'):
  QR sV 209 [v,.func (.func gp) #[] cap.toArray] w λr w'=>r=.bool (l.any q)/\sW w w':=by
 refine Zm func209 ?_;refine Qc<|Qb<|Qk<|Qa<|KS<|(ixG (c:=Qp) ⟨_,O,func159⟩ (λ_=>O) (ldA λ_=>O) h λe _=>G e).S ?_;rintro J E ⟨rfl,I⟩;refine x (Yl O O)<|Qb<|Qh ⟨[_],La,OV Value.bool (UA q l 0),I⟩
theorem Qhx {V:VwV}{b c:Nat}{v:Int}(h:VwA ↑w V)(S:QL ↑w c 128 [.pointer (some ⟨V.b,0,none⟩)])(T:QL ↑w b 3 [sS v])(s:Int)(h0:0<=s)(h1:s<V.a.st):
  QR sV 208 [sS s,sP c,sP b] w λr w'=>r=.bool ((QQ V.a.ed s).any λe=>decide (e.2.1=v))/\sW w w':=by
 obtain⟨rv,hA,hE⟩:=h.r;have G:s=(s.toNat:Int):=oa
 have E:s.toNat<(oJ V.a.st.toNat).length:=by rw[L9];omega
 have I:=hE s.toNat (by rw[L9]at E;exact E);rw[<-G]at I;refine Zm func208 ?_;refine Qc<|Qb<|Qc<|ZE S O O<|Z6 O<|Qq O h.blk O O<|Qa<|O8 (g:=λj:Nat=>[rv j]) (i:=s.toNat) (λ_=>O) hA O (show Go.Lg.ev _ _=_ from OV sS G) E λha J=>?_;rw[Mr]at J;refine x (Qr J O)<|x (Zn (l:=[]) (l':=[.tmp 2]))<|Qv<|(Qps (q:=λe=>decide (e.2.1=v)) (cap:=[sP b]) I (λe w1 U=>Qhw (T.I U) e)).S ?_;rintro r2 w2 ⟨rfl,Y⟩;refine Qb<|Qh ⟨[_],La,O,Y⟩
theorem Qby {V:VwV}{b c:Nat}{v:Int}(h:VwA ↑w V)(I:QL ↑w c 128 [.pointer (some ⟨V.b,0,none⟩)])(J:QL ↑w b 3 [sS v])(hl:Qu [] ↑w vl l)(hb:∀s∈l,0<=s/\s<V.a.st):
  QR sV 207 [vl,sP c,sP b] w λr w'=>r=.bool (psb V.a v l)/\sW w w':=by
 refine Zm func207 ?_;refine Qc<|Qb<|Qk<|x (Zn (l:=[]) (l':=[.tmp 1,.tmp 2]))<|Qv<|(Qel (q:=λs=>(QQ V.a.ed s).any λe=>decide (e.2.1=v)) (cap:=[sP c,sP b]) (Qu.fl hl) (λs G T E=>Qhx (h.I E) (I.I E) (J.I E) s (hb s G).1 (hb s G).2)).S ?_;rintro r2 U ⟨rfl,S⟩;refine Qb<|Qh ⟨[_],La,O,S⟩
theorem Qhz {V:VwV}{c:Nat}{vy:O2}{X Y:LI}(h:VwA ↑w V)(I:QL ↑w c 128 [.pointer (some ⟨V.b,0,none⟩)])(hx:Qu [] ↑w vx X)(J:Qu [] ↑w vy Y):
  QR sV 205 [vx,vy,sP c] w λr w'=>r=.bool (QbX V.a X Y)/\sW w w':=by
 refine Zm func205 ?_;refine Qc<|Qb<|QX (α:=Unit) [(5,14)] (λ_=>[(5,.bool (QbX V.a X Y))]) (λ_ w'=>sW w w') oh ?_ ?_
 ·refine Qs<|ZE I O O<|Qa<|Qv<|(jl h hx).S ?_;rintro U w1 ⟨G,E⟩;unfold QbX;cases hb:mkd V.a X with
  | true =>
   rw[hb]at G;subst G;refine Qa<|ZE (I.I E) O O<|Qa<|Qv<|(jl (h.I E) (J.I E)).S ?_;rintro r2 w2 ⟨rfl,S⟩;refine x (Zl O)<|QB O<|Qb<|⟨(),La,E.D S⟩
  | false =>
   rw[hb]at G;subst G;refine Qa<|Zq<|Kt<|QB O<|Qb<|⟨(),La,E⟩
 rintro _ g w3 T;exact Qh ⟨[_],La,O,T⟩
instance:Bw sV 46 [nS,nS,nS,nS,nS] [(0,1),(1,1),(2,1),(3,1),(4,1)]:={}
end Go.Lg
namespace Go.Proofs
open Go.Proofs.Tryz
open Go.Shelf
def Tryz.sortRm_ren:Go.Shelf.Ren:=⟨λ|6=>224|15=>141|14=>265|28=>220|29=>221|20=>287|21=>288|22=>289|23=>290|24=>291|25=>292|26=>293|27=>294|46=>311|47=>258|48=>259|49=>312|50=>313|57=>322|n=>n,λ|22=>144|24=>323|25=>329|3=>3|39=>246|0=>0|53=>317|55=>319|4=>4|46=>311|45=>310|50=>205|5=>5|9=>9|66=>363|70=>367|76=>389|77=>379|n=>n,λ|n=>n⟩
theorem Tryz.sortRm:Go.Proofs.SlLaysF0.n6 sV Tryz.sortRm_ren:=lyS
end Go.Proofs
namespace Go.Lg
open Go.Lg Go.Sort
abbrev Rz:={ x:Int×Int×Int×Int // 0<=x.1/\x.1<4096 }
instance:Inhabited Rz:=⟨⟨(0,0,0,0),og⟩⟩
abbrev qP (x:Rz):LV:=[sS x.1.1,sS x.1.2.1,sS x.1.2.2.1,sS x.1.2.2.2]
abbrev RzO (base:Nat)(w:O1)(v:O2)(l:List Rz):Prop:=w.ownsRow base 323 4 v l.length (l.flatMap qP)
theorem QqS (x y:Rz)(W:O1):Calls sV 225 #[sT (qP x),sT (qP y)] W λe w'=>e=.returned (sS (x.1.1 - y.1.1))/\∃q os',w'=grow (W.drewN q) os':=by
 have E:IntKind.i64.wrap (x.1.1 - y.1.1)=x.1.1 - y.1.1:=XQ ⟨oq x.2 y.2,oq x.2 y.2⟩
 go_enter func225,ntmps225
 go_wp2
 go_ret;exact⟨by rw[<-E];rfl,0,_,by rw[alloc_eq_grow,alloc_eq_grow,grow_grow];rfl⟩
theorem Qav (x:Rz):(qP x).length=4:=rfl
theorem Qau:∀l:List Rz,(l.flatMap qP).length=l.length*4
 | []=>rfl
 | x::l=>by rw[LK,Lc,Qau l,Qav,LL];omega
theorem Qe1 {l:List Rz}(J:j<l.length*4):(l.flatMap qP)[j]?=some ((flatK qP 4 l.toArray)[j]!):=by
 have E:j / 4<l.length:=Nat.div_lt_of_lt_mul oa;have G:j % 4<4:=Nat.mod_lt _ og;rw[get_flatK _ _ _ _ (ou J)];have S:(l.flatMap qP)[j]?=(qP (l[j / 4]'E))[j % 4]?:=by
  rw[<-(Jf qP 4 Qav l (j / 4) E),L2,OU G,MG];congr 1;omega
 rw[S];have T:(l.toArray)[j / 4]! = l[j / 4]'E:=by simp[E]
 rw[T];have I:j % 4<(qP (l[j / 4]'E)).length:=G;exact(LE I).D (OV some (getElem!_pos (qP (l[j / 4]'E)) (j % 4) I).symm)
theorem Qh4:SWO (ltOf λx y:Rz=>x.1.1 - y.1.1) where
 irrefl x:=by unfold ltOf;simp
 trans x y z h1 h2:=by unfold ltOf at *;simp at *;omega
 ntrans x y z h1 h2:=by unfold ltOf at *;simp at *;omega
def qO (l:List Rz):List Rz:=(pdq (ltOf λx y:Rz=>x.1.1 - y.1.1) l.toArray 0 l.toArray.size (Go.Lib.bitLen l.toArray.size) true true).toList
theorem zG (l:List Rz):(qO l).length=l.length:=by
 unfold qO;simpa using((pdq_sorts (ltOf λx y:Rz=>x.1.1 - y.1.1) Qh4 l.toArray 0 l.toArray.size (Go.Lib.bitLen l.toArray.size) true true (Lo _) (Lp _) (Or.inl rfl)).1.1)
theorem Qge {v:O2}{l:List Rz}(h:RzO base w v l)(hl:l.length<=1099511627776):
  QR sV 224 [v,.func (.func 225) #[] #[]] w λ_ w'=>O5 (ob v) w w'/\RzO base w' v (qO l):=by
 unfold QR;rcases h.2 with⟨rfl,h0⟩|⟨g,cap,cur,rfl,hf,J,hh,hm,ho,hp⟩
 ·have hq:l=[]:=Lt h0;subst hq;have I:=AnyF.slices_SortFunc_none Tryz.sortRm none 0 (.func (.func 225) #[] #[]) w;change Calls sV 224 _ _ _ at I;refine Calls.mono I λe w' S=>?_;obtain⟨rfl,rfl⟩:=S;rw[show qO []=[] from Lt (zG [])];exact⟨O5.Y _ _,h⟩
 have Y:g<w.heap.size:=(LH.1 J).1;have hH:HoldsK qP 4 w g 0 l.toArray:=by
  intro j E;rw[size_flatK,LW]at E;have h1:=Qe1 E;rw[<-hp,L2,OU E]at h1;constructor
  ·show(match w.heap[g]? with|some (.cells c _ _)=>if(none:Option _).isSome then none else c[0+j]?|_=>none)=_
   rw[J];simp only[oX,Option.isSome_none,Ok,if_false];rw[<-MM,h1];rfl
  show(match w.heap[g]? with|some (.cells _ _ (lo,hi))=>decide (lo<=0+j) && decide (0+j<hi)|_=>false)=false
  rw[J];simp
 have eg:∀args w,(callFunc 225 args).run sV w=.ok (.enter 225 args) w:=enters_of func225 oc O;have I:=AnyQ.slices_SortFunc_eq Tryz.sortRm 4 isAgg323 sizeOf323 qP Qav (λx v hv=>by simp at hv;rcases hv with rfl|rfl|rfl|rfl <;> rfl) (λx y=>x.1.1 - y.1.1) Qh4 225 #[] g 0 cap l.toArray w eg (λm os dk _ x y=>QqS x y _) hH Y (by simp;omega)
 change Calls sV 224 _ _ _ at I;rw[LW]at I;refine Calls.mono I λe w' S=>?_;obtain⟨rfl,n,os,rfl⟩:=S;refine Zg (qO l).toArray λG T=>?_;have U:G.size=l.length:=by rw[<-T];simpa using zG l
 have hr:qO l=G.toList:=by rw[<-T]
 have ha:pdq (ltOf λx y:Rz=>x.1.1 - y.1.1) l.toArray 0 l.toArray.size (Go.Lib.bitLen l.toArray.size) true true=G:=by rw[<-T];unfold qO;simp
 rw[LW]at ha;rw[ha,hr];have V:(sortWorldK qP 4 w g 0 n G os).heap=w.heap.modify g (onCells (putCells id 0 (flatK qP 4 G)))++os:=rfl;refine⟨⟨rfl,O,O,?_,λk hk hn=>?_⟩,?_⟩
 ·rw[V,Nw,MD];omega
 ·rw[V,Mz,MD,OU hk,MW,OT (λe=>hn (by simp[ob,e]))]
 refine⟨Qau _,.inr ⟨g,cap,putCells id 0 (flatK qP 4 G) cur,by simp[U],hf,?_,by simp[U];exact hh,hm,by simp[putCells,ho],?_⟩⟩
 ·rw[V,Mz,MD,OU Y,MW,OU rfl,J];rfl
 apply Nn;intro j;rw[L2];by_cases E:j<G.toList.length*4
 ·rw[OU E,Qe1 E,MM];have hs:j<cur.size:=by simp[U]at E;omega
  have ht:j<(flatK qP 4 G).size:=by simpa using E
  simp only[putCells,Array.getElem?_mapIdx,Array.getElem?_eq_getElem hs,OD,Nat.zero_le,oX,true_and,OU ht,ON,id]
 rw[OT E,Mq];rw[Qau];omega
theorem Qou (G:Q0 a)(S:a.st=(n:Int))(hl:lf.length=n):∀x∈nxs a ul lf,0<=x/\x<(n:Int):=λx hx=>by
 have E:=QiS x hx;have T:x.toNat<n:=by
  refine Decidable.byContradiction λh=>?_;unfold lft at E;simp[oO,List.getElem?_eq_none (show lf.length<=x.toNat by omega)]at E
 unfold nxs at hx;split at hx
 ·obtain⟨p,I,rfl⟩:=Ly.1 hx;obtain⟨_,e,J,U,_⟩:=(QaT a ul lf).1 p I;have:=G.ed e J;omega
 have:=((UK lf (dsts a lf) 0).1 x hx).2;omega
abbrev Q4:=Int×Int×Int×Int
abbrev q4C (x:Q4):LV:=[sS x.1,sS x.2.1,sS x.2.2.1,sS x.2.2.2]
def Qn4 (x:Q4):Rz:=if h:0<=x.1/\x.1<4096 then⟨x,h⟩else default
theorem QbD:∀l:List Rz,(l.map (·.1)).map Qn4=l
 | []=>rfl
 | x::l=>by
  rw[LS,LS,QbD l];congr 1;unfold Qn4;rw[dif_pos x.2]
theorem QmG (l:List Rz):(l.map (·.1)).flatMap q4C=l.flatMap qP:=by rw[List.flatMap_map]
def rmR (rk:Int)(r:Int×xw):List Q4:=r.2.map λp=>(p.1,rk,r.1,p.2)
def rmL (a:Qz)(ul:LI):Nat->Int->Lf->List Q4
 | 0,_,_=>[]
 | f+1,rk,lf=>if(nxs a ul lf).length=0 then[]else rmR rk (nxR a ul lf)++rmL a ul f (rk+1) ((nxs a ul lf).foldl cut lf)
theorem Qh8 {f:Nat}{rk:Int}(h:(nxs a ul lf).length=0):rmL a ul f rk lf=[]:=by
 cases f with
 | zero=>rfl
 | succ f=>rw[rmL,OU h]
theorem Qh7 {f:Nat}{rk:Int}(h:(nxs a ul lf).length≠0):rmL a ul (f+1) rk lf=rmR rk (nxR a ul lf)++rmL a ul f (rk+1) ((nxs a ul lf).foldl cut lf):=by rw[rmL,OT h]
def rmF (fb:LI):List Q4:=fb.map λy=>(y,1,1,-1)
def rmA (a:Qz)(fb ul:LI):List Q4:=rmF fb++rmL a ul (a.st.toNat+1) 2 (lf0 a.st.toNat fb)
def rmS (a:Qz)(fb ul:LI):List Q4:=(qO ((rmA a fb ul).map Qn4)).map (·.1)
def kpI (lf:Lf)(n:Nat):LN:=(oJ n).filter λi=>lf.getD i false
def kpK (lf:Lf)(n:Nat):LI:=(kpI lf n).map λi:Nat=>(i:Int)
def kpD (lf:Lf)(D:LI)(n:Nat):LI:=(kpI lf n).map λi=>O6 D i
theorem Qqz (h:lf.getD n false=true):kpI lf (n+1)=kpI lf n++[n]:=by
 unfold kpI;rw[Nf,LT,L5,OU h];rfl
theorem QqA (h:lf.getD n false=false):kpI lf (n+1)=kpI lf n:=by
 unfold kpI;rw[Nf,LT,L5,OT (by rw[h];decide)];exact LF _
structure Qbr (L:LN)(H:xA)(c0 c1 c2:O2)(a:Qz)(fb ul:LI):Prop where
 k:Qu L H c0 (kpK (zN a fb ul) a.st.toNat)
 d:Qu L H c1 (kpD (zN a fb ul) (dsts a (zN a fb ul)) a.st.toNat)
 r:Zt L H c2 (rmS a fb ul).length 4 ((rmS a fb ul).flatMap q4C)
theorem Qbr.st {L:LN}{w w':O1}{c0 G I:O2}{a:Qz}{fb ul:LI}(h:Qbr L ↑w c0 G I a fb ul)(E:O5 L w w'):Qbr L ↑w' c0 G I a fb ul:=⟨h.k.st E,h.d.st E,h.r.st E⟩
theorem Qbr.up {L L':LN}{H:xA}{c0 G I:O2}{a:Qz}{fb ul:LI}(h:Qbr L H c0 G I a fb ul)(E:∀b∈L',b∈L\/H.size<=b):Qbr L' H c0 G I a fb ul:=⟨h.k.up E,h.d.up E,h.r.up E⟩
theorem QnB {rk rs:Int}:∀(l:xw),(∀x∈l.map (·.1),0<=x/\x<4096)->∃lz:List Rz,lz.flatMap qP=l.flatMap (rmC rk rs)/\lz.length=l.length/\lz.map (·.1)=rmR rk (rs,l)
 | [],_=>⟨[],O,O,O⟩
 | x::l,h=>by
  obtain⟨lz,E,G,I⟩:=QnB (rk:=rk) (rs:=rs) l (λy J=>h y (Lk _ J));exact⟨⟨(x.1,rk,rs,x.2),h x.1 Lm⟩::lz,by rw[LK,LK,E],by simp[G],by rw[LS,I];rfl⟩
theorem Qfd:∀l:List Rz,∀u∈l.flatMap qP,u.oneCell'=true
 | [],u,h=>by cases h
 | x::l,u,h=>by
  rw[LK,Lh]at h;rcases h with h|h
  ·simp only[qP,oK,oH,or_false]at h;rcases h with rfl|rfl|rfl|rfl <;> rfl
  exact Qfd l u h
theorem RzO.snoc {v:O2}{l m:List Rz}(h:w.ownsRow base 323 4 v (l.length+m.length) (l.flatMap qP++m.flatMap qP)):RzO base w v (l++m):=by
 unfold RzO;rw[Lc,LD];exact h
abbrev KL (k d r:O2)(n:Int):LV:=[k,d,r,sS n,nS,sS 0,nS,nS,nS]
structure ReI (b10:Nat)(q:Pz)(wB:O1)(lf:Lf)(rn:Int)(vr:O2)(lz:List Rz)(w:O1):Prop where
 st:O5 [b10,q.bl] wB w
 B10:QL ↑w b10 148 (KL (nS) (nS) vr rn)
 R:RzO ↑wB w vr lz
 F:QL ↑w q.bl 4 (lf.map Value.bool)
 n:lf.length=q.n
section
variable {b10:Nat}{q:Pz}{wB w'':O1}{rn:Int}{lz:List Rz}
theorem ReI.I (h:ReI b10 q wB lf rn vr lz w)(E:sW w w'):ReI b10 q wB lf rn vr lz w':=⟨h.st.D E,h.B10.I E,Qm h.R E,h.F.I E,h.n⟩
theorem ReI.cut (h:ReI b10 q wB lf rn vr lz w)(l:q.bl<↑wB)(ne:b10≠q.bl)(E:O5 [q.bl] w w'){G:Lf}(I:QL ↑w' q.bl 4 (G.map Value.bool))(J:G.length=q.n):ReI b10 q wB G rn vr lz w' :=
 ⟨h.st.O E (λb hb=>.inl (by simp only[oF]at hb;simp[hb])),h.B10.J E (ou ne),Qg h.R E (λb hb=>by have:=(Qj h.R b hb).1;simp only[oF];omega),I,J⟩
theorem ReI.app (h:ReI b10 q wB lf rn vr lz w)(l:q.bl<↑wB)(U:b10<wB.heap.size)(ne:b10≠q.bl){E:O2}{I:List Rz}{J:Int}(S:O5 (ob vr) w w')(hR:RzO ↑wB w' E I)(G:O5 [b10] w' w'')
  (T:QL ↑w'' b10 148 (KL (nS) (nS) E J)):ReI b10 q wB lf J E I w'':=by
 have hge:=Qj h.R;exact⟨(h.st.O S (λb hb=>.inr (hge b hb).1)).O G (λb hb=>.inl (by simp only[oF]at hb;simp[hb])),T,Qg hR G (λb hb=>by have:=(Qj hR b hb).1;simp only[oF];omega),
  (h.F.J S (λhb=>oo (hge _ hb).1)).J G (ou ne.symm),h.n⟩
theorem ReI.rounds (h:ReI b10 q wB lf rn vr lz w)(J:b10<wB.heap.size)(ne:b10≠q.bl){G:Int}(E:O5 [b10] w w')(I:QL ↑w' b10 148 (KL (nS) (nS) vr G)):ReI b10 q wB lf G vr lz w' :=
 ⟨h.st.O E (λb hb=>.inl (by simp only[oF]at hb;simp[hb])),I,Qg h.R E (λb hb=>by have:=(Qj h.R b hb).1;simp only[oF];omega),h.F.J E (ou ne.symm),h.n⟩
end
theorem Qgj {vf:O2}{forb unc:LI}(h:Zp [] ↑w va vm ve a)(hok:Q0 a)(hf:Qu [] ↑w vf forb)(ke:∀x∈forb,0<=x/\x<a.st)(hfl:forb.length<=4096)(hu:Qu [] ↑w vu unc):
  QR sV 143 [.agg #[va,sS a.st,vm,ve],vf,vu,.bool true] w λr w'=>sW w w'/\∃c0 c1 c2 c3 sa sm se o,r=.agg #[c0,c1,c2,c3,sa,sS (zC a forb unc).st,sm,se,o] /\
   Zv [c0,c1,c2,c3,o]/\∀L:LN,(∀b∈L,b<↑w)->Zp L ↑w' sa sm se (zC a forb unc)/\Qbr L ↑w' c0 c1 c2 a forb unc:=by
 have hst0:=hok.st0;have hst1:=hok.st1;obtain⟨n,hn⟩:∃n:Nat,a.st=n:=⟨a.st.toNat,oa⟩;have h6:a.st.toNat=n:=oa
 have hQ:zC a forb unc=QbI a (zM a unc (n+1) (lf0 n forb)):=by unfold zC zN;rw[h6]
 have mv:rmA a forb unc=rmF forb++rmL a unc (n+1) 2 (lf0 n forb):=by unfold rmA;rw[h6]
 have gj:zN a forb unc=zM a unc (n+1) (lf0 n forb):=by unfold zN;rw[h6]
 refine Zg (zC a forb unc) λSA mw=>?_;rw[mw]at hQ ⊢;refine Zm func143 ?_;refine Qc<|Za [va,sS a.st,vm,ve] λb4 w1 kf hb4 my=>QN (KL (nS) (nS) (nS) 0) λb8 w2 kg hb8 kh=>xe ?_;have hR:=kf.D kg;have hl8:=kh.lt;have hz1:=kf.size;refine Qc<|QV (my.I kg) O O<|Qa<|Qa<|Qv<|(QhW (h.I hR) hok hn (hf.I hR) ke (hu.I hR)).S ?_;rintro r3 w3 ⟨ki,bp,q,rfl,mz,m0,m1,hbl,hP,hF⟩;refine Qb ?_;subst mz m0 m1;have hq:PzQ q:=⟨hok,hn⟩;have m2:=hR.D ki;have hlF:=hF.lt;refine Qc<|QN (KL (nS) (nS) (nS) 0) λb10 J h7 m3 kj=>xe ?_;have gk:=m2.D h7;have hz4:=h7.size;have hS:=kj.lt;have hr:b10≠q.bl:=oa
 have gl:q.bl<J.heap.size:=oa
 have m4:PzA [b10,q.bl] ↑J bp q:=(hP.up (λb hb=>by
  simp only[oK,oH,or_false]at hb;rcases hb with rfl|rfl
  ·exact .inr m3
  exact .inl od)).I h7
 have m5:=Qme q.n forb;have h8:∀{w'},O5 [b10,q.bl] J w'->PzA [] ↑w' bp q:=λhs=>(m4.st hs).up od;refine Qd<|Qk<|QG (hf.I gk) O<|Qa<|xe<|QW (α:=Nat×Int×O2×List Rz) [(12,12),(25,39)] (λz=>[(25,sS z.1)]) (λz w'=>z.1<=forb.length/\ReI b10 q J (lf0 q.n forb) z.2.1 z.2.2.1 z.2.2.2 w'/\z.2.2.2.length=z.1/\(z.2.1=0\/z.2.1=1)/\z.2.2.2.map (·.1)=rmF (forb.take z.1)) (λz=>forb.length - z.1) (0,0,nS,[]) La
  ⟨Lo _,⟨O5.Y _ _,kj,QM _ _ _ _,hF.I h7,m5⟩,O,.inl O,O⟩ ?_
 rintro⟨k,rn,vr,lz⟩ g w5 ⟨hk,hI,gm,hT,hU⟩;simp only[]at hk hI gm hT hU;have m6:Qu [] ↑w5 vf forb:=((hf.up (L':=[b10,q.bl]) (λb hb=>by
  simp only[oK,oH,or_false]at hb;exact .inr oa)).I gk |>.st hI.st).up od
 refine Zk rfl O (λgn=>?_) (λgn=>?_)
 ·refine Qt ?_;have hcl:=Qm3 (lf0 q.n forb);have m7:forb.length<=k:=by have hV:¬(k:Int)<(forb.length:Int):=gn;omega
  rw[Lq m7]at hU;refine Qd<|Qc<|Qb<|QW (α:=Nat×Nat×Int×O2×List Rz×Lf) [(13,14),(16,16),(40,71)] (λz=>[(13,sS z.2.1)])
   (λz w'=>ReI b10 q J z.2.2.2.2.2 z.2.2.1 z.2.2.2.1 z.2.2.2.2.1 w'/\z.2.1+z.1=q.n+3/\z.2.2.2.2.1.length<=4096+z.2.1*1000000/\zM q.a q.unc z.1 z.2.2.2.2.2=zM q.a q.unc (q.n+1) (lf0 q.n forb)/\VU z.2.2.2.2.2+1<=z.1/\z.2.2.2.2.1.map (·.1)++rmL q.a q.unc z.1 (z.2.1:Int) z.2.2.2.2.2=rmA q.a forb q.unc) (λz=>z.1) (q.n+1,2,rn,vr,lz,lf0 q.n forb) La ⟨hI,oe,oe,O,oe,by rw[mv];simp only[hU];rfl⟩ ?_
  rintro⟨f,rank,rn,vr,lz,lf⟩ g w6 ⟨hI,m8,gm,h9,m9,hA⟩;simp only[]at hI m8 gm h9 m9 hA;refine Qd<|Qn<|Qk<|Qa<|Qa<|Qv<|(QiA (h8 hI.st) hq hI.F hI.n rank).S ?_;rintro r7 w7 ⟨hW,hB,kk⟩;have hg:=Ql0 q.a q.unc lf;have kn:=λ(f:Nat) (h:(nxs q.a q.unc lf).length≠0)=>Qh7 (a:=q.a) (ul:=q.unc) (f:=f) (rk:=(rank:Int)) (lf:=lf) h;refine Zg (nxR q.a q.unc lf) λNR pc=>?_;rw[pc]at hB kk hg kn;obtain⟨rs,l⟩:=NR;simp only[]at hB kk hg;refine Qb ?_;have T:=hI.I hW;have ko:Zt [] ↑w7 r7 l.length 4 (l.flatMap (rmC rank rs)):=QO hB oa od;have go:(nxs q.a q.unc lf).length=l.length:=by rw[<-hg,Ll]
  have gq:=Qou (ul:=q.unc) hok hn hI.n;rw[<-hg]at gq;refine Qd<|Qk<|QG ko O<|x (Zd O O)<|xe<|Zi O (λgr=>?_) (λgr=>?_)
  ·refine Qt ?_;have hC:l.length=0:=by have h49:(l.length:Int)=0:=gr;omega
   rw[Qgl (by rw[go];exact hC)]at h9;rw[Qh8 (by rw[go];exact hC),LF]at hA;rw[<-h9]at hQ gj;refine Qc<|Zc O<|Qq O T.B10 O O<|Qv<|(Qge T.R oa).S ?_;rintro r8 U ⟨ha,gs⟩;have pd:rmS q.a forb q.unc=(qO lz).map (·.1):=by unfold rmS;rw[<-hA,QbD]
   refine xe ?_;have hge:=Qj T.R;have gt:O5 [b10,q.bl] J U:=T.st.O ha (λb hb=>.inr (hge b hb).1);have gu:QL ↑U b10 148 (KL (nS) (nS) vr rn):=T.B10.J ha (λhb=>oo (hge _ hb).1);have kq:QL ↑U q.bl 4 (lf.map Value.bool):=T.F.J ha (λhb=>oo (hge _ hb).1);have kr:=QC gs;have hz8:=gt.size;refine Qd<|Qk<|Qv<|(UD (h8 gt) hq kq T.n).S ?_;rintro r9 G ⟨V,bD,rfl,hbD,kt,hX⟩;refine Zg (dsts q.a lf) λD hD=>?_;rw[hD]at kt hX;have ku:Qu [b10] ↑G (sL bD q.n q.n) D:=by
    have S:=kt.arr (L:=[b10]) ol (n:=q.n) (cap:=q.n) (sz:=1) (by simp[hX]) oa (Lp _);unfold Qu;rw[hX];exact S
   have pf:=gt.D V;have hz9:=V.size;have pg:=kq.I V;refine QG ku O<|Qa<|xe<|QW (α:=Nat×O2×O2×LI×LI) [(17,18),(79,107)] (λz=>[(79,sS z.1)])
    (λz w'=>z.1<=D.length/\O5 [b10] G w'/\QL ↑w' b10 148 (KL z.2.1 z.2.2.1 vr rn)/\Qi 3 ↑G w' z.2.1 z.2.2.2.1/\Qi 3 ↑G w' z.2.2.1 z.2.2.2.2/\Dj z.2.1 z.2.2.1/\z.2.2.2.1.length<=z.1/\z.2.2.2.2.length<=z.1/\z.2.2.2.1=kpK lf z.1/\z.2.2.2.2=kpD lf D z.1) (λz=>D.length - z.1) (0,nS,nS,[],[]) La
    ⟨Lo _,O5.Y _ _,gu.I V,QM _ _ _ _,QM _ _ _ _,Dj.nil' _,Lp _,Lp _,O,O⟩ ?_
   rintro⟨i,vk,vd,lk,ld⟩ g hE ⟨hi,Y,hG,hK,hh,hY,ph,hld,hZ,ga⟩;simp only[]at hi hG hK hh hY ph hld hZ ga;have hz10:=Y.size;have gb:O5 [b10,q.bl] J hE:=pf.O Y (λb hb=>.inl (by simp only[oF]at hb;simp[hb]));have kv:QL ↑hE q.bl 4 (lf.map Value.bool):=pg.J Y (ou hr.symm);refine Zk O O (λgv=>?_) (λgv=>?_)
   ·refine Qt<|Qk<|Qv<|(zS (h8 gb) hq kv T.n).S ?_;rintro r11 pj ⟨hp,_,o,rfl,⟨sa,sm,se,rfl,gx⟩,gy⟩;rw[<-hQ]at gx;have ht:=gx [] od;refine Qa<|QJ O O<|QJ O O<|Zc O<|Qo<|J9 (us:=[sa,sS SA.st,sm,se]) (hG.I hp) O (by rw[<-hQ];rfl) O od ⟨ht.al.one,rfl,ht.mr.one,ht.ed.one,Z⟩ rfl λw12 gc pn =>
     Zc rfl<|Qo<|Qw (j:=8) (u:=o) pn O O od gy λw13 ge po=>xe ?_
    have pp:b8∉[b10,q.bl]:=by simp only[oK,oH,or_false];omega
    have kw:b8∉[b10]:=ol
    have pt:=(((((kh.I (ki.D h7)).J gb pp).I hp).J gc kw).J ge kw);refine Qc<|QV po O O<|Q2 [vk,vd,vr,sS rn,sa,sS SA.st,sm,se,o] pt ⟨QC hK,QC hh,kr,O,ht.al.one,O,ht.mr.one,ht.ed.one,gy,Z⟩ λpu gz pw=>xe ?_;have pz:∀b∈[b10,q.bl],↑w<=b:=λb hb=>by simp only[oK,oH,or_false]at hb;omega
    have p0:sW w pu:=((((gk.O gb (λb hb=>.inr (pz b hb))).D hp).Q gc oa).Q ge oa).Q gz oa;refine Qh ⟨[.agg #[vk,vd,vr,sS rn,sa,sS SA.st,sm,se,o]],⟨Jl pw,Z⟩,p0,vk,vd,vr,sS rn,sa,sm,se,o,O,⟨QC hK,QC hh,kr,O,gy,Z⟩,λL hL=>?_⟩;have gg:∀N,↑J<=N->∀b∈b10::b8::L,b<N:=λN hN b hb=>by
     simp only[oK]at hb;rcases hb with rfl|rfl|hb
     ·omega
     ·omega
     have:=hL b hb;omega
    have S:=gx (b10::b8::L) (gg _ oa);have h2:=((S.st (gc.S od)).st (ge.S od)).st (gz.S od);have p4:i=q.n:=by have p5:¬(i:Int)<(D.length:Int):=gv;omega
    subst p4;have hrl:(qO lz).length=lz.length:=zG lz;have h3:Qbr (b10::b8::L) ↑hE vk vd vr q.a forb q.unc:=by
     refine⟨?_,?_,?_⟩
     ·rw[gj,h6,<-hZ];exact Qi.ints hK oa (gg _ oa)
     ·rw[gj,h6,hD,<-ga];exact Qi.ints hh oa (gg _ oa)
     rw[pd,Ll,QmG];have p6:=Qj gs;refine(((QO gs oa (λb hb p7=>oq (p6 b hb).1 (gg _ (Lp _) b p7)):Zt (b10::b8::L) ↑U vr (qO lz).length 4 ((qO lz).flatMap qP)).I V).st (Y.S od))
    have h4:=((((h3.st (hp.any)).st (gc.S od)).st (ge.S od)).st (gz.S od)).up (L':=L) (λb hb=>.inl (by simp[hb]));exact⟨h2.up (λb hb=>.inl (by simp[hb])),h4⟩
   refine Qf ?_;have hv:i<D.length:=by have p5:(i:Int)<(D.length:Int):=gv;omega
   have g0:i<lf.length:=by rw[T.n,<-hX];exact hv
   have p8:lf[i]'g0=lf.getD i false:=by simp[oO,g0]
   refine Qd<|Qn<|Qk<|xii (i:=i) (ku.st Y) O O hv λa82 kx=>?_;refine Zg (D[i]'hv) λd hd=>?_;rw[hd]at kx;refine x (Qr kx O)<|x Qe<|Qb<|Qk<|Z6 O<|Qq O (h8 gb).B O O<|Qa<|x (QF (i:=i) O O oa)<|x (v:=.bool (lf.getD i false)) ((JO (i:=i) kv O g0).D (by rw[p8]))<|xe<|Q6 O (λg2=>?_) (λg2=>?_)
   ·have hH:∀{v:O2} {l:LI} {w':O1},Qi 3 ↑G w' v l->b10∉ob v:=λho E=>oo (Qj ho b10 E).1
    refine Qc<|Zc O<|Qq O hG O O<|Qa<|Qo<|Q9 [[sS i]] λb95 y1 hw hb95 p9=>Qo<|Q8 (m:=1) (news:=[sS i]) (L:=[]) (Qm hK hw) O O O (p9.at od) om oa (oo hw.size) λhJ y2 kz gh qa =>
     Zc rfl<|Zc O<|Qo<|Qw (j:=0) (u:=hJ) ((hG.I hw).J gh (hH hK)) O O od (QC kz) λy3 g3 k0=>xe ?_
    have qe:Qi 3 ↑G y2 hJ (lk++[(i:Int)]):=Qi.snoc kz;have hzy1:=hw.size;have hzy2:=gh.size;have hzy3:=g3.size;have qf:Qi 3 ↑G y2 vd ld:=Qg (Qm hh hw) gh (λb hb E=>hY b E hb);have k4:Dj hJ vd:=λb hb E=>by
     rcases qa b hb with S|S
     ·exact hY b S E
     have:=QU hh b E;omega
    have k5:∀{v:O2} {l:LI},Qi 3 ↑G y2 v l->Qi 3 ↑G y3 v l:=λho=>Qg ho g3 (λb hb E=>by simp only[oF]at E;subst E;exact hH ho hb);have k6:=k5 qe;have g4:=k5 qf;have qj:O5 [b10] G y3:=(((Y.D hw).O gh (λb hb=>.inr (Qj hK b hb).1))).V g3;refine Qs<|Zc O<|Qq O k0 O O<|Qa<|Qo<|Q9 [[sS d]] λb103 y4 hz hb103 ql=>Qo<|Q8 (m:=1) (news:=[sS d]) (L:=[]) (Qm g4 hz) O O O (ql.at od) om oa (oo hz.size) λg5 y5 k9 g6 qm =>
     Zc rfl<|Zc O<|Qo<|Qw (j:=1) (u:=g5) ((k0.I hz).J g6 (hH g4)) O O od (QC k9) λy6 g7 q0=>xe ?_
    have ma:Qi 3 ↑G y5 g5 (ld++[d]):=Qi.snoc k9;have mc:=Qqz (lf:=lf) (n:=i) g2;have q4:O6 D i=d:=by unfold O6;simp[oO,hv,hd]
    have mf:Qi 3 ↑G y5 hJ (lk++[(i:Int)]):=Qg (Qm k6 hz) g6 (λb hb E=>k4 b hb E);have hzy4:=hz.size;refine Qs<|QD O O<|Qa<|xe<|⟨(i+1,hJ,g5,_,_),oe,La,hv,(((qj.D hz).O g6 (λb hb=>.inr (Qj g4 b hb).1))).V g7,q0,Qg mf g7 (λb hb E=>by simp only[oF]at E;subst E;exact hH mf hb),Qg ma g7 (λb hb E=>by simp only[oF]at E;subst E;exact hH ma hb),λb hb E=>?_,by simp only[oM,oL];omega,by simp only[oM,oL];omega,by simp only[];unfold kpK;rw[mc,Lv,hZ];rfl,by simp only[];unfold kpD;rw[mc,Lv,ga,<-q4];rfl⟩;rcases qm b E with S|S
    ·exact k4 b hb S
    have:=QU k6 b hb;omega
   refine Qf<|Qs<|QD O O<|Qa<|xe ?_;have mg:=QqA (lf:=lf) (n:=i) g2;exact⟨(i+1,vk,vd,lk,ld),oe,La,hv,Y,hG,hK,hh,hY,oe,oe,by unfold kpK;rw[mg];exact hZ,by unfold kpD;rw[mg];exact ga⟩
  refine Qf ?_;have hC:¬l.length=0:=λe=>gr (by show(l.length:Int)=0;omega);have g8:(nxs q.a q.unc lf).length≠0:=by rw[go];exact hC
  have q5:=QiT g8;refine Exists.elim (Nl (show f≠0 by omega)) λf' j1=>?_;subst j1;rw[Qgk g8,<-hg]at h9;rw[kn f' g8,<-hg]at hA;rw[<-hg]at q5;refine Exists.elim (QnB (rk:=(rank:Int)) (rs:=rs) l (λx hx=>oo (gq x hx))) λln h5=>?_;refine Qd<|Qk<|QG ko O<|Qa<|xe<|QW (α:=Nat) [(16,16),(51,62)] (λz=>[(51,sS z)]) (λz w'=>z<=l.length/\O5 [q.bl] w7 w'/\ReI b10 q J (((l.take z).map (·.1)).foldl cut lf) rn vr lz w') (λz=>l.length - z) 0 La ⟨Lo _,O5.Y _ _,T⟩ ?_;rintro j g U ⟨hj,ha,I⟩;have hT:∀b∈ob r7,b≠q.bl:=λb hb e=>oq (Qj hB b hb).1 hI.st.size
  have j2:RmO ↑w6 U r7 rank rs l:=Qg hB ha (λb hb E=>hT b hb (ou E));have mh:Zt [q.bl] ↑U r7 l.length 4 (l.flatMap (rmC rank rs)):=QO j2 oa (λb hb E=>hT b hb (ou E));refine Zk O O (λg9=>?_) (λg9=>?_)
  ·refine Qt ?_;have j3:l.length<=j:=by have gi:¬(j:Int)<(l.length:Int):=g9;omega
   rw[Lq j3]at I;obtain⟨ad,cap7,j4,_,za⟩:∃ad cap,r7=.slice (some ad) l.length cap/\l.length<=cap/\At [q.bl] ↑U ad (l.flatMap (rmC rank rs)):=by
    rcases mh.2.2 with⟨_,h0⟩|S
    ·exact OW h0 hC
    exact S
   refine Qc<|Zc O<|Qq O I.B10 O O<|Qa<|Qo<|Q8 (m:=l.length) (news:=l.flatMap (rmC rank rs)) (L:=[q.bl]) I.R O j4 (by rw[<-h5.1,Qau,h5.2.1]) za (by rw[<-h5.1];exact Qfd ln) oa I.st.size λka z0 mj mo hn22 =>
    Zc rfl<|Zc O<|Qo<|Qw (j:=2) (u:=ka) (I.B10.J mo (λhb=>oo (Qj I.R _ hb).1)) O O od (QC mj) λw23 z2 z3=>xe ?_
   have z4:RzO ↑J z0 ka (lz++ln):=RzO.snoc (by rw[h5.1,h5.2.1];exact mj);have mq:=I.app gl hS hr mo z4 z2 z3;refine Qs<|Qa<|Zc O<|Qo<|Qw (j:=3) (u:=sS rank) mq.B10 O O od rfl λw24 z5 hB24=>xe ?_;have hI24:=mq.rounds hS hr z5 hB24;have hra:(-9223372036854775808:Int)<=(rank:Int)+1:=oa
   have hrb:(rank:Int)+1<=9223372036854775807:=oa
   refine Qs<|Qa<|x (Xp O O ⟨hra,hrb⟩)<|Qb<|⟨(f',rank+1,(rank:Int),ka,lz++ln,(l.map (·.1)).foldl cut lf),oe,La,hI24,oe,by simp only[oM];omega,h9,oe,by simp only[List.map_append,h5.2.2];rw[LA];exact hA⟩
  refine Qf ?_;have he:j<l.length:=by have gi:(j:Int)<(l.length:Int):=g9;omega
  have htk:l.take (j+1)=l.take j++[l[j]'he]:=Lj he;have ms:((l.take (j+1)).map (·.1)).foldl cut lf=cut (((l.take j).map (·.1)).foldl cut lf) (l[j]'he).1:=by rw[htk,Lv,Mj];rfl
  have hxr:=gq (l[j]'he).1 (LG (Le he));refine Zg (l[j]'he) λy hy=>?_;rw[hy]at ms hxr;have hyn:y.1=(y.1.toNat:Int):=oa
  refine Qd<|Qn<|Qc<|O8 (g:=rmC rank rs) (i:=j) (Qe2 rank rs) mh O O he λa53 gi=>?_;rw[hy]at gi;refine x (QA gi O O)<|QN [sS 0,sS 0,sS 0,sS 0] λb16 G V hb16 kb=>Q2 (rmC rank rs y) kb oy λhE Y kb=>xe ?_;have mt:sW U hE:=V.Q Y hb16;have kc:=I.I mt;have hnn:=I.n;refine ZL [] (Xg 0 8 [7])<|p Qx<|p (YL O)<|p (QH O)<|pq (λ_ hc=>Ql ((h8 kc.st).B.I hc) O O)<|p (QH O)<|pq (λ_ hc=>Ql (kb.I hc) O O) <|
   p (λ_=>QF (i:=y.1.toNat) O (OV sS hyn) oa)<|pkk<|zU (i:=y.1.toNat) (kc.F.I (O5.X _ _)) O O oa λpj hp hF11=>pe ?_
  refine Qs<|QD O O<|Qa<|xe<|⟨j+1,oa,La,he,((ha.D mt).D (O5.X _ _)).V hp,?_⟩;rw[ms];exact(kc.I (O5.X _ _)).cut gl hr hp hF11 (by rw[QfK];exact hnn)
 refine Qf ?_;have hM:k<forb.length:=by have hV:(k:Int)<(forb.length:Int):=gn;omega
 have hxk:=ke _ (Le hM);refine Zg (forb[k]'hM) λy hy=>?_;rw[hy]at hxk;refine Qd<|Qn<|Qc<|xii (i:=k) m6 O O hM λa27 hV=>?_;rw[hy]at hV;refine x (Qr hV O)<|Qb<|Qc<|Zc O<|Qq O hI.B10 O O<|Qa<|x (QE ⟨O,O,O,O,Z⟩)<|Qo<|Q9 [[sS y,sS 1,sS 1,sS (-1)]] λb34 w6 hs6 hb34 hB34=>?_;have hO:=hI.I hs6;refine Qo<|Q8 (m:=1) (news:=[sS y,sS 1,sS 1,sS (-1)]) (L:=[]) hO.R O O O (hB34.at od) om oa hO.st.size λv7 w7 mu hW hn7 =>
  Zc rfl<|Zc O<|Qo<|Qw (j:=2) (u:=v7) (hO.B10.J hW (λhb=>oo (Qj hO.R _ hb).1)) O O od (QC mu) λU ha gu=>xe ?_
 have hR7:RzO ↑J w7 v7 (lz++[⟨(y,1,1,-1),oe⟩]):=RzO.snoc mu;have hfk:rmF (forb.take (k+1))=rmF (forb.take k)++[(y,1,1,-1)]:=by unfold rmF;rw[Lj hM,Lv,hy];rfl
 have I:=hO.app gl hS hr hW hR7 ha gu;refine Qs<|Zc O<|Qo<|Qw (j:=3) (u:=sS 1) I.B10 O O od rfl λG V hB9=>xe ?_;have hI9:=I.rounds hS hr V hB9;refine Qs<|QD O O<|Qa<|xe ?_;exact⟨(k+1,1,v7,_),oe,La,hM,hI9,by simp only[oM,oL];omega,.inr O,by simp only[List.map_append,hU,hfk];rfl⟩
instance:Bw sV 148 (KL (nS) (nS) (nS) 0) [(0,3),(3,1),(4,4),(8,1)]:={}
theorem Qoa {c:Z2}{pl:Qz}{ps:List (LI)}{l:List (LI)}:∀r∈spF c pl ps l,0<=r.st/\r.st<(l.length:Int):=λr G=>by
 unfold spF at G;obtain⟨⟨t,i⟩,I,E⟩:=MR.1 G;have hi:=List.snd_lt_add_of_mem_zipIdx I;simp only[oX]at hi;have J:r.st=(i:Int):=by
  unfold rsn at E;split at E
  ·cases E;rfl
  split at E
  ·cases E;rfl
  cases E
 omega
theorem QhZ {c:Z2}(h:YN c=0):Q0 (spc c).a/\(∀x∈fbs (spc c),0<=x/\x<(spc c).a.st)/\(fbs (spc c)).length<=4096/\(spc c).fb.length<=4096/\XK c.ev=0:=by
 unfold YN at h;by_cases G:Z0 c≠0
 ·rw[OU G]at h;exact OW h G
 rw[OT G]at h;have hck:Z0 c=0:=Ls.1 G;have hok:=YP hck;by_cases I:KR (O7 c.co)≠0
 ·rw[OU I]at h;exact OW h I
 rw[OT I]at h;cases J:xo (O7 c.co) with
 | none=>rw[J]at h;cases h
 | some z =>
  rw[J]at h;by_cases S:KR (O7 c.co++O7 c.rq)≠0
  ·rw[OU S]at h;exact OW h S
  rw[OT S]at h;cases T:xo (O7 c.co++O7 c.rq) with
  | none=>rw[T]at h;cases h
  | some y =>
   have U:∀a∈O7 c.co++O7 c.rq,Q0 a:=λa E=>by
    rcases Lh.1 E with E|E
    ·exact YV hok.co a E
    exact YV hok.rq a E
   have hsp:=(YQ U (A:=y.1) (Q:=y.2) T).1;have hl:=QeX c z.1 z.2 y.2;have Y:=hsp.le;rw[(Qar (c:=c) (pl:=z.1) (ps:=z.2) (sa:=y.1) (ts:=y.2) J T)];unfold fbs;refine⟨hsp.okay U,λx hx=>?_,by rw[Ll];simp only[];omega,oe,hok.e0⟩;obtain⟨r,V,rfl⟩:=Ly.1 hx;have:=Qoa r V;rw[hsp.st];exact this
theorem st4 (r:Rsn):(Z4 r).length=4:=rfl
theorem Qdt (h0:ZP L ↑w c)(hQ:Kb w 4096):
  QR sV 67 [c.val] w λr w'=>sW w w'/\∃us c0 J T c3 sa sm se o,r=.tuple #[sT us,.agg #[c0,J,T,c3,sa,sS (if YN c.C=0 then(Ks c.C).st else 0),sm,se,o],sS (YN c.C)]/\us.length=8/\Zv us/\Zv [c0,J,T,c3,sa,sm,se,o] /\
   (YN c.C≠0->sa=nS/\sm=nS/\se=nS)/\(YN c.C=0->∀L:LN,(∀b∈L,b<↑w)->Zp L ↑w' sa sm se (Ks c.C)/\Qbr L ↑w' c0 J T (spc c.C).a (fbs (spc c.C)) (unc c.C.ev)):=by
 have h:=h0.up (L':=[]) od;have ho:Ks c.C=zC (spc c.C).a (fbs (spc c.C)) (unc c.C.ev):=rfl;have hR:c.C.ev=c.ev:=rfl;have hp:=QhZ (c:=c.C);refine Zg (Ks c.C) λSA hT=>?_;rw[hT]at ho ⊢;refine Zg (YN c.C) λE hE=>?_;rw[hE]at hp ⊢;refine Zg (spc c.C) λS hS=>?_;rw[hS]at hp ho ⊢;rw[hR]at hp ho ⊢;refine Zm func67 ?_;refine Qc<|Za c.cells λb1 w1 hC gy hD=>QN [nS,sS 0,nS,nS,nS,nS,nS,nS] λb2 w2 h3 gz hq=>QN (KL (nS) (nS) (nS) 0) λb3 w3 hs g0 ht=>Qb ?_;have h4:=(hC.D h3).D hs;have g2:=hC.size;have g3:=hq.lt;have g4:=ht.lt;have hsp:=yN (h.I h4) (hQ.I h4);rw[hE,hS]at hsp;refine Qc<|QV ((hD.I h3).I hs) O O<|Qv<|hsp.S ?_;rintro r4 w4 ⟨hg,v,rfl,⟨us,rfl,h5,h6⟩,hF⟩;have g5:=hg.size;refine Qa<|QJ O O<|QJ O O<|QN [nS,sS 0,nS,nS,nS,nS,nS,nS] λb5 w5 hV hW hh=>Qo<|Zj (us:=us) hh O O h5 O h6 λw6 hX hh=>Qb ?_;have Y:sW w4 w6:=hV.Q hX hW;have h7:=(h4.D hg).D Y;have hG:=(hq.I (hs.D hg)).I Y;have hH:=(ht.I hg).I Y;have g6:=hh.lt;refine Qd<|Qk<|ZM O O<|xe<|Zi rfl (λhu=>?_) (λhu=>?_)
 ·refine Qc<|x (Zu [] Z)<|x (Zu [] Z)<|Qa<|Q2 [nS,sS 0,nS,nS,nS,nS,nS,nS] hG ⟨O,O,O,O,O,O,O,O,Z⟩ λw7 G hY =>
   Q2 (KL (nS) (nS) (nS) 0) (hH.J G ol) ⟨O,O,O,O,O,O,O,O,O,Z⟩ λw8 hv hZ=>Qb<|Qh ⟨[.agg #[nS,sS 0,nS,nS,nS,nS,nS,nS],.agg (KL (nS) (nS) (nS) 0).toArray,sS E],⟨Jl (hY.J hv ol),Jl hZ,O,Z⟩,(h7.Q G oa).Q hv oa,[nS,sS 0,nS,nS,nS,nS,nS,nS],nS,nS,nS,sS 0,nS,nS,nS,nS,by rw[OT hu];rfl,O,⟨O,O,O,O,O,O,O,O,Z⟩,⟨O,O,O,O,O,O,O,O,Z⟩,λ_=>⟨O,O,O⟩,λe=>OW e hu⟩
 have hw:E=0:=Ls.1 hu;obtain⟨ga,gb,gc,g7,hI⟩:=hp hw;obtain⟨va,vm,ve,v1,v2,v3,v4,cos,rqs,ge,_,_,gg⟩:=hF hw;have gh:us=[va,sS S.a.st,vm,ve,v1,v2,v3,v4]:=by
  have h1:=OV (λv=>match v with|Value.agg a=>a.toList|_=>[]) ge
  simpa using h1
 subst gh;have hJ:=(gg [] od);have gi:=hJ.1.I Y;have hK:=hJ.2.2.2.2.I Y;refine Qf<|Qc<|Qb<|Qd<|Qc<|Qq O hh O O<|QG hK O<|Qa<|xe<|QW (α:=Nat×O2) [(7,7),(9,9),(24,33)] (λz=>[(7,z.2),(24,sS z.1)]) (λz w'=>z.1<=S.fb.length/\sW w6 w'/\Qi 3 ↑w6 w' z.2 ((S.fb.take z.1).map (·.st))) (λz=>S.fb.length - z.1) (0,nS) ov ⟨Lo _,O5.Y _ _,QM _ _ _ _⟩ ?_;rintro⟨k,vf⟩ g w7 ⟨hk,G,U⟩;simp only[]at hk U;refine Zk rfl O (λh8=>?_) (λh8=>?_)
 ·refine Qt ?_;have gj:S.fb.length<=k:=by have hy:¬(k:Int)<(S.fb.length:Int):=h8;omega
  rw[Lq gj]at U;have U:Qi 3 ↑w6 w7 vf (fbs S):=U;have gk:=h7.D G;have gl:=G.size;refine Qc<|Zc O<|x (Ql ((hD.I (h3.D hs)).I ((hg.D Y).D G)) O O)<|Qv<|(Qah (h.ev.I gk)).S ?_;rintro g8 V ⟨ha,vu,rfl,hU⟩;rw[OU hI]at hU;refine Qa<|QJ O O<|QJ O O<|x Qe<|Qb<|Qd<|Qk<|ZM O O<|xe<|Zi O (λgm=>OW hI gm) (λ_=>?_);refine Qf ?_;have h5:(unc c.ev).length<=1099511627776:=Lx (QaY _ c.ev 0) h.ev.arr.le;have he:=G.D ha;have gn:=gi.I he;have hz:sW V { V with drawn:=V.drawn+1 }:=O5.X _ _
  have hM:=hh.I he;have hN:b5∉[b2]:=ol
  have g9:=he.size;refine Qd<|ZL [b2] (Xg 0 9 [5,6,7])<|pq (λ_ hc=>Q7 (hM.J hc hN) O O)<|p (QH O)<|pq (λ_ hc=>ZR (us:=[va,sS S.a.st,vm,ve]) (hM.J hc hN) O O O) <|
   p Qx<|p Qx<|pk<|xg<|(Qgj (gn.I hz) ga (((Qi.ints (L:=[]) U oa od).I ha).I hz) gb gc ((Qi.ints (L:=[]) hU h5 od).I hz)).S ?_
  rintro ka kb ⟨go,c0,J,T,c3,sa,sm,se,o,rfl,I,h9⟩;have hj:=hz.D go;refine⟨hj.any,?_⟩;have hO:zC S.a (fbs S) (unc c.ev)=SA:=ho.symm;rw[hO]at h9;have hf:=(h9 [] od).1;refine pk<|Uk [va,sS S.a.st,vm,ve,v1,v2,v3,v4] ((hG.I he).I hj) h6 λkc hm hq=>⟨hj.any.V hm,?_⟩;refine pkk<|Zj (us:=[c0,J,T,c3,sa,sS SA.st,sm,se,o]) (((hH.I he).I hj).J hm ol) O (by rw[<-hO];rfl) O O ⟨I.1,I.2.1,I.2.2.1,I.2.2.2.1,hf.al.one,O,hf.mr.one,hf.ed.one,I.2.2.2.2.1,Z⟩ λke h2 ht=>p ZN<|pe ?_;have gq:b2∉[b3]:=ol
  refine Qh ⟨[.agg #[va,sS S.a.st,vm,ve,v1,v2,v3,v4],.agg #[c0,J,T,c3,sa,sS SA.st,sm,se,o],sS 0],⟨Jl (hq.J h2 gq),Jl ht,O,Z⟩,
   (((h7.D he).D hj).Q hm oa).Q h2 oa,_,c0,J,T,c3,sa,sm,se,o,by rw[hw,OU rfl];rfl,O,h6,⟨I.1,I.2.1,I.2.2.1,I.2.2.2.1,hf.al.one,hf.mr.one,hf.ed.one,I.2.2.2.2.1,Z⟩,λe=>OW hw e,λ_ L hL=>?_⟩
  have h1:=h9 (b2::b3::L) (λb hb=>by
   have kf:({ V with drawn:=V.drawn+1 }:O1).heap.size=V.heap.size:=rfl
   simp only[oK]at hb;rcases hb with rfl|rfl|hb
   ·omega
   ·omega
   have:=hL b hb;omega)
  exact⟨((h1.1.st (hm.S od)).st (h2.S od)).up (λb hb=>.inl (by simp[hb])),((h1.2.st (hm.S od)).st (h2.S od)).up (λb hb=>.inl (by simp[hb]))⟩
 refine Qf ?_;have hn:k<S.fb.length:=by have hy:(k:Int)<(S.fb.length:Int):=h8;omega
 have hP:S.fb.take (k+1)=S.fb.take k++[S.fb[k]'hn]:=Lj hn;have kg:((S.fb.take k).map (·.st)).length=k:=by rw[Ll,LC];omega
 refine Zg (S.fb[k]'hn) λr hr=>?_;rw[hr]at hP;refine Qd<|Qn<|Qc<|O8 (g:=Z4) (i:=k) st4 (hK.I G) O O hn λkh hy=>?_;rw[hr]at hy;refine x (QA hy O O)<|QN [sS 0,sS 0,sS 0,sS 0] λb9 w8 hv gr hA=>Q2 (Z4 r) hA oy λw9 gs hA=>xe ?_;have hB:sW w7 w9:=hv.Q gs gr;have ki:=hB.size;have gl:=G.size;refine Qs<|Qa<|Qq O hA O O<|Qo<|Q9 [[sS r.st]] λkj V ha kk gt =>
  Qo<|Q8 (m:=1) (news:=[sS r.st]) (L:=[]) (Qm U (hB.D ha)) O O O (gt.at od) om oa (oo ha.size) λgu kn gv gx ko=>Qb<|Qs<|QD O O<|Qa<|xe ?_
 refine⟨(k+1,gu),oe,ov,hn,((G.D hB).D ha).O gx (λb hb=>.inr (Qj U b hb).1),?_⟩;simp only[];rw[hP,Lv];exact Qi.snoc gv
theorem J4 (h0:ZP L ↑w c)(he:Kb w 4096):
  QR sV 29 [c.val] w λr w'=>sW w w'/\∃sa sm se,r=.tuple #[.agg #[sa,sS (if YN c.C=0 then(Ks c.C).st else 0),sm,se],sS (KQ c.C)]/\Zv [sa,sm,se] /\
   (KQ c.C≠0->sa=nS/\sm=nS/\se=nS)/\(KQ c.C=0->∀L:LN,(∀b∈L,b<↑w)->Zp L ↑w' sa sm se (Ks c.C)):=by
 have hf:KQ c.C=YN c.C:=rfl;rw[hf];refine Zm func29 ?_;refine Qc<|Za c.cells λb1 w1 T hr hg=>QN [nS,sS 0,nS,nS] λb2 w2 U hs G=>Qb ?_;have I:=T.D U;have ht:=T.size;have hu:=G.lt;refine Qc<|QV (hg.I U) O O<|Qv<|(Qdt ((h0.up (L':=[]) od).I I) (he.I I)).S ?_;rintro r3 w3 ⟨V,us,c0,c1,c2,c3,sa,sm,se,o,rfl,hh,hj,E,hk,hm⟩;refine Zg (if YN c.C=0 then(Ks c.C).st else 0) λN hN=>?_
 rw[hN];refine Qa<|QJ O O<|QJ O O<|QJ O O<|QN [nS,sS 0,nS,nS,nS,nS,nS,nS] λb4 w4 hn hv J=>QN (KL (nS) (nS) (nS) 0) λb5 w5 Y hw ho =>
  Qo<|Zj (us:=us) (J.I Y) O O hh O hj λw6 ha hy=>Q2 [c0,c1,c2,c3,sa,sS N,sm,se,o] (ho.J ha (by have:=J.lt;simp only[oF];omega)) ⟨E.1,E.2.1,E.2.2.1,E.2.2.2.1,E.2.2.2.2.1,O,E.2.2.2.2.2.1,E.2.2.2.2.2.2.1,E.2.2.2.2.2.2.2.1,Z⟩ λw7 hp hq=>Qb ?_
 have hz:=J.lt;have S:sW w3 w7:=((hn.D Y).Q ha oa).Q hp oa;refine Qc<|Zc O<|x (ZR (us:=[sa,sS N,sm,se]) hq O O O)<|Qa<|Q2 [sa,sS N,sm,se] ((G.I V).I S) ⟨E.2.2.2.2.1,O,E.2.2.2.2.2.1,E.2.2.2.2.2.2.1,Z⟩ λw8 hc G=>Qb<|Qh ⟨[.agg #[sa,sS N,sm,se],sS (YN c.C)],⟨Jl G,O,Z⟩,((I.D V).D S).Q hc oa,sa,sm,se,O,⟨E.2.2.2.2.1,E.2.2.2.2.2.1,E.2.2.2.2.2.2.1,Z⟩,hk,λe L hL=>?_⟩;have h1:=hm e (b2::L) (λb hb=>by
  simp only[oK]at hb;rcases hb with rfl|hb
  ·omega
  have:=hL b hb;omega)
 exact((h1.1.I S).st (hc.S od)).up (λb hb=>.inl (by simp[hb]))
section
variable {s:Qz}{l:List V6}
end
section
variable {s:Qz}{l:List V6}
end
section
variable {s:Qz}{l:List V6}
end
section
variable {p s:Qz}{pairs:List (LI)}
end
section
variable {s:Qz}{l:List V6}
end
section
variable {s:Qz}{l:List V6}{nm:LI}
end
def cnF (ord:LI)(j:Nat)(e:Ed):Ed:=((j:Int),e.2.1,(ord.idxOf e.2.2:Int))
def cnR (a:Qz)(ord:LI)(j:Nat):List Ed:=(QQ a.ed (Z9 ord j)).map (cnF ord j)
theorem Qct {r:LI}(h:j<l.length):Z9 (l++r) j=Z9 l j:=by unfold Z9;rw[MO];exact yG h
structure NuI (st:Int)(ord num:LI):Prop where
 nd:ord.Nodup
 bd:∀s∈ord,0<=s/\s<st
 nl:num.length=st.toNat
 nu:∀k,0<=k->k<st->Z9 num k=if k∈ord then(ord.idxOf k:Int) else -1
theorem Qdy {st:Int}{c:Cs}(h:NuI st c.ord c.num){e:Ed}(T:0<=e.2.2)(U:e.2.2<st):NuI st (Zx i c e).ord (Zx i c e).num/\(∃r,(Zx i c e).ord=c.ord++r)/\(Zx i c e).mk'=c.mk'/\(Zx i c e).ed=c.ed++[cnF (Zx i c e).ord i e]/\e.2.2∈(Zx i c e).ord:=by
 have G:=h.nu e.2.2 T U;have Y:e.2.2.toNat<c.num.length:=by rw[h.nl];omega
 unfold Zx;by_cases I:e.2.2∈c.ord
 ·rw[OU I]at G;rw[OT (by rw[G];omega)];refine⟨h,⟨[],od⟩,rfl,?_,I⟩;simp only[cnF];rw[G]
 rw[OT I]at G;rw[OU (by rw[G];decide)];have V:(c.ord++[e.2.2]).idxOf e.2.2=c.ord.length:=by rw[L7,OT I];simp
 refine⟨⟨Jv h.nd I,λs E=>?_,by simp[h.nl],λk k0 k1=>?_⟩,⟨[e.2.2],rfl⟩,rfl,?_,od⟩
 ·rcases Lh.1 E with E|E
  ·exact h.bd s E
  simp only[oF]at E;subst E;exact⟨T,U⟩
 ·simp only[];by_cases ek:k=e.2.2
  ·subst ek;rw[OU od,V];unfold Z9;simp[oO,List.getElem?_set_self Y]
  have ha:e.2.2.toNat≠k.toNat:=oa
  have e1:Z9 (c.num.set e.2.2.toNat c.ord.length) k=Z9 c.num k:=by unfold Z9;simp[oO,List.getElem?_set_ne ha]
  rw[e1,h.nu k k0 k1];by_cases J:k∈c.ord
  ·rw[OU J,OU (LM _ J),L7,OU J]
  rw[OT J,OT (λhc=>by
   rcases Lh.1 hc with S|S
   ·exact J S
   simp only[oF]at S;exact ek S)]
 simp only[cnF];rw[V]
theorem zF {st:Int}{i:Nat}:∀(es:List Ed) (c:Cs),NuI st c.ord c.num->(∀e∈es,0<=e.2.2/\e.2.2<st)->NuI st (es.foldl (Zx i) c).ord (es.foldl (Zx i) c).num/\(∃r,(es.foldl (Zx i) c).ord=c.ord++r)/\(es.foldl (Zx i) c).mk'=c.mk' /\
  (es.foldl (Zx i) c).ed=c.ed++es.map (cnF (es.foldl (Zx i) c).ord i)/\∀e∈es,e.2.2∈(es.foldl (Zx i) c).ord
 | [],c,h,_=>⟨h,⟨[],od⟩,rfl,od,λe G=>by cases G⟩
 | e::es,c,h,hb=>by
  obtain⟨I,J⟩:=hb e Lm;obtain⟨S,⟨T,U⟩,V,Y,E⟩:=Qdy (i:=i) h I J;obtain⟨k1,⟨r2,k2⟩,k3,k4,k5⟩:=zF (i:=i) es (Zx i c e) S (λd hd=>hb d (Lk _ hd));rw[LO];refine⟨k1,⟨T++r2,by rw[k2,U,LA]⟩,k3.D V,?_,λd hd=>?_⟩
  ·rw[k4,Y,LA,LS];have:cnF (Zx i c e).ord i e=cnF (es.foldl (Zx i) (Zx i c e)).ord i e:=by
    unfold cnF;rw[k2,L7,OU E]
   rw[this];rfl
  rcases Ln.1 hd with rfl|hd
  ·rw[k2];exact LM _ E
  exact k5 d hd
structure CnG (a:Qz)(i:Nat)(c:Cs):Prop where
 nu:NuI a.st c.ord c.num
 le:i<=c.ord.length
 hd:Z9 c.ord 0=0/\0<c.ord.length
 mk2:c.mk'=((oN 0 i).filter λj:Nat=>decide (Z9 c.ord j∈a.mr)).map λj:Nat=>(j:Int)
 ed:c.ed=(oN 0 i).flatMap (cnR a c.ord)
 cl:∀j,j<i->∀e∈QQ a.ed (Z9 c.ord j),e.2.2∈c.ord
theorem Qm4 {ord r:LI}(E:j<ord.length)(G:∀e∈QQ a.ed (Z9 ord j),e.2.2∈ord):cnR a (ord++r) j=cnR a ord j:=by
 unfold cnR;rw[Qct E];refine List.map_congr_left λe I=>?_;unfold cnF;rw[L7,OU (G e I)]
theorem CnG.next (U:Q0 a){c:Cs}(h:CnG a i c)(hi:i<c.ord.length):CnG a (i+1) (qS a i c):=by
 unfold qS;have J:(Ym a i c).ord=c.ord:=by unfold Ym;split <;> rfl
 have V:(Ym a i c).num=c.num:=by unfold Ym;split <;> rfl
 have Y:(Ym a i c).ed=c.ed:=by unfold Ym;split <;> rfl
 obtain⟨k1,⟨r,k2⟩,k3,I,S⟩:=zF (st:=a.st) (i:=i) (QQ a.ed (Z9 c.ord i)) (Ym a i c) (by rw[J,V];exact h.nu) (λe he=>(U.ed e (ZH he).1).2.2.2);generalize (QQ a.ed (Z9 c.ord i)).foldl (Zx i) (Ym a i c)=d at k1 k2 k3 I S;rw[J]at k2;rw[Y]at I;have pre:∀j:Nat,j<=i->Z9 d.ord j=Z9 c.ord j:=λj E=>by rw[k2];exact Qct oa
 refine⟨k1,by rw[k2];simp;omega,⟨by have:=pre 0 oa;rw[show((0:Nat):Int)=0 from rfl]at this;rw[this];exact h.hd.1,by rw[k2];simp;omega⟩,?_,?_,λj E=>?_⟩
 ·rw[k3,Mm,LT,Lv,LU];have e1:((oN 0 i).filter λj:Nat=>decide (Z9 d.ord j∈a.mr))=(oN 0 i).filter λj:Nat=>decide (Z9 c.ord j∈a.mr):=by
   refine Nx λj E=>?_;rw[L8]at E;rw[pre j oa]
  rw[e1];unfold Ym;by_cases G:Z9 c.ord i∈a.mr
  ·rw[OU G];simp only[];rw[L5,OU (by rw[pre i (Lp _)];exact OX G),MJ,h.mk2];rfl
  rw[OT G];rw[L5,OT (by rw[pre i (Lp _),OZ G];simp),MJ,h.mk2];simp
 ·rw[I,Mm,LD,LU,h.ed];congr 1
  ·refine Y3 λj E=>?_;rw[L8]at E;rw[k2];exact(Qm4 oa (h.cl j oa)).symm
  simp only[oT,OJ,Oo];unfold cnR;rw[pre i (Lp _)]
 by_cases e:j=i
 ·subst e;rw[pre j (Lp _)];exact S
 intro d' T;rw[pre j oa]at T;rw[k2];exact LM _ (h.cl j oa d' T)
theorem qr {a:Qz}(G:Q0 a):∀(f i:Nat) (c:Cs),CnG a i c->∃E,CnG a E (Xd a f i c)/\((Xd a f i c).ord.length=E\/E=i+f)
 | 0,i,c,h=>⟨i,h,.inr O⟩
 | f+1,i,c,h=>by
  rw[Xd];split
  ·rename_i hi;obtain⟨E,I,J⟩:=qr G f (i+1) _ (h.next G hi);exact⟨E,I,oa⟩
  exact⟨i,h,.inl (oo h.le)⟩
structure CnP (a:Qz)(ord:LI):Prop where
 nd:ord.Nodup
 bd:∀s∈ord,0<=s/\s<a.st
 hd:Z9 ord 0=0/\0<ord.length
 al:(Xw a).al=a.al
 st:(Xw a).st=(ord.length:Int)
 mk2:(Xw a).mr=((oN 0 ord.length).filter λj:Nat=>decide (Z9 ord j∈a.mr)).map λj:Nat=>(j:Int)
 ed:(Xw a).ed=(oN 0 ord.length).flatMap (cnR a ord)
 cl:∀j,j<ord.length->∀e∈QQ a.ed (Z9 ord j),e.2.2∈ord
theorem Qg2 (J:Q0 a)(Y:0<a.st):∃ord,CnP a ord:=by
 have S:0<a.st.toNat:=oa
 have hI:CnG a 0 (Z3 a):=by
  refine⟨⟨by simp[Z3],λs I=>by simp[Z3]at I;subst I;omega,by simp[Z3],λk k0 k1=>?_⟩,Lo _,⟨by simp[Z3,Z9],by simp[Z3]⟩,by simp[Z3],by simp[Z3],λj hj=>oa⟩;by_cases ek:k=0
  ·subst ek;rw[OU (by simp[Z3])];unfold Z9 Z3;simp[oO,S]
  rw[OT (by simpa[Z3]using ek)];unfold Z3;have T:0≠k.toNat:=oa
  have U:k.toNat<a.st.toNat:=oa
  unfold Z9;rw[List.getD_eq_getElem?_getD,MT T];simp[U]
 obtain⟨V,E,h2⟩:=qr J a.st.toNat 0 (Z3 a) hI;have ha:(Xd a a.st.toNat 0 (Z3 a)).ord.length<=a.st.toNat:=xH _ _ E.nu.nd (λx hx=>oo (E.nu.bd x hx));have hi':V=(Xd a a.st.toNat 0 (Z3 a)).ord.length:=by have:=E.le;omega
 subst hi';have G:Xw a=⟨a.al,((Xd a a.st.toNat 0 (Z3 a)).ord.length:Int),(Xd a a.st.toNat 0 (Z3 a)).mk',(Xd a a.st.toNat 0 (Z3 a)).ed⟩:=by unfold Xw;rw[OT oa]
 refine⟨(Xd a a.st.toNat 0 (Z3 a)).ord,E.nu.nd,E.nu.bd,E.hd,by rw[G],by rw[G],?_,?_,E.cl⟩
 ·rw[G];exact E.mk2
 rw[G];exact E.ed
section
variable {p s:Qz}{pn xn v:Int}
end
section
variable {s:Qz}{l:List V6}
end
theorem Qg3 (E:Q0 a):Q0 (Xw a):=by
 have h0:=E.st0;have h1:=E.st1;by_cases V:a.st=0
 ·unfold Xw;rw[OU V];exact⟨E.al,E.ali,od,od,od,od,od,od⟩
 obtain⟨ord,h⟩:=Qg2 E oa;have hl:ord.length<=a.st.toNat:=xH _ _ h.nd (λx hx=>oo (h.bd x hx));refine⟨by rw[h.al];exact E.al,by rw[h.al];exact E.ali,by rw[h.st];omega,by rw[h.st];omega,λs I=>?_,?_,λe S=>?_,?_⟩
 ·rw[h.mk2]at I;simp only[Ol,Oi,Oh]at I;obtain⟨i,⟨hi,_⟩,rfl⟩:=I;rw[h.st];omega
 ·rw[h.mk2];unfold YA;rw[Ma];refine List.Pairwise.sublist ML ?_;exact(M5 (s:=0) (n:=ord.length)).imp (λh=>oa)
 ·rw[h.ed]at S;obtain⟨j,J,hd⟩:=Md.1 S;rw[L8]at J;unfold cnR at hd;obtain⟨d,T,rfl⟩:=Ly.1 hd;have:=Me (h.cl j oa d T);rw[h.st,h.al];unfold cnF;exact⟨oe,oe,((E.ed d (ZH T).1).2.2.1),oe,oe⟩
 rw[h.ed];have key:∀n,((oN 0 n).flatMap (cnR a ord)).Pairwise λx y:Ed=>x.1<y.1\/(x.1=y.1/\x.2.1<y.2.1):=by
  intro n;induction n with
  | zero=>simp
  | succ n ih =>
   rw[Mm,LD,LU,Mg];refine⟨ih,?_,λx hx y G=>?_⟩
   ·simp only[oT,OJ,Oo];unfold cnR;rw[Ma];have Y:(QQ a.ed (Z9 ord n)).Pairwise λx y:Ed=>x.1<y.1\/(x.1=y.1/\x.2.1<y.2.1):=List.Pairwise.sublist ML E.edi;refine List.Pairwise.imp_of_mem (λ{x y} hx G ha=>?_) Y;have e1:=(ZH hx).2;have e2:=(ZH G).2;right;exact⟨O,by show x.2.1<y.2.1;omega⟩
   obtain⟨j,J,U⟩:=Md.1 hx;rw[L8]at J;simp only[oT,OJ,Oo]at G;unfold cnR at U G;obtain⟨d,_,rfl⟩:=Ly.1 U;obtain⟨d',_,rfl⟩:=Ly.1 G;left;show(j:Int)<(n:Int);omega
 exact key _
theorem Qgy (E:Q0 a):Q0 ⟨a.al,0,[],[]⟩:=
 ⟨E.al,E.ali,Mx _,(by decide:(0:Int)<=4096),(λs G=>by cases G),List.Pairwise.nil,(λe I=>by cases I),List.Pairwise.nil⟩
theorem Qf8 (E:Q0 a)(lf:Lf):Q0 (QbI a lf):=by
 unfold QbI;split
 ·exact Qgy E
 exact Qg3 (UX E lf)
theorem KW {c:Z2}(h:KQ c=0):Q0 (Ks c):=Qf8 (QhZ h).1 _
theorem QbP {κ:Type}[DecidableEq κ]{l:List κ}{s:κ}(h:s∉l):xh (l.map λs=>(s,Value.bool true)) s (.bool true)=(l++[s]).map λs=>(s,Value.bool true):=by
 induction l with
 | nil=>rfl
 | cons a l ih =>
  have E:a≠s:=λe=>h (by subst e;exact Lm);show(if a=s then(a,Value.bool true)::(l.map λs=>(s,Value.bool true)) else(a,Value.bool true)::xh (l.map λs=>(s,Value.bool true)) s (.bool true))=_
  rw[OT E,ih (λG=>h (Lk _ G))];rfl
theorem Qh2 {κ:Type}[DecidableEq κ](l:List κ)(s:κ):xd (l.map λs=>(s,Value.bool true)) s=if s∈l then some (.bool true) else none:=by
 induction l with
 | nil=>rfl
 | cons a l ih =>
  show(if a=s then some (Value.bool true) else xd (l.map λs=>(s,Value.bool true)) s)=_
  rw[ih];by_cases h:a=s
  ·subst h;simp
  rw[OT h];have E:¬s=a:=λe=>h e.symm;simp[E]
section
variable {κ:Type}[DecidableEq κ]
theorem U2 [hm:Mp P t kt et (.bool false)]{enc:κ->O2}[hk:Key P kt enc]{x:O3}{b:Nat}{l:List κ}{s:κ}(h:ZU enc ↑w b (l.map λs=>(s,Value.bool true)))(hx:ev f x=.map (some b))(E:ev f y=enc s):
  (execOp (ev f) ⟨d,.lookup t x y false,ty,pS,af,gd⟩).run P w=.ok (.value (.bool (decide (s∈l)))) w:=by
 rw[Ji h hx E,Qh2];by_cases G:s∈l <;> simp[G]
end
section
variable {κ:Type}{enc:κ->O2}
abbrev setM (K:List κ):List (κ×O2):=K.map λs=>(s,Value.bool true)
def XM (enc:κ->O2)(H:xA)(b:Nat)(l:List κ):Prop:=∃K:List κ,ZU enc H b (setM K)/\∀x,x∈K↔x∈l
theorem XM.lt {H:xA}{b:Nat}{l:List κ}(h:XM enc H b l):b<H.size:=let⟨_,E,_⟩:=h;E.lt
theorem XM.J {X:LN}{w w':O1}{b:Nat}{l:List κ}(h:XM enc ↑w b l)(E:O5 X w w')(hb:b∉X):XM enc ↑w' b l:=let⟨K,G,I⟩:=h;⟨K,G.J E hb,I⟩
theorem XM.I {b:Nat}{l:List κ}(h:XM enc ↑w b l)(E:sW w w'):XM enc ↑w' b l:=h.J E od
theorem XM.zero {H:xA}{b:Nat}(h:ZU enc H b []):XM enc H b []:=⟨[],h,λ_=>Iff.rfl⟩
theorem QbQ [DecidableEq κ]{k:κ}:∀{K:List κ},k∈K->xh (setM K) k (.bool true)=setM K
 | [],h=>by cases h
 | a::K,h=>by
  show(if a=k then(a,Value.bool true)::setM K else(a,Value.bool true)::xh (setM K) k (.bool true))=_
  by_cases e:a=k
  ·rw[OU e];rfl
  rw[OT e,QbQ ((Ln.1 h).resolve_left (λh=>e h.symm))];rfl
theorem XM.put [DecidableEq κ]{H:xA}{b:Nat}{l K:List κ}{k:κ}(h:ZU enc H b (xh (setM K) k (.bool true)))(G:∀x,x∈K↔x∈l):XM enc H b (l++[k]):=by
 by_cases E:k∈K
 ·rw[QbQ E]at h;refine⟨K,h,λx=>?_⟩;rw[Lh,Lb,<-G x];exact⟨.inl,λhx=>hx.elim id λe=>e ▸ E⟩
 refine⟨K++[k],?_,λx=>by rw[Lh,Lh,G x]⟩;rw[QbP E]at h;exact h
end
section
variable {κ:Type}[DecidableEq κ]{enc:κ->O2}{x:O3}{b:Nat}{l:List κ}{k:κ}
theorem Qay [hm:Mp P t kt et (.bool false)][hk:Key P kt enc](h:XM enc ↑w b l)(hx:ev f x=.map (some b))(E:ev f y=enc k):(execOp (ev f) ⟨d,.lookup t x y false,ty,pS,af,gd⟩).run P w=.ok (.value (.bool (decide (k∈l)))) w:=by
 obtain⟨K,G,I⟩:=h;rw[U2 G hx E,bD (I k)]
theorem zW [hm:Mp P t kt et (.bool false)][hk:Key P kt enc]{v:O3}(h:XM enc ↑w b l)(hx:ev f x=.map (some b))(G:ev f y=enc k)(I:ev f v=.bool true)
  (hK:∀w',O5 [b] w w'->XM enc ↑w' b (l++[k])->K (QP f d undef) w'):XO P ⟨d,.mapUpdate t x y v,ty,pS,af,gd⟩ f w K:=by
 obtain⟨K,J,S⟩:=h;exact YO J hx G λw' T E=>hK w' T (XM.put (by rw[I]at E;exact E) S)
theorem QaK [hm:Mp P t kt et (.bool false)][hk:Key P kt enc]{v:O3}(h:XM enc ↑w b l)(hx:ev f x=.map (some b))(G:ev f y=enc k)(I:ev f v=.bool true)
  (hK:∀w',O5 [b] w w'->XM enc ↑w' b (l++[k])->K (QP f d undef) w'):XO P ⟨d,.insert t x y v,ty,pS,af,gd⟩ f w K:=by
 obtain⟨K,J,S⟩:=h;exact Yv J hx G λw' T E=>hK w' T (XM.put (by rw[I]at E;exact E) S)
end
instance ayYv1:Ay sV 156 2 3 1:=⟨oc,oc⟩
def qq:List Qz->Int
 | []=>0
 | a::l=>if X4 a≠0 then X4 a else qq l
def Qkp (kd:Int)(l:List Qz):Int:=if qq l≠0 then qq l else if kd≠1/\kd≠2 then 11 else 0
theorem QqX (a b:Qz)(kd:Int):Qkp kd [a,b]=lgE a b kd:=by
 unfold Qkp lgE qq;by_cases E:X4 a≠0
 ·simp only[OU E]
 rw[OT E,OT E];unfold qq;by_cases G:X4 b≠0
 ·simp only[OU G]
 rw[OT G,OT G];unfold qq;simp
theorem QdU {v:O2}{ps:List AV}(h0:X1 L ↑w v ps)(kd:Int):
  QR sV 68 [sS kd,v] w λr w'=>r=sS (Qkp kd (ps.map (·.a)))/\sW w w':=by
 have h:=h0.up (L':=[]) od;have hw:=h.arr.le;have G:Qkp kd (ps.map (·.a))=if qq (ps.map (·.a))≠0 then qq (ps.map (·.a)) else if kd≠1/\kd≠2 then 11 else 0:=rfl
 refine Zg (Qkp kd (ps.map (·.a))) λE hE=>?_;rw[hE]at G ⊢;refine Zm func68 ?_;refine Qc<|Qb<|Qd<|Qk<|QG h.arr O<|Qa<|xe<|QW (α:=Nat) [(4,4),(6,7),(10,19)] (λz=>[(10,sS z)]) (λz w'=>z<=ps.length/\sW w w'/\qq ((ps.drop z).map (·.a))=qq (ps.map (·.a))) (λz=>ps.length - z) 0 La ⟨Lo _,O5.Y _ _,O⟩ ?_;rintro k g w1 ⟨hk,I,hk1⟩;refine Zk rfl O (λU=>?_) (λU=>?_)
 ·refine Qt ?_;have hj:ps.length<=k:=by have hm:¬(k:Int)<(ps.length:Int):=U;omega
  rw[Lr hj]at hk1;have hz:qq (ps.map (·.a))=0:=hk1.symm;rw[OT (ou hz)]at G;refine Qd<|QX (α:=Bool) [(20,25)] (λz=>[(25,.bool z)]) (λz w'=>w'=w1/\z=decide (kd≠1/\kd≠2)) oh ?_ ?_
  ·refine Qs<|Qa<|xb (JN O O) (λV=>?_) (λV=>?_)
   ·refine Qa<|Qa<|ZM O O<|QB O<|xe ?_;have Y:¬kd=1:=V;exact⟨decide (¬kd=2),La,O,by simp[Y]⟩
   refine Qa<|Yf<|QB O<|xe ?_;have Y:kd=1:=Ls.1 V;exact⟨false,La,O,by simp[Y]⟩
  rintro z g w2 ⟨rfl,hc⟩;refine Q6 O (λha=>?_) (λha=>?_)
  ·rw[OU (OY (hc.symm.D ha))]at G;subst G;refine Qc<|Qb<|Qh ⟨[_],La,O,I⟩
  rw[OT (O0 (hc.symm.D ha))]at G;subst G;refine Qf<|Qc<|Qb<|Qh ⟨[_],La,O,I⟩
 have J:k<ps.length:=by have hm:(k:Int)<(ps.length:Int):=U;omega
 have he:=Le J;rw[LZ J,LS,qq]at hk1;refine Qf<|Qd<|Qn<|Qc<|O8 (g:=ZB) (i:=k) VY (h.I I).arr O O J λhy hf=>?_;refine Zg (ps[k]'J) λq hq=>?_;rw[hq]at hf he hk1;have S:=(h.I I).each q he;refine x (QA hf O O)<|QN [nS,sS 0,nS,nS] λb6 w3 hn ho hp=>Q2 (ZB q) hp ⟨S.al.one,O,S.mr.one,S.ed.one,Z⟩ λw4 hs ht =>
  xe ?_
 have hg:sW w1 w4:=hn.Q hs ho;refine Qc<|QV ht O O<|Qv<|(Y5 (S.I hg)).S ?_;rintro r5 w5 ⟨rfl,hu⟩;refine Qb ?_;have hh:=(I.D hg).D hu;refine Qk<|ZM O O<|xe<|Zi rfl (λT=>?_) (λT=>?_)
 ·rw[OU T]at hk1;have hv:qq (ps.map (·.a))≠0:=by rw[<-hk1];exact T
  rw[OU hv,<-hk1]at G;subst G;refine Qk<|Qb<|Qh ⟨[_],La,O,hh⟩
 rw[OT T]at hk1;refine Qf<|Qs<|QD O O<|Qa<|xe ?_;exact⟨k+1,oa,La,J,hh,hk1⟩
abbrev stI (l:LI):List (Int×O2):=l.map λs=>(s,Value.bool true)
structure Mch (H:xA)(b m1 m2:Nat)(a:Qz):Prop where
 B:QL H b 251 [.map (some m1),.map (some m2),sS (fst a)]
 e:ZU Yp H m1 (KM [] a.ed)
 m:ZU XG H m2 (stI a.mr)
theorem Mch.J {X:LN}{w w':O1}{b E G:Nat}{a:Qz}(h:Mch ↑w b E G a)(I:O5 X w w')(J:b∉X)(S:E∉X)(T:G∉X):Mch ↑w' b E G a:=⟨h.B.J I J,h.e.J I S,h.m.J I T⟩
theorem Mch.I {b:Nat}(h:Mch ↑w b E G a)(I:sW w w'):Mch ↑w' b E G a:=h.J I od od od
theorem jM {b I J:Nat}(h:Mch ↑w b I J a)(S:Q0 a)(s v:Int):
  QR sV 145 [sP b,sS s,sS v] w λr w'=>r=sS (nxt a.ed s v)/\sW w w':=by
 have E:nxt a.ed s v=(if(xj a.ed s v).isSome=true then(xj a.ed s v).getD 0 else -1):=by rw[Qcf];cases xj a.ed s v <;> rfl
 refine Zm func145 ?_;refine Qc<|Qb<|Qd<|Qk<|Z6 O<|Qq O h.B O O<|Qa<|Qa<|x (QE ⟨O,O,Z⟩)<|x (QlC (s:=a) (q:=s) (v:=v) h.e S.edi O O) <|
  Qa<|QJ rfl O<|QJ O O<|x Qe<|Qb<|Qk<|xe ?_
 refine Zi rfl (λG=>?_) (λG=>?_)
 ·rw[OU G]at E;refine Qk<|Qb<|Qh ⟨[_],La,by rw[E];rfl,O5.Y _ _⟩
 rw[OT G]at E;refine Qf<|Qc<|Qb<|Qh ⟨[_],La,by rw[E];rfl,O5.Y _ _⟩
theorem Qfn {b S:Nat}(h:Mch ↑w b S T a)(s kd:Int):
  QR sV 73 [sP b,sS s,sS kd] w λr w'=>r=.bool (z6 a kd s)/\sW w w':=by
 refine Zm func73 ?_;refine Qc<|Qb<|QX (α:=Bool) [(6,20)] (λz=>[(6,.bool z)]) (λz w'=>w'=w/\z=z6 a kd s) oh ?_ ?_
 ·refine Qs<|Qa<|xb (Yl O O) (λE=>?_) (λE=>?_)
  ·have G:0<=s:=E;refine Qa<|Qa<|xb (Zd O O) (λI=>?_) (λI=>?_)
   ·refine Qa<|Zq<|Zq<|QB O<|QB O<|Qb ?_;have J:kd=1:=I;exact⟨true,La,O,by simp[z6,G,J]⟩
   have J:¬kd=1:=I;refine Qa<|Qa<|Z6 O<|Qq O h.B O O<|Qa<|x (U2 (s:=s) h.m O O)<|QB O<|x (VM O) <|
    Qb<|⟨decide (s∈a.mr),La,O,by simp[z6,G,J]⟩
  have G:¬0<=s:=E;refine Qa<|Zq<|Zq<|Zq<|Kt<|QB O<|x Qe <|
   xe ?_
  exact⟨false,La,O,by simp[z6];omega⟩
 rintro z g U ⟨rfl,rfl⟩;exact Qh ⟨[_],La,O,O5.Y _ _⟩
theorem Qi9 {b10 S b11 hf hg U hh hj:Nat}{b:Qz}{kd:Int}(hk:QL ↑w b10 152 [sP T])(hm:QL ↑w b11 152 [sP U])
  (V:QL ↑w S 3 [sS kd]) (ha:Mch ↑w T hf hg a) (hb:Mch ↑w U hh hj b) (s t:Int):
  QR sV 72 [.agg #[sS s,sS t],sP b10,sP S,sP b11] w λr w'=>r=.bool (!(z6 a kd s == z6 b kd t))/\sW w w':=by
 refine Zm func72 ?_;refine Qc<|Za [sS s,sS t] λb4 J G hn Y=>Qb ?_;have hd:sW J { J with drawn:=J.drawn+1 }:=O5.X _ _
 refine Qd<|ZL [] [oz 0,oz 1,oz 2,oz 3,oz 5,oz 6,oz 7,oz 8,oA 4,oA 9,oz 10,oz 11]<|pq (λ_ E=>Ql ((hk.I G).I E) O O)<|p (λ_=>ZV (i:=0) O O og)<|pq (λ_ E=>Ql (Y.I E) O O)<|pq (λ_ E=>Ql ((V.I G).I E) O O)<|pq (λ_ E=>Ql ((hm.I G).I E) O O) <|
  p (λ_=>ZV (i:=1) O O og)<|pq (λ_ E=>Ql (Y.I E) O O)<|pq (λ_ E=>Ql ((V.I G).I E) O O)<|pk<|xg<|(Qfn ((ha.I G).I hd) s kd).S ?_
 rintro r2 w2 ⟨rfl,I⟩;refine⟨hd.D I,?_⟩;refine pk<|xg<|(Qfn (((hb.I G).I hd).I I) t kd).S ?_;rintro r3 w3 ⟨rfl,he⟩;refine⟨(hd.D I).D he,?_⟩;refine p (λ_=>QdD O O)<|p ZN<|pe ?_;exact Qh ⟨[_],La,O,((G.D hd).D I).D he⟩
theorem jN (h:Zp [] ↑w va vm ve a)(ho:Q0 a):
  QR sV 69 [.agg #[va,sS a.st,vm,ve]] w λr w'=>sW w w'/\∃b E G,r=sP b/\↑w<=b/\↑w<=E/\↑w<=G/\Mch ↑w' b E G a:=by
 have go:=h.ed.le;have gq:=h.mr.le;refine Zm func69 ?_;refine Qc<|Za [va,sS a.st,vm,ve] λb1 w1 h2 gr h3=>Qb<|Qc<|Qo<|Z1 Yp λE w2 hM gs h4=>Qo<|Z1 XG λG w3 h5 gt h9=>x (QE ⟨O,O,O,Z⟩)<|Za [.map (some E),.map (some G),sS 0] λb11 S ha gu hB =>
  Qb ?_
 have gv:=h4.lt;have gx:=h9.lt;have hg:=(hM.D h5).D ha;have hh:=h3.I hg;have gy:=h3.lt;have hN:ZU Yp ↑S E []:=((h4.J h5 od).J ha od);have hO:ZU XG ↑S G []:=h9.J ha od;have hn:∀{b:Nat},b∈[b11,E,G]->↑w1<=b:=λhb=>by simp only[oK,oH,or_false]at hb;omega
 have hC:b1∉[b11,E,G]:=λhb=>oo (hn hb)
 have hP:∀b∈[b11,E,G],↑w<=b:=λb hb=>oo (hn hb)
 have hA:∀{w':O1},O5 [b11,E,G] S w'->Zp [] ↑w' va vm ve a:=λhs =>
  ((((h.I h2).up (L':=[b11,E,G]) (λb hb=>.inr (hn hb))).I hg).st hs).up od
 have hQ:∀b∈[b11],b∈[b11,E,G]:=λb hb=>by simp only[oF]at hb;simp[hb]
 have k1:∀b∈[E],b∈[b11,E,G]:=λb hb=>by simp only[oF]at hb;simp[hb]
 have k2:∀b∈[G],b∈[b11,E,G]:=λb hb=>by simp only[oF]at hb;simp[hb]
 refine QX (α:=Unit) [(12,17)] (λz=>[]) (λz w'=>O5 [b11] S w'/\QL ↑w' b11 251 [.map (some E),.map (some G),sS (fst a)]) oh ?_ ?_
 ·refine Qc<|Qq O hh O O<|x (Zd O O)<|xe<|Zi O (λhp=>?_) (λhp=>?_)
  ·have hf:fst a=-1:=by unfold fst;rw[OU hp]
   refine Qs<|Qa<|Z6 O<|Zc O<|Qo<|Qw (j:=2) (u:=sS (-1)) hB O O od rfl λw5 hR hS=>xe ?_;exact⟨(),Z,hR,by rw[hf];exact hS⟩
  have hf:fst a=0:=by unfold fst;rw[OT hp]
  refine Qf ?_;exact⟨(),Z,O5.Y _ _,by rw[hf];exact hB⟩
 rintro z g w6 ⟨hq,hT⟩;have hr:=hq.S hQ;have hU:ZU Yp ↑w6 E []:=hN.J hq ol;have hV:ZU XG ↑w6 G []:=hO.J hq ol;have hW:=hh.J hr hC;have h6:=hA hr;refine Qd<|Qc<|Qq O hW O O<|QG h6.ed O<|Qa<|xe<|QW (α:=Nat) [(5,5),(21,36)] (λz=>[(21,sS z)]) (λz w'=>z<=a.ed.length/\O5 [E] w6 w'/\ZU Yp ↑w' E (KM [] (a.ed.take z))) (λz=>a.ed.length - z) 0 La
  ⟨Lo _,O5.Y _ _,hU⟩ ?_
 rintro k g w7 ⟨hk,T,ht⟩;have hu:O5 [b11,E,G] S w7:=hr.V (T.S k1);have h7:=hA hu;have hD:=hT.J T ol;have hX:=hV.J T ol;have hY:=hh.J hu hC;refine Zk rfl O (λhv=>?_) (λhv=>?_)
 ·refine Qt ?_;have hZ:a.ed.length<=k:=by have hw:¬(k:Int)<(a.ed.length:Int):=hv;omega
  rw[Lq hZ]at ht;refine Qd<|Qc<|Qq O hY O O<|QG h7.mr O<|Qa<|xe<|QW (α:=Nat) [(7,7),(40,49)] (λz=>[(40,sS z)]) (λz w'=>z<=a.mr.length/\O5 [G] w7 w'/\ZU XG ↑w' G (stI (a.mr.take z))) (λz=>a.mr.length - z) 0 La
   ⟨Lo _,O5.Y _ _,hX⟩ ?_
  rintro j g w8 ⟨hj,U,hy⟩;have hE:O5 [b11,E,G] S w8:=hu.V (U.S k2);have h8:=hA hE;have hF:=hD.J U ol;have ga:=ht.J U ol;refine Zk O O (λhz=>?_) (λhz=>?_)
  ·refine Qt ?_;have gb:a.mr.length<=j:=by have hw:¬(j:Int)<(a.mr.length:Int):=hz;omega
   rw[Lq gb]at hy;refine Qk<|Qb<|Qh ⟨[sP b11],La,(h2.D hg).O hE (λb hb=>.inr (hP b hb)),b11,E,G,O,oa,oa,oa,hF,ga,hy⟩
  have I:j<a.mr.length:=by have hw:(j:Int)<(a.mr.length:Int):=hz;omega
  have hG:a.mr.take (j+1)=a.mr.take j++[a.mr[j]'I]:=Lj I;have hH:(a.mr[j]'I)∉a.mr.take j:=by
   intro hm;obtain⟨i,hi,e⟩:=LP hm;rw[M6]at e;have hi':i<j:=by rw[LC]at hi;omega
   have:=YA.get ho.mri I hi';omega
  refine Qf<|Qd<|Qn<|Qc<|xii (i:=j) h8.mr O O I λgz hI=>?_;refine Zg (a.mr[j]'I) λs hs=>?_;rw[hs]at hI hG hH;refine x (Qr hI O)<|Qb<|Qs<|Qa<|Z6 O<|Qq O hF O O<|Qa<|Qo<|YO (k:=s) hy O O λw9 gc ge=>xe ?_;refine Qs<|QD O O<|Qa<|xe<|⟨j+1,oa,La,I,U.V gc,?_⟩;rw[hG];have hJ:ZU XG ↑w9 G (xh ((a.mr.take j).map λs=>(s,Value.bool true)) s (.bool true)):=ge;rw[QbP hH]at hJ;exact hJ
 have V:k<a.ed.length:=by have hw:(k:Int)<(a.ed.length:Int):=hv;omega
 have hK:=yu (m:=[]) V;refine Qf<|Qd<|Qn<|Qc<|xie (i:=k) h7.ed O O V λg0 hL=>?_;refine Zg (a.ed[k]'V) λe he=>?_;rw[he]at hL hK;refine x (QA hL O O)<|QN [sS 0,sS 0,sS 0] λb5 g2 gg gh gi=>Q2 (Qp e) gi ox λY gj h0 =>
  xe ?_
 have h1:sW w7 Y:=gg.Q gj gh;have gk:=hD.I h1;have gl:ZU Yp ↑Y E (KM [] (a.ed.take k)):=ht.J h1 od;refine ZL [] (Xg 0 12 [11])<|p Qx<|p (YL O)<|p (QH O)<|pq (λ_ J=>Ql (gk.I J) O O) <|
  p (QH rfl)<|pq (λ_ J=>Ql (h0.I J) O O)<|p (QH O)<|pq (λ_ J=>Ql (h0.I J) O O) <|
  p (λ_=>QE ⟨O,O,Z⟩)<|p (QH O)<|pq (λ_ J=>Ql (h0.I J) O O)<|pkk<|YO (k:=(e.1,e.2.1)) (gl.J (O5.X [] Y) od) rfl rfl λg3 gm gn =>
  pe ?_
 refine Qs<|QD O O<|Qa<|xe<|⟨k+1,oa,La,V,((T.D h1).D (O5.X [] Y)).V gm,?_⟩;rw[hK];exact gn
section
variable {all:xD}
def Qqd (all:xD)(pre:xt)(k:Nat)(t:Pt):Bool :=
 Region.noSelect all.toArray && (pre.length+(t.len+1) == all.length) && Jb all.toArray pre (oP all.length false) && (Region.ready .any all.toArray (ZS pre (oP all.length false)) == [k]) && Qik all.toArray t ((ZS pre (oP all.length false)).setIfInBounds k true)
theorem Qnq {Q:Exit->Fr->O1->Prop}(C:xz)(pre:xt)(k:Nat)(t:Pt)(V:P.follows .mixedOrders=true)(Y:Xu n all=true)(S:Qqd all pre k t=true)
  (hC:C { w with drawn:=w.drawn+1 }) (h:XP P all C (λf1 E=>Z8 all f1 (QT all k)=true/\XO P (QT all k) f1 E λG w'=>C w'/\XT P all C (λf w=>Q .normal f w) t G w') pre f { w with drawn:=w.drawn+1 }):W P n (.region id all.toArray true) Q f w:=by
 simp only[Qqd,oI,beq_iff_eq]at S;obtain⟨⟨⟨⟨T,hl⟩,hq⟩,I⟩,ht⟩:=S;refine JB C V Y ?_;have U:=YG (K:=λf w=>Q .normal f w) (m:=t.len+1) T pre (oP all.length false) f _ hC hq
  (B:=λf1 E=>Z8 all f1 (QT all k)=true/\XO P (QT all k) f1 E λG w'=>C w'/\XT P all C (λf w=>Q .normal f w) t G w')
  (λf1 J=>by
   refine JU (λh0=>(by rw[h0]at I;cases I)) ?_;rw[I];intro j hj o ho;have ha:j=k:=by simpa using hj
   subst ha;rw[ZJ ho]at J;rw[J.1,cond_true];exact J.2.S λv w' hx=>⟨.inr (.inr hx.1),VZ T t _ _ _ (by simp[YK]) hx.1 ht hx.2⟩) h
 rw[hl]at U;exact U
end
theorem At.sub {H:xA}{a:Addr}(h:At L H a us)(n:Nat):At L H a (us.take n):=
 ⟨λu E=>h.out u (L3 E),λu E=>h.lt u (L3 E),λj u E=>by
  rw[L2]at E;split at E
  ·exact h.cell j u E
  cases E⟩
abbrev YH (p:Vs):LV:=[sS p.x,sS p.y,sS p.b,sS p.v]
theorem zB (p:Vs):(YH p).length=4:=rfl
theorem QiR:∀(es:List Ed) (s v:Int),(∀e∈es,0<=e.2.2)->-1<=nxt es s v
 | [],_,_,_=>Mx _
 | e::es,s,v,h=>by
  rw[nxt];split
  ·have:=h e Lm;omega
  exact QiR es s v (λx hx=>h x (Lk _ hx))
theorem QiN (E:Q0 a)(s v:Int):-1<=nxt a.ed s v/\(nxt a.ed s v<a.st\/nxt a.ed s v=-1):=by
 have G:=QiR a.ed s v (λe I=>(E.ed e I).2.2.2.1);refine⟨G,?_⟩;by_cases h:nxt a.ed s v<0
 ·right;omega
 left;exact QiP E h
structure VsI (a b:Qz)(V:List Vs):Prop where
 nd:(V.map Vs.ky).Nodup
 rg:∀p∈V,-1<=p.x/\(p.x<a.st\/p.x=-1)/\-1<=p.y/\(p.y<b.st\/p.y=-1)
 bk:∀(k:Nat) (h:k<V.length),V[k].b<(k:Int)
def cdV (m:Nat)(p:Int×Int):Int:=(p.1+1)*(m+1)+(p.2+1)
theorem Qpu {x y:Int}(hx:-1<=x/\(x<n\/x=-1))(J:-1<=y/\(y<m\/y=-1)):0<=cdV m (x,y)/\cdV m (x,y)<(((n+1)*(m+1):Nat):Int):=by
 unfold cdV;obtain⟨u,E⟩:∃u:Nat,x+1=u:=⟨(x+1).toNat,oa⟩;obtain⟨v,G⟩:∃v:Nat,y+1=v:=⟨(y+1).toNat,oa⟩;have I:u<=n:=oa
 have S:v<=m:=oa
 show 0<=(x+1)*((m:Int)+1)+(y+1)/\(x+1)*((m:Int)+1)+(y+1)<_;rw[E,G];have T:u*(m+1)+v<(n+1)*(m+1):=by
  have U:u*(m+1)<=n*(m+1):=MQ _ I;have V:(n+1)*(m+1)=n*(m+1)+(m+1):=by rw[My,NH]
  omega
 have e:((u:Int)*((m:Int)+1)+(v:Int))=((u*(m+1)+v:Nat):Int):=by push_cast;rfl
 rw[e];constructor <;> omega
theorem Qnb {x y G E:Int}(hx:-1<=x)(he:-1<=G)(hy:-1<=y/\(y<m\/y=-1))(hf:-1<=E/\(E<m\/E=-1))(h:cdV m (x,y)=cdV m (G,E)):(x,y)=(G,E):=by
 unfold cdV at h;have J:(x+1)*((m:Int)+1)+(y+1)=(G+1)*((m:Int)+1)+(E+1):=h;obtain⟨u,S⟩:∃u:Nat,x+1=u:=⟨(x+1).toNat,oa⟩;obtain⟨I,T⟩:∃I:Nat,G+1=I:=⟨(G+1).toNat,oa⟩;obtain⟨v,U⟩:∃v:Nat,y+1=v:=⟨(y+1).toNat,oa⟩;obtain⟨v',V⟩:∃v':Nat,E+1=v':=⟨(E+1).toNat,oa⟩;rw[S,T,U,V]at J;have Y:u*(m+1)+v=I*(m+1)+v':=by exact_mod_cast J
 have ha:v<m+1:=oa
 have hc:v'<m+1:=oa
 have e1:u=I:=by
  have a1:(u*(m+1)+v) / (m+1)=u:=by rw[Nat.mul_comm,Nat.mul_add_div oa,Nat.div_eq_of_lt ha,MY]
  have a2:(I*(m+1)+v') / (m+1)=I:=by rw[Nat.mul_comm,Nat.mul_add_div oa,Nat.div_eq_of_lt hc,MY]
  rw[<-a1,<-a2,Y]
 subst e1;have:x=G/\y=E:=⟨oa,oa⟩;rw[this.1,this.2]
theorem VsI.len {b:Qz}(I:Q0 a)(hb:Q0 b){V:List Vs}(h:VsI a b V):V.length<=(a.st.toNat+1)*(b.st.toNat+1):=by
 have he:=I.st0;have hf:=hb.st0;have J:=xH ((a.st.toNat+1)*(b.st.toNat+1)) ((V.map Vs.ky).map (cdV b.st.toNat)) (by
  unfold List.Nodup;rw[Ma];refine(List.Pairwise.imp_of_mem ?_ h.nd);intro p q G S T e;obtain⟨U,Y,rfl⟩:=Ly.1 G;obtain⟨q',hc,rfl⟩:=Ly.1 S;have E:=h.rg U Y;have r2:=h.rg q' hc;exact T (Qnb E.1 r2.1 ⟨E.2.2.1,oa⟩ ⟨r2.2.2.1,oa⟩ e)) (λx hx=>by
  obtain⟨k,hk,rfl⟩:=Ly.1 hx;obtain⟨p,G,rfl⟩:=Ly.1 hk;have E:=h.rg p G;exact Qpu ⟨E.1,oa⟩ ⟨E.2.2.1,oa⟩)
 simpa using J
theorem Qo2 {V W:List Vs}(h:i<V.length):gV (V++W) i=gV V i:=by unfold gV;simp[oO,Oa h]
theorem Qd4 {V:List Vs}(h:i<V.length):gV V i=V[i]'h:=by unfold gV;simp[oO,h]
theorem QjF (E:Q0 a):-1<=fst a/\(fst a<a.st\/fst a=-1):=by
 have:=E.st0;unfold fst;split
 ·exact⟨oa,.inr O⟩
 exact⟨oa,.inl oa⟩
theorem VsI.one {b:Qz}(J:Q0 a)(hb:Q0 b):VsI a b [⟨fst a,fst b,-1,0⟩]:=by
 have E:=QjF J;have G:=QjF hb;refine⟨od,λp I=>?_,λk h=>?_⟩
 ·simp only[oF]at I;subst I;exact⟨E.1,E.2,G.1,G.2⟩
 have S:k=0:=by simpa using h
 subst S;exact(by decide:(-1:Int)<0)
theorem VsI.add {b:Qz}(J:Q0 a)(hb:Q0 b){V:List Vs}(h:VsI a b V)(hi:i<V.length){p:Vs}{v:Int}(S:(jO a b i p v).ky∉V.map Vs.ky):VsI a b (V++[jO a b i p v]):=by
 refine⟨?_,λq E=>?_,λk U=>?_⟩
 ·rw[Lv,Mb];refine⟨h.nd,od,λx hx y G e=>?_⟩;simp only[oS,OC,oF]at G;subst G;subst e;exact S hx
 ·rcases Lh.1 E with E|E
  ·exact h.rg q E
  simp only[oF]at E;subst E;have I:=QiN J p.x v;have r2:=QiN hb p.y v;exact⟨I.1,I.2,r2.1,r2.2⟩
 rw[List.getElem_append];split
 ·rename_i T;exact h.bk k T
 have:V.length<=k:=oa
 simp only[List.getElem_singleton,jO];omega
theorem Qi8 (V:List Vs)(f k:Nat):lgW V (f+1) k=if 0<=(gV V k).b then(gV V k).v::lgW V f (gV V k).b.toNat else[]:=rfl
instance:Bw sV 253 [sS 0,sS 0,sS 0,sS 0] [(0,2),(2,1),(3,1)]:={}
abbrev VsO (base:Nat)(w:O1)(v:O2)(l:List Vs):Prop:=w.ownsRow base 253 4 v l.length (l.flatMap YH)
theorem VsO.snoc {v:O2}{l:List Vs}{p:Vs}(h:w.ownsRow base 253 4 v (l.length+1) (l.flatMap YH++YH p)):VsO base w v (l++[p]):=by
 unfold VsO;rw[Lc,LD];simpa using h
theorem Vo {p:Prop}{i:Decidable p}(h:(!@decide p i)=true):¬p:=by
 cases i with
 | isTrue E=>cases h
 | isFalse E=>exact E
theorem Ke {p:Prop}{i:Decidable p}(h:(!@decide p i)=false):p:=by
 cases i with
 | isTrue E=>exact E
 | isFalse E=>cases h
structure Qai (H:xA)(m:Nat)(V:List Vs):Prop where
 h:∃K:xw,ZU Yp H m (setM K)/\∀k,k∈K↔k=(-1,-1)\/k∈V.map Vs.ky
theorem KX {H:xA}{K:xw}{k:Int×Int}(h:ZU Yp H m (xh (setM K) k (.bool true))):∃K',ZU Yp H m (setM K')/\∀x,x∈K'↔x=k\/x∈K :=
 let⟨K',a,b⟩:=XM.put h (λ_=>Iff.rfl)
 ⟨K',a,λx=>(b x).D (by rw[Lh,Lb];exact Or.comm)⟩
theorem Qai.I {V:List Vs}(h:Qai ↑w m V)(E:sW w w'):Qai ↑w' m V:=let⟨K,G,I⟩:=h.h;⟨K,G.J E od,I⟩
theorem jP (a b:Qz)(i:Nat)(p:Vs)(V:List Vs)(v:Int):((jO a b i p v).ky≠(-1,-1)/\(jO a b i p v).ky∉V.map Vs.ky/\lgA a b i p V v=V++[jO a b i p v])\/(((jO a b i p v).ky=(-1,-1)\/(jO a b i p v).ky∈V.map Vs.ky)/\lgA a b i p V v=V):=by
 unfold lgA;by_cases h:(jO a b i p v).ky≠(-1,-1)/\(jO a b i p v).ky∉V.map Vs.ky
 ·exact .inl ⟨h.1,h.2,OU h⟩
 refine .inr ⟨?_,OT h⟩;by_cases E:(jO a b i p v).ky=(-1,-1)
 ·exact .inl E
 exact .inr (Ls.1 λG=>h ⟨E,G⟩)
theorem Qgg {al:LI}{kb mq ms kc mt mu:Nat}{b:Qz}{kd:Int}[Fu sV g fn](hT:Qu [] ↑w vl al)(ke:Mch ↑w kb mq ms a)(kf:Mch ↑w kc mt mu b)(hp:Q0 a)(hq:Q0 b)
  (hk:∀(s t:Int) (w1:O1),sW w w1->QR sV g ([.agg #[sS s,sS t]]++cap) w1 λr w'=>r=.bool (!(z6 a kd s == z6 b kd t))/\sW w1 w'):
  QR sV 70 [vl,sP kb,sP kc,.func (.func g) #[] cap.toArray] w λr w'=>sW w w' /\
   match lgL a b kd al ((a.st.toNat+1)*(b.st.toNat+1)+1) 0 [⟨fst a,fst b,-1,0⟩]with|none=>r=.tuple #[Zs,.bool false]|some u=>∃v,r=.tuple #[v,.bool true]/\Qi 3 ↑w w' v u:=by
 have hall:=hT.le;have ha1:=hp.st1;have hb1:=hq.st1;have mv:(a.st.toNat+1)*(b.st.toNat+1)<=4097*4097:=M9 oa oa;refine Zg ((a.st.toNat+1)*(b.st.toNat+1)) λN hN=>?_;rw[hN]at mv ⊢;refine Zg (lgL a b kd al (N+1) 0 [⟨fst a,fst b,-1,0⟩]) λR hR=>?_;rw[hR];refine Zm func70 ?_;refine Qc<|x Qe<|Qb<|Qd<|ZL [] (Xg 0 11 [9,10])<|p Qx<|p (YL O)<|p (QH O)<|pq (λ_ E=>Ql (ke.B.I E) O O)<|p Qx<|p (YL O) <|
  p (QH rfl)<|pq (λ_ E=>Ql (kf.B.I E) O O)<|p (λ_=>QE ⟨O,O,Z⟩)<|pk<|YU (us:=[sS 0,sS 0]) O λb10 w1 kg mw my=>⟨(O5.X [] w).D kg,?_⟩
 refine pkk<|Uk [sS (fst a),sS (fst b)] my ov λw2 mz hU=>pe ?_;have m0:↑w<=b10:=mw;have m1:sW w w2:=((O5.X [] w).D kg).Q mz m0;have hl10:=hU.lt;refine Qc<|QV hU O O<|x (Zu [(0,[sS (fst a),sS (fst b)]),(1,[sS (-1)]),(2,[sS 0])] ⟨O,O,O,O,O,O,Z⟩)<|Qo<|Q9 [YH ⟨fst a,fst b,-1,0⟩] λhC S kh hb29 ki =>
  Qb ?_
 have m2:=m1.D kh;have hl29:=ki.lt;have m3:=hU.I kh;have m4:VsO ↑w S (sL hC 1 1) [⟨fst a,fst b,-1,0⟩]:=ki.own (n:=1) (sz:=4) O oa oa;refine QX (α:=Nat) [(30,33),(12,12)] (λz=>[(12,.map (some z))]) (λz w'=>sW S w'/\↑S<=z/\Qai ↑w' z [⟨fst a,fst b,-1,0⟩]) oh ?_ ?_
 ·have hV:sW S { S with drawn:=S.drawn+1 }:=O5.X _ _
  have kj:∀(k:Int×Int),k∈[⟨fst a,fst b,-1,0⟩].map Vs.ky↔k=(fst a,fst b):=λk=>by simp[Vs.ky]
  refine Qnq (sW S) [oz 1,oz 3] 0 (.fk [] 2 4 (.pl [oA 4,oz 5,oz 6]) (.pl [oA 2,oz 5,oz 6])) mixed oh oc (O5.X _ _) ?_;refine pq (λ_ E=>Q7 (m3.I E) O O)<|p (λ_=>QE ⟨O,O,Z⟩)<|pe ⟨O,Z1 Yp λm w4 hr hm hM=>⟨hV.D hr,tf<|pe ⟨⟨O,?_⟩,O,?_⟩⟩⟩
  ·have T:↑S<=m:=hm;refine Yv (k:=(fst a,fst b)) hM O O λw5 he hW=>?_;have hg:=(hV.D hr).Q he T;obtain⟨K1,hX,hY⟩:=KX (K:=[]) hW;refine⟨hg,?_⟩;refine tp<|pk<|Yv (k:=(-1,-1)) hX O O λw6 I hZ=>⟨hg.Q I T,?_⟩;refine p Qx<|p ZN<|pe ?_;obtain⟨K2,ga,gb⟩:=KX hZ;exact⟨m,La,hg.Q I T,T,⟨K2,ga,λk=>by rw[gb,hY,kj];simp⟩⟩
  have T:↑S<=m:=hm;refine Yv (k:=(-1,-1)) hM O O λw5 he hW=>?_;have hg:=(hV.D hr).Q he T;obtain⟨K1,hX,hY⟩:=KX (K:=[]) hW;refine⟨hg,?_⟩;refine tp<|pk<|Yv (k:=(fst a,fst b)) hX O O λw6 I hZ=>⟨hg.Q I T,?_⟩;refine p Qx<|p ZN<|pe ?_;obtain⟨K2,ga,gb⟩:=KX hZ;exact⟨m,La,hg.Q I T,T,⟨K2,ga,λk=>by rw[gb,hY,kj];simp[or_comm]⟩⟩
 rintro m g0 w4 ⟨hr,hm4,m5⟩;have m6:=m2.D hr;have m7:↑w<=m:=oa
 have m8:m∉ob (sL hC 1 1):=by
  intro h;have h':m∈[hC]:=h;simp only[oF]at h';omega
 refine Qd<|Qc<|Qb<|QW (α:=Nat×O2×List Vs×Nat) [(8,9),(11,11),(13,14),(16,17),(34,108)] (λz=>[(8,Zs),(11,z.2.1),(13,sS z.1)]) (λz w'=>z.1<=z.2.2.1.length/\sW w w'/\VsO ↑w w' z.2.1 z.2.2.1/\Qai ↑w' m z.2.2.1/\m∉ob z.2.1/\VsI a b z.2.2.1/\z.2.2.2+z.1=N+1/\lgL a b kd al z.2.2.2 z.1 z.2.2.1=R) (λz=>z.2.2.2) (0,sL hC 1 1,[⟨fst a,fst b,-1,0⟩],N+1) ox
  ⟨Lo _,m6,Qm m4 hr,m5,m8,VsI.one hp hq,O,hR⟩ ?_
 rintro⟨i,vV,V,f⟩ g1 w5 ⟨hi,he,gc,kk,kn,hD,hf,J⟩;simp only[]at hi gc kk kn hD hf J;have hVlen:V.length<=N:=by rw[<-hN];exact VsI.len hp hq hD
 have ge:Zt [] ↑w5 vV V.length 4 (V.flatMap YH):=QO gc oa od;refine Qd<|Qk<|Qa<|QG ge O<|ZX O O<|xe<|Zr rfl (λgg=>?_) (λgg=>?_)
 ·refine Qt ?_;have m9:¬i<V.length:=by have gh:¬(i:Int)<(V.length:Int):=gg;omega
  have pc:R=none:=by
   rw[<-J];cases f with
   | zero=>rfl
   | succ f=>rw[lgL,OT m9]
  rw[pc];refine Qc<|x Qe<|Qb<|Qh ⟨[Zs,.bool false],ov,he,O⟩
 have h4:i<V.length:=by have gh:(i:Int)<(V.length:Int):=gg;omega
 refine Exists.elim (show ∃f',f=f'+1 from⟨f - 1,oa⟩) λf' pd=>?_;rw[pd]at J;rw[lgL,OU h4]at J;have pf:=Qd4 h4;refine Qf<|Qd<|Qn<|Qd<|Qk<|Qa<|Qa<|O8 (g:=YH) (i:=i) zB ge O O h4 λa43 gi=>?_;rw[<-pf]at gi;refine Zg (gV V i) λpi ko=>?_;rw[ko]at gi J;refine x (ZI O)<|x (QA (us:=[sS pi.x,sS pi.y]) (At.sub (gi.from 0) 2) O O) <|
  Qo<|xc (first:=[]) (capt:=cap) O<|(hk pi.x pi.y w5 he).S ?_
 rintro r6 w6 ⟨rfl,I⟩;refine xe ?_;have hE:=he.D I;have pg:=Qm gc I;have kq:=ge.I I;refine Q6 rfl (λgj=>?_) (λgj=>?_)
 ·have E:lgC a b kd pi=true:=gj;rw[OU E]at J;rw[<-J];refine Qd<|Qk<|Qb<|QW (α:=Nat×Nat×O2×LI) [(8,8),(14,14),(48,66)] (λz=>[(8,z.2.2.1),(14,sS z.2.1)]) (λz w'=>z.2.1<V.length/\sW w6 w'/\Qi 3 ↑w6 w' z.2.2.1 z.2.2.2/\z.2.2.2++lgW V z.1 z.2.1=lgW V (i+1) i/\z.2.1+1<=z.1/\z.2.2.2.length+z.1=i+1) (λz=>z.1) (i+1,i,Zs,[]) ov
   ⟨h4,O5.Y _ _,QM _ _ _ _,O,Lp _,od⟩ ?_
  rintro⟨fu,k,vo,wd⟩ g2 w7 ⟨ht,hF,hG,Y,ph,pj⟩;simp only[]at ht hG Y ph pj;have kr:=kq.I hF;have gk:=Qd4 ht;have kt:=hD.bk k ht;have ku:=Qj hG;have hz7:=hF.size;refine Exists.elim (show ∃gl,fu=gl+1 from⟨fu - 1,oa⟩) λgl pn=>?_;rw[pn]at Y;rw[Qi8]at Y;refine Qd<|Qk<|Qa<|O8 (g:=YH) (i:=k) zB kr O O ht λa50 gm=>?_;rw[<-gk]at gm kt;refine Zg (gV V k) λG gn=>?_;rw[gn]at gm kt Y;refine x (ZI O)<|x (Qr (gm.fld 2 (sS G.b) O) O)<|x (Yl O O)<|xe<|Zr O (λgo=>?_) (λgo=>?_)
  ·refine Qt ?_;have gq:¬0<=G.b:=go;rw[OT gq,LF]at Y;refine Qk<|KS<|(yO hG oa).S ?_;rintro r8 w8 ⟨kv,gr⟩;refine xe<|Qk<|x Qe<|Qb ?_;rw[Y]at kv;have po:=hE.size;exact Qh ⟨[vo,.bool true],ov,(hE.D hF).O gr (λb hb=>.inr (oo (ku b hb).1)),vo,O,Zf kv po⟩
  have gq:0<=G.b:=go;rw[OU gq]at Y;have pp:G.b=(G.b.toNat:Int):=oa
  refine Qf<|Qd<|Qn<|Qs<|Qa<|Qa<|Qa<|O8 (g:=YH) (i:=k) zB kr O O ht λa62 kw=>?_;rw[<-gk,gn]at kw;refine x (ZI O)<|x (Qr (kw.fld 3 (sS G.v) O) O) <|
   Qo<|Q9 [[sS G.v]] λb65 w9 gs hb65 pt=>?_
  have hz9:=gs.size;refine Qo<|Q8 (news:=[sS G.v]) (L:=[]) (Qm hG gs) O O O (pt.at od) om oa oa λpu pw pz p0 hn10 =>
   Qb ?_
  have kx:sW w6 pw:=(hF.D gs).O p0 (λb hb=>.inr (ku b hb).1);have p4:=kq.I kx;refine Qs<|Qa<|Qa<|O8 (g:=YH) (i:=k) zB p4 O O ht λa56 kz=>?_;rw[<-gk,gn]at kz;refine x (ZI O)<|x (Qr (kz.fld 2 (sS G.b) O) O)<|x Qe <|
   xe ?_
  refine⟨(gl,G.b.toNat,pu,wd++[G.v]),oe,⟨O,OV sS pp,Z⟩,oe,kx,Qi.snoc pz,?_,oe,by simp only[oM,oL];omega⟩;simp only[];rw[LA];exact Y
 have E:¬lgC a b kd pi=true:=by
  intro h;have p5:lgC a b kd pi=false:=gj;rw[p5]at h;cases h
 rw[OT E]at J;refine Qf<|Qk<|QG (hT.I hE) O<|Qa<|xe<|QW (α:=Nat×O2×List Vs) [(11,11),(16,17),(72,108)] (λz=>[(11,z.2.1),(72,sS z.1)]) (λz w'=>z.1<=al.length/\sW w w'/\VsO ↑w w' z.2.1 z.2.2/\Qai ↑w' m z.2.2/\m∉ob z.2.1/\VsI a b z.2.2/\z.2.2=(al.take z.1).foldl (lgA a b i pi) V/\∃W,z.2.2=V++W) (λz=>al.length - z.1) (0,vV,V) ov
  ⟨Lo _,hE,pg,kk.I I,kn,hD,O,[],od⟩ ?_
 rintro⟨j,vU,U⟩ g3 ha ⟨hj,hw,hh,h5,hH,h6,hI,⟨W,h7⟩⟩;simp only[]at hj hh h5 hH h6 hI h7;have hUlen:U.length<=N:=by rw[<-hN];exact VsI.len hp hq h6
 have hUl:V.length<=U.length:=by rw[h7,Lc];omega
 have ho:i<U.length:=oa
 have k0:=Qj hh;refine Zk rfl O (λgt=>?_) (λgt=>?_)
 ·refine Qt ?_;have p6:al.length<=j:=by have gh:¬(j:Int)<(al.length:Int):=gt;omega
  rw[Lq p6]at hI;rw[<-hI]at J;refine Qs<|Qa<|QD O O<|Qb<|⟨(i+1,vU,U,f'),oe,ox,ho,hw,hh,h5,hH,h6,oe,J⟩
 have hy:j<al.length:=by have gh:(j:Int)<(al.length:Int):=gt;omega
 have k4:al.take (j+1)=al.take j++[al[j]'hy]:=Lj hy;have p7:gV U i=pi:=by rw[h7,Qo2 h4];exact ko
 refine Qf<|Qd<|Qn<|Qc<|xii (i:=j) (hT.I hw) O O hy λa74 k5=>?_;refine Zg (al[j]'hy) λv hv=>?_;rw[hv]at k5 k4;have hJ:(al.take (j+1)).foldl (lgA a b i pi) V=lgA a b i pi U v:=by rw[k4,Mj,<-hI];rfl
 refine x (Qr k5 O)<|Qb<|Exists.elim (U6 hh oa) λg9 p8=>Exists.elim p8 λcap9 gu=>?_;have p9:Zt [] ↑ha vU U.length 4 (U.flatMap YH):=QO hh oa od;have k6:At [] ↑ha ⟨g9,0+i*4,none⟩ (YH pi):=by
  obtain⟨a9,c9,e1,e2⟩:=Zt.at p9 ho;rw[Jf YH 4 zB U i ho,<-Qd4 ho,p7]at e2;rw[gu]at e1;have e3:(⟨g9,0,none⟩:Addr)=a9:=by
   have:=Value.slice.inj e1;exact Option.some.inj this.1
  rw[<-e3,X0]at e2;exact e2
 have qa:At [] ↑ha ⟨g9,0+i*4+0+0*1,none⟩ [sS pi.x]:=by
  have:=k6.fld 0 (sS pi.x) O;rw[X0]at this;exact this
 have qe:At [] ↑ha ⟨g9,0+i*4+0+1*1,none⟩ [sS pi.y]:=by
  have:=k6.fld 1 (sS pi.y) O;rw[X0]at this;exact this
 have qf:=ke.I hw;have qj:=kf.I hw;refine QX (α:=Nat) [(76,94),(17,17)] (λz=>[(17,sP z)]) (λz w'=>sW ha w'/\↑ha<=z/\QL ↑w' z 156 [sS (nxt a.ed pi.x v),sS (nxt b.ed pi.y v)]) oh ?_ ?_
 ·refine Qha (α:=Unit) (sW ha) [oz 0,oz 1,oz 2,oz 3,oz 4,oz 5,oz 6,oz 7,oz 9,oz 10,oz 11,oz 12,oz 13,oz 14,oz 15,oz 16] [oA 8,oA 17,oz 18] 19 17 [oA 20] []
   [(76,94)] [(84,84),(93,94)] (λ_=>[(94,.agg #[sS (nxt a.ed pi.x v),sS (nxt b.ed pi.y v)])]) (λ_ _ _=>True)
   (λv w'=>∃b,v=sP b/\↑ha<=b/\QL ↑w' b 156 [sS 0,sS 0]) mixed oh oc oh O (O5.X _ _) od ?_ ?_ ?_ ?_
  ·rintro v own wa wb ⟨b,rfl,hb,hB⟩ hs hn;exact⟨b,O,hb,hB.J hs (hn b (by simp[ow]))⟩
  ·intro z own wa wb h hs;trivial
  ·rintro z g5 own wz v5 _ ql ⟨hO,rfl,gv,h8⟩ _;refine pkk<|Uk [sS (nxt a.ed pi.x v),sS (nxt b.ed pi.y v)] h8 ov λw8 gr qm=>pe ?_;exact⟨hO,La,ql.Q gr gv,gv,qm⟩
  refine p Qx<|p Qx<|p Qx<|p (λ_=>QF (show ev _ _=_ from gu) O ho)<|p (QH O) <|
   p (λ_=>ZV (i:=0) O O og)<|pq (λ_ E=>Qr (qa.st E) O)<|p Qx<|p Qx<|p Qx<|p Qx <|
   p (λ_=>QF (show ev _ _=_ from gu) O ho)<|p (QH O)<|p (λ_=>ZV (i:=1) O O og)<|pq (λ_ E=>Qr (qe.st E) O) <|
   p Qx<|pe ⟨λg6 wf q0=>flA [sS 0,sS 0] q0,?_⟩
  refine f2k λx1 p1 c1=>xf<|(jM (qf.I c1) hp pi.x v).S ?_;rintro r84 y1 ⟨rfl,k9⟩;refine⟨c1.D k9,[],k9,(λb hb=>by cases hb),?_⟩;refine f2k λx2 p2 c2=>xf<|(jM (qj.I c2) hq pi.y v).S ?_;rintro r93 y2 ⟨rfl,ma⟩;refine⟨c2.D ma,[],ma,(λb hb=>by cases hb),?_⟩;refine f3p (λ_=>QE ⟨O,O,Z⟩)<|f2e ?_;exact⟨(),La,Z⟩
 rintro hO g7 hP ⟨hA,gv,h8⟩;have q4:=hw.D hA;refine Exists.elim (h5.I hA).h λK q5=>And.elim (λgx gy=>?_) q5;have hQ:(jO a b i pi v).ky=(nxt a.ed pi.x v,nxt b.ed pi.y v):=rfl;refine Qk<|QV h8 O O<|x (U2 (s:=(nxt a.ed pi.x v,nxt b.ed pi.y v)) gx O O)<|x (Zl O)<|xe<|Q6 rfl (λgz=>?_) (λgz=>?_)
 ·have j1:(nxt a.ed pi.x v,nxt b.ed pi.y v)∉K:=Vo gz;have hz:=λh=>j1 ((gy _).2 h);rw[<-hQ]at hz;have g4:lgA a b i pi U v=U++[jO a b i pi v]:=by
   rcases jP a b i pi U v with⟨_,_,h⟩|⟨h,_⟩
   ·exact h
   exact OW h hz
  rw[g4]at hJ;have mc:m∉ob vU:=hH;have mf:hO∉m::ob vU:=λhb=>by
   rcases Ln.1 hb with rfl|hb
   ·obtain⟨K0,j2,_⟩:=h5.h;have:=j2.lt;omega
   have:=(k0 hO hb).2;omega
  have j3:m<hP.heap.size:=gx.lt;have h0:sW hP { hP with drawn:=hP.drawn+1 }:=O5.X _ _
  refine ZL (m::ob vU) (Xg 0 11 [7,8,9])<|p Qx<|pq (λ_ E=>Q7 (h8.J E mf) O O)<|p Qx<|pq (λ_ E=>Q7 (h8.J E mf) O O) <|
   p Qx<|p Qx<|p (λ_=>Zu [(0,[sS (nxt a.ed pi.x v),sS (nxt b.ed pi.y v)]),(1,[sS i]),(2,[sS v])] ⟨O,O,O,O,O,O,Z⟩)<|pk<|Q9 [YH (jO a b i pi v)] λb106 w13 h3 hb106 j4=>⟨(h0.D h3).any,?_⟩
  have g8:=hA.D (h0.D h3);have hz13:=(h0.D h3).size;refine pk<|Q8 (news:=YH (jO a b i pi v)) (L:=[]) (Qm hh g8) O O O (j4.at od) (λu hu=>by
   simp only[oK,oH,or_false]at hu;rcases hu with rfl|rfl|rfl|rfl <;> rfl) oa (oo g8.size) λmg mh za hS z0=>⟨(h0.D h3).any.V (hS.S (λb hb=>Lk _ hb)),?_⟩
  have z2:ZU Yp ↑mh m (setM K):=(gx.J (h0.D h3) od).J hS mc;refine pk<|YO (k:=(nxt a.ed pi.x v,nxt b.ed pi.y v)) z2 O O λw15 ka z3=>⟨((h0.D h3).any.V (hS.S (λb hb=>Lk _ hb))).V (ka.S od),?_⟩;refine p ZN<|pe ?_;refine Exists.elim (KX z3) λK' z4=>And.elim (λz5 hKK'=>?_) z4;have mj:m∉ob mg:=λhb=>by
   rcases z0 m hb with h9|h9
   ·exact mc h9
   have:=j3;omega
  refine Qs<|QD O O<|Qa<|xe ?_;have hs014:sW w mh:=(hw.D g8).O hS (λb hb=>.inr (k0 b hb).1);refine⟨(j+1,mg,U++[jO a b i pi v]),oe,ov,hy,hs014.Q ka m7,Qg (VsO.snoc za) ka (λb hb mo=>by simp only[oF]at mo;subst mo;exact mj hb),⟨K',z5,λk=>?_⟩,mj,VsI.add hp hq h6 ho (λh=>hz (.inr h)),hJ.symm,W++[jO a b i pi v],by rw[h7,LA]⟩;rw[hKK',gy,Lv,Lh];constructor
  ·rintro(h|h|h)
   ·exact .inr (.inr (by rw[h];simp[hQ]))
   ·exact .inl h
   exact .inr (.inl h)
  rintro(h|h|h)
  ·exact .inr (.inl h)
  ·exact .inr (.inr h)
  exact .inl (by simpa[hQ]using h)
 have hK:(nxt a.ed pi.x v,nxt b.ed pi.y v)∈K:=Ke gz;have hz:=(gy _).1 hK;rw[<-hQ]at hz;have g4:lgA a b i pi U v=U:=by
  rcases jP a b i pi U v with⟨h1,h2,_⟩|⟨_,h⟩
  ·exact OW hz (λh=>h.elim h1 h2)
  exact h
 rw[g4]at hJ;refine Qf<|Qs<|QD O O<|Qa<|xe ?_;exact⟨(j+1,vU,U),oe,ov,hy,q4,Qm hh hA,h5.I hA,hH,h6,hJ.symm,W,h7⟩
theorem Qoq {only:Bool}{e:Ed}(h:(!decide (e.2.1∈o))=false):okV o un only e=false:=by unfold okV;rw[h];rfl
theorem Qop {only:Bool}{e:Ed}(h:(!decide (e.2.1∈o))=true)(E:(!only)=true):okV o un only e=true:=by unfold okV;rw[h,E];rfl
theorem QiF {only:Bool}{e:Ed}(h:(!decide (e.2.1∈o))=true)(E:(!only)=false):okV o un only e=decide (e.2.1∈un):=by unfold okV;rw[h,E];rfl
structure VcI (bm:Nat)(w0:O1)(vl:O2)(l:LI)(w:O1):Prop where
 st:sW w0 w
 m:XM XG ↑w bm l
 o:Qi 3 ↑w0 w vl l
 nm:bm∉ob vl
theorem VcI.I {bm:Nat}{G w w':O1}{vl:O2}{l:LI}(h:VcI bm G vl l w)(E:sW w w'):VcI bm G vl l w':=⟨h.st.D E,h.m.I E,Qm h.o E,h.nm⟩
theorem KU {V:VwV}{only:Bool}(h:VwA ↑w V)(hl:Qu [] ↑w vl l)(hb:∀x∈l,0<=x/\x<V.a.st)(ki:l.length<=1000000):
  QR sV 132 [.pointer (some ⟨V.b,0,none⟩),vl,.bool only] w λr w'=>sW w w'/\Qi 3 ↑w w' r (vcl V.a V.o V.un l only):=by
 have hok:=h.ok;have kj:=hok.st0;have kk:=hok.st1;obtain⟨n,hn⟩:∃n:Nat,V.a.st.toNat=n:=⟨_,O⟩;have gh:V.a.st=(n:Int):=oa
 have kn:=hok.ed_le;obtain⟨rv,hG,hH⟩:=h.r;rw[hn]at hG hH;have gi:vcl V.a V.o V.un l only=srt n (bfs (okV V.o V.un only) V.a.ed (l.length+n) 0 l):=by unfold vcl cls;rw[hn]
 rw[gi];have gj:=hok.ed;rw[gh]at hb;refine Zg (bfs (okV V.o V.un only) V.a.ed (l.length+n) 0 l) λR hR=>?_;rw[hR];refine Zm func132 ?_;refine Qc<|Qb<|Qk<|Qv<|(ZZ hl).S ?_;rintro v1 w1 ⟨hI,h0⟩;refine Qb<|Qc<|Qo<|Z1 XG λbm w2 h2 ko gk=>Qb ?_;have gl:=hI.D h2;have kq:=hI.size;have hJ:bm∉ob v1:=λI=>oo (QU h0 _ I)
 have gm:Qu [] ↑w2 v1 l:=Qi.ints (Qm h0 h2) oa od;refine Qd<|Qk<|QG gm O<|Qa<|xe<|QW (α:=Nat) [(10,10),(19,25)] (λz=>[(19,sS z)]) (λz w'=>z<=l.length/\O5 [bm] w2 w'/\XM XG ↑w' bm (l.take z)) (λz=>l.length - z) 0 La ⟨Lo _,O5.Y _ _,.zero gk⟩ ?_;rintro k g w3 ⟨hk,h3,h4⟩;have gn:sW w w3:=gl.Q h3 oa;have hK:=Qg (Qm h0 h2) h3 λb hb I=>hJ (Lb.1 I ▸ hb);have go:Qu [] ↑w3 v1 l:=Qi.ints hK oa od;refine Zk rfl O (λh5=>?_) (λh5=>?_)
 ·refine Qt ?_;have gq:l.length<=k:=by have hg:¬(k:Int)<(l.length:Int):=h5;omega
  rw[Lq gq]at h4;refine Qd<|Qc<|Qb<|QW (α:=Nat×O2×LI) [(7,7),(11,11),(13,13),(26,80)] (λz=>[(7,z.2.1),(11,sS z.1)]) (λz w'=>z.1<=z.2.2.length/\VcI bm w z.2.1 z.2.2 w'/\yX n l z.2.2/\bfs (okV V.o V.un only) V.a.ed (l.length+n - z.1) z.1 z.2.2=R) (λz=>l.length+n+1 - z.1) (0,v1,l) ov ⟨Lo _,⟨gn,h4,hK,hJ⟩,yX.zero _ _,hR⟩ ?_;rintro⟨i,vi,m⟩ g w4 ⟨hi,T,hr,ha⟩;simp only[]at hi T hr ha;have kr:=hr.len;have hL:=hr.all hb;have hM:Qu [] ↑w4 vi m:=Qi.ints T.o oa od;refine Qd<|Qk<|Qa<|QG hM O<|ZX O O<|xe<|Zr O (λh6=>?_) (λh6=>?_)
  ·refine Qt ?_;have gr:¬i<m.length:=by have hg:¬(i:Int)<(m.length:Int):=h6;omega
   rw[QcZ gr]at ha;have ht:=Qj T.o;refine Qk<|Qv<|(J6 T.o oa).S ?_;rintro _ w5 ⟨gs,gt⟩;refine xe<|Qk<|Qv<|(Qm8 gt (by rw[List.length_mergeSort];omega) (Qck m)).S ?_;rintro v6 w6 ⟨h8,l',gu,gv,gx⟩;refine Qb<|Qh ⟨[v6],La,(T.st.O gs λb hb=>.inr (ht b hb).1).O h8 λb hb=>.inr (ht b hb).1,?_⟩;rw[<-ha,<-QhY gu (λx=>(gv x).D (Nc m _).mem_iff) hL];exact gx
  have G:i<m.length:=by have hg:(i:Int)<(m.length:Int):=h6;omega
  have hv:=hL _ (Xv G);have gy:l.length+n - i=(l.length+n - (i+1))+1:=oa
  rw[gy,bfs,OU G]at ha;have hN:=ZA G;refine Zg (O6 m i) λs hs=>?_;rw[hs]at hv ha hN;have hO:s=(s.toNat:Int):=oa
  have hP:s.toNat<n:=oa
  have hE:=hH s.toNat hP;have kt:=Yg V.a.ed s;have gz:QQ V.a.ed (s.toNat:Nat)=QQ V.a.ed s:=by rw[<-hO]
  rw[gz]at hE;have g0:s.toNat<(oJ n).length:=by rw[L9];exact hP
  refine Qf<|Qd<|Qn<|Qd<|ZL [] (Xg 0 12 [])<|p Qx<|p (YL O)<|p (QH O)<|pq (λ_ E=>Ql ((h.blk.I T.st).I E) O O)<|p Qx<|p Qx<|Lg.pii (i:=i) O hM O O G λku hQ=>?_;rw[hN]at hQ;refine pq (λ_ E=>Qr (hQ.I E) O)<|Lg.pig (g:=λj:Nat=>[rv j]) (i:=s.toNat) O (λ_=>O) (hG.I T.st) O (show Go.Lg.ev _ _=_ from OV sS hO) g0 λkv hS=>?_;rw[Mr]at hS;refine pq (λ_ E=>Qr (u:=rv s.toNat) (hS.I E) O)<|p (λ_=>YY hE O)<|p Qx<|pe ?_;have g2:sW w4 { w4 with drawn:=w4.drawn+1 }:=O5.X _ _
  refine QW (α:=Nat×O2×LI) [(7,7),(13,13),(43,80)] (λz=>[(7,z.2.1),(43,sS z.1)]) (λz w'=>z.1<=(QQ V.a.ed s).length/\VcI bm w z.2.1 z.2.2 w'/\yX n l z.2.2/\m.length<=z.2.2.length/\((QQ V.a.ed s).drop z.1).foldl (bfE (okV V.o V.un only)) z.2.2=(QQ V.a.ed s).foldl (bfE (okV V.o V.un only)) m) (λz=>(QQ V.a.ed s).length - z.1) (0,vi,m) ov ⟨Lo _,T.I g2,hr,Lp _,O⟩ ?_;rintro⟨j,vj,lj⟩ g w5 ⟨hj,hh,ho,h9,J⟩;simp only[]at hj hh ho h9 J;have kw:=ho.len;refine Zk O O (λhA=>?_) (λhA=>?_)
  ·refine Qt ?_;have g3:(QQ V.a.ed s).length<=j:=by have hg:¬(j:Int)<((QQ V.a.ed s).length:Int):=hA;omega
   rw[Lr g3]at J;have g4:lj=(QQ V.a.ed s).foldl (bfE (okV V.o V.un only)) m:=J;rw[<-g4]at ha;refine Qs<|Qa<|QD O O<|Qb<|⟨(i+1,vj,lj),by show l.length+n+1 - (i+1)<l.length+n+1 - i;omega,ov,by show i+1<=lj.length;omega,hh,ho,ha⟩
  have hf:j<(QQ V.a.ed s).length:=by have hg:(j:Int)<((QQ V.a.ed s).length:Int):=hA;omega
  have g5:=ZH (Le hf);have hT:=gj _ g5.1;rw[QY hf,LO]at J;refine Zg ((QQ V.a.ed s)[j]'hf) λe he=>?_;rw[he]at hT J;refine Qf<|Qd<|Qn<|Qc<|xie (hE.I hh.st) O O hf λkx hU=>?_;rw[he]at hU;refine x (QA hU O O)<|QN [sS 0,sS 0,sS 0] λg6 w6 h8 hV g7=>Q2 (Qp e) g7 ox λS g8 hw=>xe ?_;have g9:sW w5 S:=h8.Q g8 hV;have hB:=hh.I g9;have h7:=h.I hB.st;refine QX (α:=Unit) [(47,71)] (λ_=>[(71,.bool (decide (okV V.o V.un only e=true/\e.2.2∉lj)))]) (λ_ w'=>sW S w') oh ?_ ?_
  ·refine ZL [] (Xg 0 25 [3,22]) ?_;have U:sW S { S with drawn:=S.drawn+1 }:=O5.X _ _
   refine p Qx<|p (QH O)<|pq (λ_ E=>Ql (hw.I E) O O)<|pk<|xg<|(zo (w:={ S with drawn:=S.drawn+1 }) (h7.I U) e.2.1).S ?_
   rintro _ w8 ⟨rfl,rfl⟩;refine⟨U,?_⟩;refine pB (λ_=>Zl O) (λhp=>?_) (λhp=>?_)
   ·refine p Qx<|p Qx<|p (QH O)<|pq (λ_ E=>Ql (hw.I E) O O)<|pq (λ_ E=>Qay (hB.m.I E) O O)<|pB (λ_=>Zl O) (λhC=>?_) (λhC=>?_)
    ·have hW:=Vo hC;refine p (Ys O)<|p Qx<|p Qx<|pB (λ_=>Zl O) (λhy=>?_) (λhy=>?_)
     ·refine p Qx<|ps<|ps<|ps<|ps<|ps<|ps<|ps<|p (Ys O)<|p (Ys O)<|pe ?_;exact⟨(),⟨OV Value.bool (bT ⟨Qop hp hy,hW⟩),Z⟩,U⟩
     refine p Qx<|p Qx<|p (YL O)<|p (QH O)<|pq (λ_ E=>Ql (h7.blk.I E) O O)<|p (QH O) <|
      pq (λ_ E=>Ql (hw.I E) O O)<|pk<|xg<|(ZK (w:={ S with drawn:=S.drawn+1 }) (h7.u.I U) e.2.1).S ?_
     rintro _ w9 ⟨rfl,rfl⟩;refine⟨U,?_⟩;refine p (Ys O)<|p (Ys O)<|pe ?_;exact⟨(),⟨OV Value.bool (bD ⟨λhu=>⟨(QiF hp hy).D (OX hu),hW⟩,λhu=>OY ((QiF hp hy).symm.D hu.1)⟩),Z⟩,U⟩
    refine p (Ys O)<|p Qx<|ps<|ps<|ps<|ps<|ps<|ps<|ps<|ps<|ps<|ps<|ps<|p (Ys O)<|pe ?_;exact⟨(),⟨OV Value.bool (bF λhu=>hu.2 (Ke hC)),Z⟩,U⟩
   refine p Qx<|ps<|ps<|ps<|ps<|ps<|p (Ys O)<|p Qx<|ps<|ps<|ps<|ps<|ps<|ps<|ps<|ps<|ps<|ps<|ps<|p (Ys O)<|pe ?_;exact⟨(),⟨OV Value.bool (bF λhu=>MI ((Qoq hp).symm.D hu.1)),Z⟩,U⟩
  rintro _ g w8 hX;have Y:=hB.I hX;have hY:=ho.edge (okV V.o V.un only) (e:=e) ⟨hT.2.2.2.1,oa⟩;have hZ:lj.length<=(bfE (okV V.o V.un only) lj e).length:=by unfold bfE;split <;> simp
  have hz:bfE (okV V.o V.un only) lj e=if okV V.o V.un only e=true/\e.2.2∉lj then lj++[e.2.2]else lj:=rfl
  refine Zr O (λhD=>?_) (λhD=>?_)
  ·rw[OT hD]at hz;rw[hz]at J;refine Qf<|Qs<|QD O O<|Qa<|xe ?_;exact⟨(j+1,vj,lj),by show(QQ V.a.ed s).length - (j+1)<(QQ V.a.ed s).length - j;omega,ov,hf,Y,ho,h9,J⟩
  rw[OU hD]at hz;rw[hz]at J hY hZ;have ga:=hw.I hX;have ht:=Qj Y.o;refine Qk<|Qq O ga O O<|Qo<|zW (k:=e.2.2) Y.m O O O λw9 hF gb=>xe ?_;have ka:g6∉[bm]:=λI=>by
   have:=hh.m.lt;rw[Lb.1 I]at hV;omega
  have kb:=Qg Y.o hF λb hb I=>Y.nm (Lb.1 I ▸ hb);have gc:sW w w9:=Y.st.Q hF oa;refine Qs<|Qa<|Qq O (ga.J hF ka) O O<|Qo<|Q9 [[sS e.2.2]] λkz wa hq k0 kc =>
   Qo<|Q8 (m:=1) (news:=[sS e.2.2]) (L:=[]) (Qm kb hq) O O O (kc.at od) om oa (oq hq.size gc.size) λvb wb ke hv kf=>Qb ?_
  have k4:=hq.size;have k5:=gb.lt;refine Qs<|QD O O<|Qa<|xe<|⟨(j+1,vb,lj++[e.2.2]),by show(QQ V.a.ed s).length - (j+1)<(QQ V.a.ed s).length - j;omega,ov,hf,⟨(gc.D hq).O hv λb hb=>.inr (ht b hb).1,(gb.I hq).J hv Y.nm,Qi.snoc ke,λI=>?_⟩,hY,Lx h9 hZ,J⟩;rcases kf _ I with h1|h1
  ·exact Y.nm h1
  omega
 have G:k<l.length:=by have hg:(k:Int)<(l.length:Int):=h5;omega
 have ge:l.take (k+1)=l.take k++[l[k]'G]:=Lj G;refine Qf<|Qd<|Qn<|Qc<|xii (i:=k) go O O G λk6 gg=>?_;refine Zg (l[k]'G) λs hs=>?_;rw[hs]at gg ge;refine x (Qr gg O)<|Qb<|Qs<|Qa<|Qa<|Qo<|zW (k:=s) h4 O O O λw4 kg kh=>xe ?_;refine Qs<|QD O O<|Qa<|xe ?_;exact⟨k+1,by show l.length - (k+1)<l.length - k;omega,La,G,h3.V kg,by rw[ge];exact kh⟩
theorem UR {V:VwV}{est:LI}(h:VwA ↑w V)(hE:Qu [] ↑w ve est)(hy:∀x∈est,0<=x/\x<V.a.st)(hK:est.length<=9)(hz:V.a.ed.length<=1000)(v:Int):
  QR sV 136 [.pointer (some ⟨V.b,0,none⟩),ve,sS v] w λr w'=>sW w w'/\Qi 3 ↑w w' r (vnx V.a V.o V.un est v):=by
 have hok:=h.ok;have hM:=hok.st0;obtain⟨n,hn⟩:∃n:Nat,V.a.st.toNat=n:=⟨_,O⟩;have hN:V.a.st=(n:Int):=oa
 obtain⟨rv,ho,hp⟩:=h.r;rw[hn]at ho hp;have h0:∀k,k<=est.length->(hop V.a.ed (est.take k) v).length<=9000:=λk hk=>by
  have h1:=Qa3 V.a.ed v (est.take k);have h2:(est.take k).length<=9:=by rw[LC];omega
  have h3:(est.take k).length*V.a.ed.length<=9*1000:=M9 h2 hz;omega
 refine Zm func136 ?_;refine Qc<|Qb<|Qc<|Qb<|Qd<|Qk<|QG hE O<|Qa<|xe<|QW (α:=Nat×O2) [(7,7),(9,9),(11,11),(14,40)] (λz=>[(7,z.2),(14,sS z.1)]) (λz w'=>z.1<=est.length/\sW w w'/\Qi 3 ↑w w' z.2 (hop V.a.ed (est.take z.1) v)) (λz=>est.length - z.1) (0,ZT) ov ⟨Lo _,O5.Y _ _,QM _ _ _ _⟩ ?_;rintro⟨k,vl⟩ g w2 ⟨hk,E,Y⟩;simp only[]at hk Y;have h4:=h0 k hk;refine Zk rfl O (λha=>?_) (λha=>?_)
 ·refine Qt ?_;have h5:est.length<=k:=by have hc:¬(k:Int)<(est.length:Int):=ha;omega
  rw[Lq h5]at Y h4;have hL:=Qi.ints (L:=[]) Y oa od;refine Qk<|Qa<|Qv<|(KU (only:=false) (h.I E) hL (Qjy hok est v) oa).S ?_;rintro r3 w3 ⟨h6,h7⟩;refine Qb<|Qh ⟨[_],La,E.D h6,Zf h7 E.size⟩
 have I:k<est.length:=by have hc:(k:Int)<(est.length:Int):=ha;omega
 have hq:=Qcq (ed:=V.a.ed) v I;have h8:=hy _ (Le I);refine Qf<|Qd<|Qn<|Qc<|xii (i:=k) (hE.I E) O O I λhO hr=>?_;refine Zg (est[k]'I) λs hs=>?_;rw[hs]at hr hq h8;have h9:s=(s.toNat:Int):=oa
 have ht:s.toNat<n:=oa
 have hf:=hp s.toNat ht;rw[show((s.toNat:Nat):Int)=s by omega]at hf;have hA:s.toNat<(oJ n).length:=by rw[L9];exact ht
 have hP:=Yg V.a.ed s;refine x (Qr hr O)<|Qb<|Qk<|Z6 O<|Qq O (h.blk.I E) O O<|Qa<|O8 (g:=λj:Nat=>[rv j]) (i:=s.toNat) (λ_=>O) (ho.I E) O (OV sS h9) hA λhQ hu=>?_;rw[Mr]at hu;refine x (Qr (u:=rv s.toNat) hu O)<|QG hf O<|Qa<|xe<|QW (α:=Nat×O2) [(7,7),(11,11),(26,39)] (λz=>[(7,z.2),(26,sS z.1)]) (λz w'=>z.1<=(QQ V.a.ed s).length/\sW w w'/\Qi 3 ↑w w' z.2 (hop V.a.ed (est.take k) v++(((QQ V.a.ed s).take z.1).filter λe=>decide (e.2.1=v)).map (·.2.2))) (λz=>(QQ V.a.ed s).length - z.1) (0,vl) ov ⟨Lo _,E,by simp only[List.take_zero,List.filter_nil,OC,Oo];exact Y⟩ ?_;rintro⟨j,vj⟩ g w4 ⟨hj,J,G⟩;simp only[]at hj G;refine Zk rfl O (λhg=>?_) (λhg=>?_)
 ·refine Qt ?_;have hB:(QQ V.a.ed s).length<=j:=by have hc:¬(j:Int)<((QQ V.a.ed s).length:Int):=hg;omega
  rw[Lq hB,<-hq]at G;refine Qs<|QD O O<|Qa<|xe ?_;exact⟨(k+1,vj),by show est.length - (k+1)<est.length - k;omega,ov,I,J,G⟩
 have S:j<(QQ V.a.ed s).length:=by have hc:(j:Int)<((QQ V.a.ed s).length:Int):=hg;omega
 have T:=jT v S;have hR:(hop V.a.ed (est.take k) v++(((QQ V.a.ed s).take j).filter λe=>decide (e.2.1=v)).map (·.2.2)).length<=10000:=by
  rw[Lc,Ll];have h1:=LJ (λe:Ed=>decide (e.2.1=v)) ((QQ V.a.ed s).take j);rw[LC]at h1;omega
 refine Zg ((QQ V.a.ed s)[j]'S) λe he=>?_;rw[he]at T;refine Qf<|Qd<|Qn<|Qc<|xie (hf.I J) O O S λhS hv=>?_;rw[he]at hv;refine x (QA hv O O)<|QN [sS 0,sS 0,sS 0] λb11 w5 hC hD hF=>Q2 (Qp e) hF ox λw6 hG hw=>xe ?_;have U:sW w4 w6:=hC.Q hG hD;have hT:=J.size;have hU:=U.size;refine Qc<|Qq O hw O O<|Qa<|x (Zd O O)<|xe<|Zr rfl (λhh=>?_) (λhh=>?_)
 ·rw[OT hh,LF]at T;refine Qf<|Qs<|QD O O<|Qa<|xe ?_;exact⟨(j+1,vj),by show(QQ V.a.ed s).length - (j+1)<(QQ V.a.ed s).length - j;omega,ov,S,J.D U,by simp only[];rw[T];exact Qm G U⟩
 rw[OU hh]at T;refine Qs<|Qa<|Qq O hw O O<|Qo<|Q9 [[sS e.2.2]] λhV w7 hm hW hH =>
  Qo<|Q8 (m:=1) (news:=[sS e.2.2]) (L:=[]) (Qm G (U.D hm)) O O O (hH.at od) om oa (oo hm.size) λv8 w8 hI hJ hX=>Qb<|Qs<|QD O O<|Qa<|xe ?_
 refine⟨(j+1,v8),by show(QQ V.a.ed s).length - (j+1)<(QQ V.a.ed s).length - j;omega,ov,S,((J.D U).D hm).O hJ λb hb=>.inr (Qj G b hb).1,?_⟩;simp only[];rw[T,<-LA];exact Qi.snoc hI
def Qje (x y:LI):List UInt8:=(YS x++[59])++(YS y++[59])
abbrev koA (x y:LI):ByteArray:=⟨(Qje x y).toArray⟩
theorem Qj8 (u:Nat):(59:UInt8)∉Lib.decDigits u:=by
 induction u using Nat.strongRecOn with
 | _ u ih =>
  unfold Lib.decDigits;split
  ·intro h;simp only[oF]at h;have:=OV UInt8.toNat h;rw[Xt oa]at this;have E:(59:UInt8).toNat=59:=rfl;omega
  intro h;rcases Lh.1 h with h|h
  ·exact ih _ oa h
  simp only[oF]at h;have:=OV UInt8.toNat h;rw[Xt oa]at this;have E:(59:UInt8).toNat=59:=rfl;omega
theorem Vp (l:LI):(59:UInt8)∉YS l:=by
 intro h;obtain⟨n,_,h⟩:=Md.1 h;rcases Lh.1 h with h|h
 ·exact Qj8 _ h
 exact OW (Lb.1 h) og
theorem Qaq:∀{a b r r':List UInt8},(59:UInt8)∉a->(59:UInt8)∉b->a++59::r=b++59::r'->a=b/\r=r'
 | [],[],_,_,_,_,h=>ou h
 | [],y::b,_,_,_,hb,h=>by simp at h;exact OW h.1 (by intro e;exact hb (by simp[e]))
 | x::a,[],_,_,E,_,h=>by simp at h;exact OW h.1 (by intro e;exact E (by simp[e]))
 | x::a,y::b,_,_,E,hb,h=>by
  simp only[oZ,List.cons.injEq]at h;have:=Qaq (λe=>E (Lk _ e)) (λe=>hb (Lk _ e)) h.2;exact⟨by rw[h.1,this.1],this.2⟩
theorem Qmj {x y E G:LI}(I:∀n∈x,0<=n)(J:∀n∈y,0<=n)(S:∀n∈E,0<=n)(T:∀n∈G,0<=n)(h:koA x y=koA E G):x=E/\y=G:=by
 have e:Qje x y=Qje E G:=by
  have:=OV (λb:ByteArray=>b.data.toList) h;simpa using this
 unfold Qje at e;rw[LA,LA]at e;obtain⟨e1,e2⟩:=Qaq (Vp x) (Vp E) (ou e);obtain⟨U,_⟩:=Qaq (r:=[]) (r':=[]) (Vp y) (Vp G) e2;exact⟨Uq I S e1,Uq J T U⟩
def kO (lf:Nat->LI)(n:Nat):List UInt8:=(oJ n).flatMap λi=>YS (lf i)++[59]
theorem QaW (lf:Nat->LI)(n:Nat):kO lf (n+1)=kO lf n++(YS (lf n)++[59]):=by
 unfold kO;rw[Nf,LD,M7]
theorem Qjf {m:Int}(G:m<=1000000)(hb:∀n∈l,0<=n/\n<m):(YS l).length<=8*l.length:=by
 induction l with
 | nil=>simp[YS]
 | cons x l ih =>
  have I:=ih λn E=>hb n (Lk _ E);have J:=hb x Lm;have S:=Kj 7 x.toNat oa;unfold YS at *;rw[LK,Lc,Lc];simp only[oQ,List.length_nil];omega
theorem QgF {k:Nat}(h:k<l.length):YS (l.take (k+1))=YS (l.take k)++Lib.decDigits (l[k]'h).toNat++[32]:=by
 rw[Lj h];unfold YS;rw[LD,M7,LA]
theorem QiL {v:O2}{rv:Nat->O2}{lf:Nat->LI}{m:Int}(hA:Zt [] ↑w v (oJ n).length 1 ((oJ n).flatMap λi=>[rv i]))(hE:∀i,Qu [] ↑w (rv i) (lf i))(ho:Kb w m)(hb:∀i,∀x∈lf i,0<=x/\x<m)(hl:∀i,(lf i).length<=1000)(hn:n<=1000):
  QR sV 133 [v] w λr w'=>r=.string ⟨(kO lf n).toArray⟩/\sW w w':=by
 have hm:=ho.le;refine Zm func133 ?_;refine Qc<|Qb<|Qc<|QN [.pointer none,nS] λE w1 hv J hw=>xe ?_;refine Qd<|Qk<|QG hA O<|Qa<|xe<|QW (α:=Nat×O2) [(5,5),(7,7),(10,26)] (λz=>[(10,sS z.1)]) (λz w'=>z.1<=n/\sW w w'/\(z.2=.pointer none\/z.2=me E)/\Bl z.2 E (kO lf z.1) w'/\(kO lf z.1).length<=8001*z.1) (λz=>n - z.1) (0,.pointer none) La
  ⟨Lo _,hv,.inl O,⟨_,hw,QM _ _ _ _⟩,Lp _⟩ ?_
 rintro⟨k,p⟩ g w2 ⟨hk,V,Y,S,hy⟩;simp only[]at hk Y S hy;refine Zk rfl O (λha=>?_) (λha=>?_)
 ·refine Qt<|Qc ?_;have hz:k=n:=by have G:¬(k:Int)<((oJ n).length:Int):=ha;rw[L9]at G;omega
  rw[hz]at S;refine Qv<|(Vm V J Y S).S ?_;rintro r3 w3 ⟨rfl,h0⟩;refine Qb<|Qh ⟨[_],La,O,h0⟩
 have hc:k<(oJ n).length:=by have G:(k:Int)<((oJ n).length:Int):=ha;omega
 have h1:k<n:=by rw[L9]at hc;exact hc
 have he:=QaW lf k;have h2:=Qjf hm (hb k);have h3:=hl k;have hf:=hE k;have hr:=hb k;refine Zg (lf k) λl h4=>?_;rw[h4]at he h2 h3 hf hr;refine Qf<|Qd<|Qn<|Qc<|O8 (g:=λj:Nat=>[rv j]) (i:=k) (λ_=>O) (hA.I V) O O hc λhH ht=>?_;rw[Mr]at ht;refine x (Qr (u:=rv k) ht O)<|Qb<|Qd<|Qk<|QG hf O<|Qa<|xe<|QW (α:=Nat×O2) [(7,7),(16,24)] (λz=>[(16,sS z.1)]) (λz w'=>z.1<=l.length/\sW w w'/\(z.2=.pointer none\/z.2=me E)/\Bl z.2 E (kO lf k++YS (l.take z.1)) w'/\(YS (l.take z.1)).length<=8*z.1) (λz=>l.length - z.1) (0,p) La
  ⟨Lo _,V,Y,by show Bl p E (kO lf k++YS []) w2;rw[show YS []=[] from rfl,LF];exact S,Lp _⟩ ?_
 rintro⟨j,q⟩ g w4 ⟨hj,T,hq,U,h5⟩;simp only[]at hj hq U h5;refine Zk rfl O (λhg=>?_) (λhg=>?_)
 ·refine Qt ?_;have h6:l.length<=j:=by have G:¬(j:Int)<(l.length:Int):=hg;omega
  rw[Lq h6]at U;refine Qs<|Qv<|(Ku T J hq U 59 (by rw[Lc];omega)).S ?_;rintro r5 w5 ⟨h7,h8⟩;refine xe<|Qs<|QD O O<|Qa<|xe<|⟨(k+1,me E),by show n - (k+1)<n - k;omega,La,h1,h7,.inr O,?_,?_⟩
  ·simp only[];rw[he,<-LA];exact h8
  simp only[];rw[he,Lc,Lc,Lu];omega
 have I:j<l.length:=by have G:(j:Int)<(l.length:Int):=hg;omega
 have h9:=hr _ (Le I);have hh:=QgF I;refine Qf<|Qd<|Qn<|Qc<|xii (i:=j) (hf.I T) O O I λhJ G=>?_;refine Zg (l[j]'I) λs hs=>?_;rw[hs]at G hh h9;have hB:s=(s.toNat:Int):=oa
 have hK:=Kj 7 s.toNat oa;refine x (Qr G O)<|Qb<|Qc ?_;have hI:=Qa1 s.toNat oa w4 (ho.I T);rw[<-hB]at hI;refine Qa<|Qv<|hI.S ?_;rintro r6 w6 ⟨rfl,hu⟩;refine Qv<|(Jo (T.D hu) J hq (U.I hu) (⟨(Lib.decDigits s.toNat).toArray⟩:ByteArray) (by show _+(Lib.decDigits s.toNat).toArray.size<=_;rw[Lc,LW];omega)).S ?_;rintro r7 w7 ⟨hC,hD⟩;refine xe<|Qs<|Qv<|(Ku hC J (.inr O) hD 32 (by rw[Lc,Lc];show _+_+(Lib.decDigits s.toNat).length+1<=_;omega)).S ?_;rintro r8 w8 ⟨hF,hG⟩;refine xe<|Qs<|QD O O<|Qa<|xe<|⟨(j+1,me E),by show l.length - (j+1)<l.length - j;omega,La,I,hF,.inr O,?_,?_⟩
 ·simp only[];rw[hh,<-LA,<-LA];exact hG
 simp only[];rw[hh,Lc,Lc,Lu];omega
theorem kO2 (x y:LI):kO (λi=>if i=0 then x else y) 2=Qje x y:=by
 rw[QaW,QaW];rfl
theorem Ul {v vy:O2}{x y:LI}{m:Int}(hA:Zt [] ↑w v 2 1 [vx,vy])(hx:Qu [] ↑w vx x)(G:Qu [] ↑w vy y)(E:Kb w m)(I:∀n∈x,0<=n/\n<m)(J:∀n∈y,0<=n/\n<m)(S:x.length<=1000)(T:y.length<=1000):
  QR sV 133 [v] w λr w'=>r=.string (koA x y)/\sW w w':=by
 have:=QiL (n:=2) (rv:=λi=>if i=0 then vx else vy) (lf:=λi=>if i=0 then x else y) (w:=w) (v:=v) hA (λi=>by by_cases e:i=0 <;> simp only[e,if_true,if_false] <;> assumption) E (λi=>by by_cases e:i=0 <;> simp only[e,if_true,if_false] <;> assumption) (λi=>by by_cases e:i=0 <;> simp only[e,if_true,if_false] <;> assumption) oa
 rw[kO2]at this;exact this
theorem zT {v:O2}{b:Nat}(h:b∈ob v):b∈ow v:=by
 cases v with
 | slice a _ _=>cases a <;> exact h
 | _=>cases h
theorem QdN {e:Nat}{v:O2}(h:w.ownsRow base e sz v n cs){b:Nat}(hb:b∈ow v):b∈ob v:=by
 rcases h.2 with⟨rfl,_⟩|⟨g,cp,cur,rfl,_⟩
 ·cases hb
 exact hb
theorem X2 {e:Nat}{v:O2}(h:w.ownsRow base e sz v n cs)(b:Nat)(hb:b∈ow v):base<=b/\b<w.heap.size:=Qj h b (QdN h hb)
theorem VP {e b:Nat}{v:O2}(h:w.ownsRow base e sz v n cs)(E:QL ↑w b T us)(hT:T≠e):b∉ob v:=by
 intro G;rcases h.2 with⟨rfl,_⟩|⟨g,cap,cur,rfl,_,I,_⟩
 ·cases G
 have e1:b=g:=Lb.1 G;subst e1;unfold QL at E;rw[E]at I;injection I with h1
 injection h1 with h2 h3
 exact hT h3
def Pts (L:LN)(H:xA):List (O2×LI)->Prop
 | []=>True
 | r::l=>Qu L H r.1 r.2/\Pts L H l
theorem Pts.I {L:LN}{w w':O1}(E:sW w w'):∀{l:List (O2×LI)},Pts L ↑w l->Pts L ↑w' l
 | [],_=>trivial
 | _::_,h=>⟨h.1.I E,Pts.I E h.2⟩
theorem Pts.J {L X:LN}{w w':O1}(E:O5 X w w')(hX:∀b∈X,b∈L):∀{l:List (O2×LI)},Pts L ↑w l->Pts L ↑w' l
 | [],_=>trivial
 | _::_,h=>⟨Zt.J h.1 E hX,Pts.J E hX h.2⟩
theorem Pts.grow {X X' Y:LN}{w w':O1}(E:O5 Y w w')(G:∀b∈Y,b∈X)(hX:∀b∈X',b∈X\/↑w<=b):∀{l:List (O2×LI)},Pts X ↑w l->Pts X' ↑w' l
 | [],_=>trivial
 | _::_,h=>⟨Zt.grow h.1 E G hX,Pts.grow E G hX h.2⟩
abbrev Yr (N:Nat)(H:xA)(v:O2)(l:LI):Prop:=∀L:LN,(∀b∈L,b<N)->Qu L H v l
theorem Yr.nil (N:Nat)(H:xA):Yr N H (nS) []:=λ_ _=>Zt.nil _ _ _
theorem Yr.S {H:xA}{v:O2}(h:Yr N H v l)(E:M<=N):Yr M H v l:=λL G=>h L λb hb=>LR (G b hb) E
theorem Yr.ints {H:xA}{v:O2}(h:Yr N H v l):Qu [] H v l:=h [] λ_ hb=>by cases hb
structure QI {α κ:Type}(T sz:Nat)(cel:α->LV)(enc:κ->O2)(key:α->κ)(pts ptn:α->List (O2×LI))(bm:Nat)(w0:O1)(vl:O2)(q:List α)(w:O1):Prop where
 st:sW w0 w
 o:w.ownsRow ↑w0 T sz vl q.length (q.flatMap cel)
 e:∀p∈q,Pts (bm::ob vl) ↑w (pts p)/\∀L:LN,(∀b∈L,b<↑w0)->Pts (L++bm::ob vl) ↑w (ptn p)
 m:XM enc ↑w bm (q.map key)
 nm:bm∉ob vl
 hb:↑w0<=bm
section
variable {κ:Type}{cel:α->LV}{enc:κ->O2}{key:α->κ}{pts ptn:α->List (O2×LI)}{bm:Nat}{w0 w1 w2 w3:O1}{vl':O2}{q:List α}{p:α}
theorem QI.I (h:QI T sz cel enc key pts ptn bm w0 vl q w)(E:sW w w'):QI T sz cel enc key pts ptn bm w0 vl q w' :=
 ⟨h.st.D E,Qm h.o E,λp G=>⟨(h.e p G).1.I E,λL I=>((h.e p G).2 L I).I E⟩,h.m.I E,h.nm,h.hb⟩
theorem QI.lt (h:QI T sz cel enc key pts ptn bm w0 vl q w):∀b∈bm::ob vl,b<w.heap.size:=λb hb=>by
 rcases Ln.1 hb with rfl|hb
 ·exact h.m.lt
 exact QU h.o b hb
theorem QaB {vl':O2}(E:∀b∈ob vl',b∈ob vl\/N<=b):∀b∈bm::ob vl',b∈bm::ob vl\/N<=b:=λb hb=>by
 rcases Ln.1 hb with rfl|hb
 ·exact .inl Lm
 exact(E b hb).imp (Lk _) id
theorem QaA (L:LN){vl':O2}(E:∀b∈ob vl',b∈ob vl\/N<=b):∀b∈L++bm::ob vl',b∈L++bm::ob vl\/N<=b:=λb hb=>by
 rcases Lh.1 hb with hb|hb
 ·exact .inl (Lh.2 (.inl hb))
 exact(QaB E b hb).imp (λh=>Lh.2 (.inr h)) id
theorem QI.add (h:QI T sz cel enc key pts ptn bm w0 vl q w)(I:O5 [bm] w w1)(hm:XM enc ↑w1 bm (q.map key++[key p]))(G:sW w1 w2)(J:O5 (ob vl) w2 w3)(ho:w3.ownsRow ↑w0 T sz vl' (q.length+1) (q.flatMap cel++cel p))
  (U:∀b∈ob vl',b∈ob vl\/↑w2<=b) (V:Pts (bm::ob vl) ↑w (pts p)/\∀L:LN,(∀b∈L,b<↑w0)->Pts (L++bm::ob vl) ↑w (ptn p)):QI T sz cel enc key pts ptn bm w0 vl' (q++[p]) w3:=by
 have hc:=I.size;have he:=G.size;have hf:=h.m.lt;have k:∀(L:LN) {l:List (O2×LI)},Pts (L++bm::ob vl) ↑w l->Pts (L++bm::ob vl') ↑w3 l:=λL {l} hv =>
  ((hv.J I λb hb=>Lh.2 (.inr (Ln.2 (.inl (Lb.1 hb))))).I G).grow J (λb hb=>Lh.2 (.inr (Lk _ hb))) (QaA L U)
 refine⟨((h.st.O I λb hb=>.inr (by rw[Lb.1 hb];exact h.hb)).D G).O J λb hb=>.inr (Qj h.o b hb).1,?_,λY E=>?_,?_,λha=>?_,h.hb⟩
 ·rw[LD,M7,Lc,Lu];exact ho
 ·rcases Lh.1 E with E|E
  ·exact⟨k [] (h.e Y E).1,λL S=>k L ((h.e Y E).2 L S)⟩
  rw[Lb.1 E];exact⟨k [] V.1,λL S=>k L (V.2 L S)⟩
 ·rw[Lv];exact(hm.I G).J J h.nm
 rcases U _ ha with h1|h1
 ·exact h.nm h1
 omega
end
theorem Qiy (L:List (LI×LI))(hd:L.Nodup)(h:∀p∈L,Ss n p.1/\Ss n p.2):L.length<=2 ^ (n+n):=by
 have fil:∀r∈L,∀x,x∈r.1↔x∈(r.1++r.2.map (·+(n:Int)))/\x<(n:Int):=λr G x=>by
  constructor
  ·intro hx;exact⟨Lh.2 (.inl hx),((h r G).1.2 x hx).2⟩
  rintro⟨hx,he⟩;rcases Lh.1 hx with hx|hx
  ·exact hx
  obtain⟨y,I,rfl⟩:=Ly.1 hx;have:=(h r G).2.2 y I;omega
 have fir:∀r∈L,∀x,x∈r.2↔0<=x/\x+(n:Int)∈(r.1++r.2.map (·+(n:Int))):=λr G x=>by
  constructor
  ·intro hx;exact⟨((h r G).2.2 x hx).1,Lh.2 (.inr (Ly.2 ⟨x,hx,O⟩))⟩
  rintro⟨h0,hx⟩;rcases Lh.1 hx with hx|hx
  ·have:=(h r G).1.2 _ hx;omega
  obtain⟨y,I,e⟩:=Ly.1 hx;have:y=x:=oa
  exact this ▸ I
 have Y:∀p∈L,∀q∈L,p.1++p.2.map (·+(n:Int))=q.1++q.2.map (·+(n:Int))->p=q:=λp E q J e=>by
  have e1:p.1=q.1:=zn (h p E).1.1 (h q J).1.1 λx=>by rw[fil p E,fil q J,e]
  have e2:p.2=q.2:=zn (h p E).2.1 (h q J).2.1 λx=>by rw[fir p E,fir q J,e]
  exact Prod.ext e1 e2
 have:=ze (n+n) (L.map λp=>p.1++p.2.map (·+(n:Int))) (by
  unfold List.Nodup;rw[Ma];exact hd.imp_of_mem λ{a b} ha hb hc e=>hc (Y a ha b hb e)) λl hl=>by
  obtain⟨p,E,rfl⟩:=Ly.1 hl;obtain⟨⟨h1,U⟩,h3,V⟩:=h p E;refine⟨?_,λx hx=>?_⟩
  ·unfold YA at *;rw[Mg];refine⟨h1,?_,λx hx y I=>?_⟩
   ·rw[Ma];exact h3.imp λh=>oa
   obtain⟨z,S,rfl⟩:=Ly.1 I;have:=U x hx;have:=V z S;omega
  rcases Lh.1 hx with hx|hx
  ·have:=U x hx;omega
  obtain⟨z,S,rfl⟩:=Ly.1 hx;have:=V z S;omega
 rwa [Ll]at this
theorem yk:∀n:Nat,4 ^ n=2 ^ (n+n)
 | 0=>rfl
 | n+1=>by rw[OH,yk n,show n+1+(n+1)=n+n+1+1 by omega,OH,OH];omega
theorem QnD (h:n<=9):2 ^ (n+n)<=262144:=Lx (Nk og (show n+n<=18 by omega)) og
theorem Ss.len (h:Ss n l):l.length<=n:=xH n l (h.1.imp λE e=>oa) h.2
structure DqP (n:Nat)(l:List Dq):Prop where
 s:∀d∈l,Ss n d.1/\Ss n d.2.1
 w:∀d∈l,d.2.2.length<=l.length
 d:(l.map λd=>(d.1,d.2.1)).Nodup
theorem DqP.le {l:List Dq}(h:DqP n l):l.length<=2 ^ (n+n):=by
 have:=Qiy _ h.d λp E=>by
  obtain⟨d,hd,rfl⟩:=Ly.1 E;exact h.s d hd
 rwa [Ll]at this
theorem jx {l:List Dq}{x y:LI}:KK l x y=true↔(x,y)∈l.map λd=>(d.1,d.2.1):=by
 unfold KK;rw[Ni,Ly];exact⟨λ⟨d,E,G⟩=>⟨d,E,by have:=OY G;rw[this.1,this.2]⟩,λ⟨d,E,G⟩=>⟨d,E,OX (by cases G;exact⟨O,O⟩)⟩⟩
theorem DqP.add {l:List Dq}(h:DqP n l){x y w:LI}(hx:Ss n x)(E:Ss n y)(G:w.length<=l.length+1)(I:KK l x y=false):DqP n (l++[(x,y,w)]):=by
 refine⟨λd hd=>?_,λd hd=>?_,?_⟩
 ·rcases Lh.1 hd with hd|hd
  ·exact h.s d hd
  rw[Lb.1 hd];exact⟨hx,E⟩
 ·rw[Lc,Lu];rcases Lh.1 hd with hd|hd
  ·have:=h.w d hd;omega
  rw[Lb.1 hd];exact G
 rw[Lv,Mb];refine⟨h.d,od,λa J b hb e=>?_⟩;rw[Nt,Lb]at hb;have:=jx.2 (hb ▸ e ▸ J);rw[I]at this;cases this
theorem DqP.one {x y:LI}(hx:Ss n x)(E:Ss n y):DqP n [(x,y,[])]:=
 ⟨λd hd=>by rw[Lb.1 hd];exact⟨hx,E⟩,λd hd=>by rw[Lb.1 hd];exact Lo _,od⟩
theorem QhB (a:Qz)(o un l:LI)(v:Int):Ss a.st.toNat (vnx a o un l v):=UV _ _
theorem Qj7 {bad:LI->LI->Bool}{f:Nat}{l:List Dq}(h:l.length<=i):dfL a o un bad f i l=none:=by
 cases f with
 | zero=>rfl
 | succ f=>rw[dfL,Mq h]
theorem Qpf {bad:LI->LI->Bool}{f:Nat}{l:List Dq}{x:Dq}(h:l[i]?=some x):dfL a o un bad (f+1) i l=if bad x.1 x.2.1=true then some x.2.2 else dfL a o un bad f (i+1) ((kpt a o).foldl (dfE a o un x) l):=by
 rw[dfL,h]
abbrev DqV:=Dq×O2×O2×O2
abbrev dqC (q:DqV):LV:=[q.2.1,q.2.2.1,q.2.2.2]
abbrev dqL (q:List DqV):List Dq:=q.map (·.1)
theorem QeZ {f:α->Dq}{q:List α}(h:DqP n (q.map f)){x y:LI}(hx:Ss n x)(J:Ss n y){i:Decidable (koA x y∈q.map λp=>koA (f p).1 (f p).2.1)}:(!@decide _ i)=!KK (q.map f) x y:=by
 congr 1;have hi:(koA x y∈q.map λp=>koA (f p).1 (f p).2.1)↔KK (q.map f) x y=true:=by
  rw[jx,Mw,Ly,Ly];constructor
  ·rintro⟨p,G,e⟩;have I:=h.s (f p) (LG G);obtain⟨e1,e2⟩:=Qmj (λz E=>(I.1.2 z E).1) (λz E=>(I.2.2 z E).1) (λz E=>(hx.2 z E).1) (λz E=>(J.2 z E).1) e;exact⟨p,G,by show((f p).1,(f p).2.1)=_;rw[e1,e2]⟩
  rintro⟨p,G,e⟩;have e':((f p).1,(f p).2.1)=(x,y):=e;injection e' with e1 e2
  exact⟨p,G,by rw[e1,e2]⟩
 cases hb:KK (q.map f) x y with
 | true=>exact OX (hi.2 hb)
 | false=>exact OZ λS=>by rw[hi.1 S]at hb;cases hb
abbrev dqP (p:DqV):List (O2×LI):=[(p.2.1,p.1.1),(p.2.2.1,p.1.2.1)]
abbrev dqN (p:DqV):List (O2×LI):=[(p.2.2.2,p.1.2.2)]
abbrev DqI:=QI 361 3 dqC Xz (λp:DqV=>koA p.1.1 p.1.2.1) dqP dqN
abbrev Qfi:LV:=[nS,nS,nS]
def dfP (N:Nat)(A B W:LI)(e:Int)(i:Nat)(v:O2)(w:O1):Prop :=
 if i=4 then Qi 3 N w v A else
 if i=9 then Qi 3 N w v B else
 if i=12 then Qi 3 N w v W else
 if i=14 then ∃b,v=sL b 1 1/\N<=b/\QL ↑w b 3 [sS e]else
 if i=15 then Qi 3 N w v (W++[e]) else
 if i=16 then ∃va vb vw,v=.agg #[va,vb,vw]/\Qi 3 N w va A/\Qi 3 N w vb B/\Qi 3 N w vw (W++[e]) else
 ∃b,v=sP b/\N<=b/\QL ↑w b 361 Qfi
theorem Qj6 {A B W:LI}{e:Int}(i:Nat)(v:O2)(own:LN)(w w':O1)(h:dfP N A B W e i v w)(E:O5 own w w')(hb:∀b∈ow v,b∉own)(J:i∈[16]->own=[]):dfP N A B W e i v w':=by
 have k:∀{l:LI},Qi 3 N w v l->Qi 3 N w' v l:=λS=>Qg S E λb U=>hb b (zT U);unfold dfP at *;by_cases e4:i=4
 ·rw[OU e4]at *;exact k h
 rw[OT e4]at *;by_cases e9:i=9
 ·rw[OU e9]at *;exact k h
 rw[OT e9]at *;by_cases e12:i=12
 ·rw[OU e12]at *;exact k h
 rw[OT e12]at *;by_cases e14:i=14
 ·rw[OU e14]at *;obtain⟨b,rfl,G,I⟩:=h;exact⟨b,rfl,G,I.J E (hb b Lm)⟩
 rw[OT e14]at *;by_cases e15:i=15
 ·rw[OU e15]at *;exact k h
 rw[OT e15]at *;by_cases e16:i=16
 ·rw[OU e16]at *;obtain⟨va,vb,vw,rfl,G,I,V⟩:=h;have:=J (by rw[e16];exact Lm);subst this;exact⟨va,vb,vw,O,Qm G E,Qm I E,Qm V E⟩
 rw[OT e16]at *;obtain⟨b,rfl,G,I⟩:=h;exact⟨b,O,G,I.J E (hb b Lm)⟩
theorem QgV [Fu sV gp fn]{bad:LI->LI->Bool}{V:VwV}{A B:LI}(h:VwA ↑w V)(hA:Qu [] ↑w va A)(U:Qu [] ↑w vb B)(hU:Ss V.a.st.toNat A)(hV:Ss V.a.st.toNat B)(h9:V.a.st<=9)(g8:V.a.ed.length<=1000)
  (hk:∀(X Y:LI) (vx vy:O2) (W:O1),sW w W->Qu [] ↑W vx X->Qu [] ↑W vy Y->QR sV gp ([vx,vy]++cap) W λr w'=>r=.bool (bad X Y)/\sW W w'):
  QR sV 204 [.pointer (some ⟨V.b,0,none⟩),va,vb,.func (.func gp) #[] cap.toArray] w λr w'=>sW w w'/\∃vw,r=.tuple #[vw,.bool (dff V.a V.o V.un A B bad).isSome]/\Yr ↑w ↑w' vw ((dff V.a V.o V.un A B bad).getD []):=by
 have hok:=h.ok;have z4:=hok.st0;obtain⟨n,hn⟩:∃n:Nat,V.a.st.toNat=n:=⟨_,O⟩;have mg:n<=9:=oa
 have z5:V.a.st=(n:Int):=oa
 rw[hn]at hU hV;have hp18:=QnD mg;have mh:dff V.a V.o V.un A B bad=dfL V.a V.o V.un bad (2 ^ (n+n)+1) 0 [(A,B,[])]:=by unfold dff;rw[hn,yk]
 rw[mh];refine Zg (dfL V.a V.o V.un bad (2 ^ (n+n)+1) 0 [(A,B,[])]) λR hR=>?_;rw[hR];have hAl:=hU.len;have hBl:=hV.len;refine Zm func204 ?_;refine Qc<|x Qe<|Qb<|Qk<|Qa<|x (QE ⟨hA.cells,U.cells,Z⟩)<|Qo<|Q9 [[va,vb,ZT]] λhX w1 mj mo g9=>Qb<|Qc<|Qo<|Z1 Xz λbm w2 mq hbm ka=>Qa<|Qa<|Qo<|Yi (us:=[[va],[vb]]) O O og od ⟨hA.cells,rfl,U.cells,rfl,Z⟩ λb24 w3 kb hb24 ms=>?_;have h5:=mq.D kb;have gl:=mj.D h5;have hl20:=g9.lt;have hlm:=ka.lt;refine KS<|(Ul (m:=100) (ms.arr od (n:=2) (cap:=2) (sz:=1) rfl og (Lp _)) (hA.I gl) (U.I gl) (.inl (Mx _)) (λz hz=>oo (hU.2 z hz)) (λz hz=>oo (hV.2 z hz)) oa oa).S ?_;rintro _ w4 ⟨rfl,gm⟩;refine Qo<|QaK (k:=koA A B) (XM.zero ((ka.I kb).I gm)) O O O λw5 kc mt=>Qa<|Qb ?_;have mu:=gl.D gm;have ke:sW w w5:=mu.Q kc oa;have kf:∀{L:LN} {v:O2} {l:LI},(∀b∈L,↑w<=b)->Qu [] ↑w v l->Qu L ↑w5 v l:=λhL hv=>(hv.up λb hb=>.inr (hL b hb)).I ke;have mv:DqI bm w (sL hX 1 1) [((A,B,[]),va,vb,ZT)] w5:=by
  have hL:∀b∈bm::ob (sL hX 1 1),↑w<=b:=λb hb=>by
   rcases Ln.1 hb with rfl|hb
   ·omega
   rw[Lb.1 hb];exact mo
  have kg:hX≠bm:=oa
  refine⟨ke,(((g9.I h5).I gm).J kc (by simp only[oF];exact kg)).own (n:=1) (sz:=3) O oa oa,λp hp=>?_,mt,λI=>kg (Lb.1 I).symm,oa⟩;rw[Lb.1 hp];exact⟨⟨kf hL hA,kf hL U,Z⟩,λ_ _=>⟨Zt.nil _ _ _,Z⟩⟩
 refine Qd<|Qc<|Qb<|QW (α:=Nat×O2×List DqV) [(8,10),(12,13),(15,16),(27,99)] (λz=>[(10,z.2.1),(12,sS z.1)]) (λz w'=>z.1<=z.2.2.length/\DqI bm w z.2.1 z.2.2 w'/\DqP n (dqL z.2.2)/\dfL V.a V.o V.un bad (2 ^ (n+n)+1 - z.1) z.1 (dqL z.2.2)=R) (λz=>2 ^ (n+n)+1 - z.1) (0,sL hX 1 1,[((A,B,[]),va,vb,ZT)]) ov ⟨Lo _,mv,DqP.one hU hV,hR⟩ ?_;rintro⟨i,vl,q⟩ g w6 ⟨hi,h6,hJ,ha⟩;simp only[]at hi h6 hJ ha;have hql:q.length<=2 ^ (n+n):=by have:=hJ.le;rwa [Ll]at this
 have kh:Zt [] ↑w6 vl q.length 3 (q.flatMap dqC):=QO h6.o oa od;refine Qd<|Qk<|Qa<|QG kh O<|ZX O O<|xe<|Zr rfl (λgn=>?_) (λgn=>?_)
 ·refine Qt ?_;have mw:q.length<=i:=by have hK:¬(i:Int)<(q.length:Int):=gn;omega
  rw[Qj7 (by rw[Ll];exact mw)]at ha;refine Qc<|x Qe<|Qb<|Qh ⟨[ZT,.bool false],ov,h6.st,ZT,?_,?_⟩
  ·rw[<-ha];rfl
  rw[<-ha];exact Yr.nil _ _
 have hM:i<q.length:=by have hK:(i:Int)<(q.length:Int):=gn;omega
 have my:2 ^ (n+n)+1 - i=(2 ^ (n+n)+1 - (i+1))+1:=oa
 have hN:=Le hM;have ki:(dqL q)[i]?=some (q[i]'hM).1:=by rw[MC,LE hM];rfl
 refine Zg (q[i]'hM) λd hp=>?_;rw[hp]at hN ki;rw[my,Qpf ki]at ha;obtain⟨⟨kj,kk,_⟩,kn⟩:=h6.e d hN;have mz:=(kn [] (λ_ hb=>by cases hb)).1;have hY:=hJ.s d.1 (LG hN);have m0:=hJ.w d.1 (LG hN);rw[Ll]at m0;have hl1:=hY.1.len;have hl2:=hY.2.len;have hr:∀{v:O2} {l:LI} {L:LN} {H:xA},Qu L H v l->Qu [] H v l:=λhv=>hv.up λb hb=>by cases hb
 refine Qf<|Qd<|Qn<|Qk<|Qa<|O8 (g:=dqC) (i:=i) (λ_=>O) kh O O hM λa35 ko=>?_;rw[hp]at ko;refine x (QA (us:=dqC d) ko O O)<|QN Qfi λhZ w7 m1 m2 m3=>Q2 (dqC d) m3 ⟨kj.one,kk.one,mz.one,Z⟩ λw8 m4 go=>xe ?_;have ga:sW w6 w8:=m1.Q m4 m2;have kq:=h6.I ga;refine Qd<|Qk<|Qq O go O O<|Qq O go O O<|Qo<|xc (first:=[]) (capt:=cap) O<|(hk d.1.1 d.1.2.1 _ _ w8 kq.st (hr (kj.I ga)) (hr (kk.I ga))).S ?_;rintro _ w9 ⟨rfl,gq⟩;refine xe ?_;have gb:=kq.I gq;have kr:=go.I gq;have m5:=ga.D gq;refine Q6 rfl (λgr=>?_) (λgr=>?_)
 ·rw[OU gr]at ha;refine Qc<|Qq O kr O O<|x Qe<|Qb<|Qh ⟨[d.2.2.2,.bool true],ov,gb.st,d.2.2.2,?_,?_⟩
  ·rw[<-ha];rfl
  rw[<-ha];exact λL hL=>((kn L hL).1.I m5).up λb hb=>.inl (Lh.2 (.inl hb))
 rw[OT (λh:bad d.1.1 d.1.2.1=true=>MI (gr.symm.D h))]at ha;refine Qf<|Qk<|KS<|(jm (h.I gb.st)).S ?_;rintro kt m6 ⟨ku,m7⟩;have hal:=hok.al_le;have m8:(kpt V.a V.o).length<=V.a.al.length:=LJ _ _;have m9:=gb.lt;have gs:Qu (bm::ob vl) ↑m6 kt (kpt V.a V.o):=Qi.ints m7 oa m9;refine Zg (kpt V.a V.o) λks pc=>?_;rw[pc]at ha gs m8;refine QG gs O<|Qa<|xe ?_;have pd:=h6.lt;have pf:hZ∉bm::ob vl:=λI=>oo (pd _ I)
 refine QW (α:=Nat×O2×List DqV) [(10,10),(15,16),(48,99)] (λz=>[(10,z.2.1),(48,sS z.1)]) (λz w'=>z.1<=ks.length/\DqI bm w z.2.1 z.2.2 w'/\DqP n (dqL z.2.2)/\d∈z.2.2/\q.length<=z.2.2.length/\QL ↑w' hZ 361 (dqC d)/\hZ∉bm::ob z.2.1/\Qu (bm::ob z.2.1) ↑w' kt ks/\(ks.drop z.1).foldl (dfE V.a V.o V.un d.1) (dqL z.2.2)=ks.foldl (dfE V.a V.o V.un d.1) (dqL q)) (λz=>ks.length - z.1) (0,vl,q) ov
  ⟨Lo _,gb.I ku,hJ,hN,Lp _,kr.I ku,pf,gs,O⟩ ?_
 rintro⟨j,vj,qj⟩ g J ⟨hj,ht,h7,gc,kv,h8,hC,ge,hg⟩;simp only[]at hj ht h7 gc kv hC ge hg;have hqjl:qj.length<=2 ^ (n+n):=by have:=h7.le;rwa [Ll]at this
 refine Zk rfl O (λgt=>?_) (λgt=>?_)
 ·refine Qt ?_;have pg:ks.length<=j:=by have hK:¬(j:Int)<(ks.length:Int):=gt;omega
  rw[Lr pg]at hg;have ph:dqL qj=ks.foldl (dfE V.a V.o V.un d.1) (dqL q):=hg;rw[<-ph]at ha;refine Qs<|Qa<|QD O O<|Qb<|⟨(i+1,vj,qj),by show 2 ^ (n+n)+1 - (i+1)<2 ^ (n+n)+1 - i;omega,ov,by show i+1<=qj.length;omega,ht,h7,ha⟩
 have hO:j<ks.length:=by have hK:(j:Int)<(ks.length:Int):=gt;omega
 rw[QY hO,LO]at hg;refine Qf<|Qd<|Qn<|Qc<|xii (i:=j) ge O O hO λa50 kw=>?_;refine Zg (ks[j]'hO) λv hv=>?_;rw[hv]at kw hg;refine x (Qr kw O)<|Qb ?_;obtain⟨⟨pj,pn,_⟩,po⟩:=ht.e d gc;have pp:=(po [] (λ_ hb=>by cases hb)).1;have kx:∀l:LI,Ss n (vnx V.a V.o V.un l v):=λl=>by rw[<-hn];exact QhB _ _ _ _ _
 have hD:=kx d.1.1;have hE:=kx d.1.2.1;have kz:dfE V.a V.o V.un d.1 (dqL qj) v=if(vnx V.a V.o V.un d.1.1 v).length+(vnx V.a V.o V.un d.1.2.1 v).length > 0/\KK (dqL qj) (vnx V.a V.o V.un d.1.1 v) (vnx V.a V.o V.un d.1.2.1 v)=false then dqL qj++[(vnx V.a V.o V.un d.1.1 v,vnx V.a V.o V.un d.1.2.1 v,d.1.2.2++[v])]else dqL qj:=rfl
 have pt:∀z∈d.1.1,0<=z/\z<V.a.st:=λz hz=>oo (hY.1.2 z hz)
 have pu:∀z∈d.1.2.1,0<=z/\z<V.a.st:=λz hz=>oo (hY.2.2 z hz)
 have k0:∀W:O1,sW J W->QR sV 136 [.pointer (some ⟨V.b,0,none⟩),d.2.1,sS v] W λr w'=>sW W w'/\Qi 3 ↑W w' r (vnx V.a V.o V.un d.1.1 v):=λW hW=>UR (est:=d.1.1) (h.I (ht.st.D hW)) (hr (pj.I hW)) pt oa g8 v;have k4:∀W:O1,sW J W->QR sV 136 [.pointer (some ⟨V.b,0,none⟩),d.2.2.1,sS v] W λr w'=>sW W w'/\Qi 3 ↑W w' r (vnx V.a V.o V.un d.1.2.1 v):=λW hW=>UR (est:=d.1.2.1) (h.I (ht.st.D hW)) (hr (pn.I hW)) pu oa g8 v;refine Zg (vnx V.a V.o V.un d.1.1 v) λA' gu=>?_;refine Zg (vnx V.a V.o V.un d.1.2.1 v) λB' gv=>?_;rw[gu,gv]at kz;rw[gu]at hD;rw[gv]at hE;simp only[gu]at k0;simp only[gv]at k4;rw[kz]at hg;have hAl':=hD.len;have hBl':=hE.len;have pw:=ht.st.size;refine Qd<|yK (α:=O2×O2×O2×Nat) (sW J) (sW J) ↑J [oz 0,oz 1,oz 2,oz 3,oz 5,oz 6,oz 7,oz 8,oz 10,oz 11,oz 13] (λi=>if i=9 then[4]else if i=12 then[9]else if i=15 then[12,14]else if i=16 then[4,9,15]else[]) (λi=>if i=15 then[12]else[]) [4,9,12,14,15,16,17] [16,17] [16] [oA 18] [(56,56),(61,61),(64,64),(66,68),(16,16)] (dfP ↑J A' B' d.1.2.2 v)
  (λz=>[(68,.agg #[z.1,z.2.1,z.2.2.1]),(16,.pointer (some ⟨z.2.2.2,0,none⟩))]) (λz w'=>Qi 3 ↑J w' z.1 A'/\Qi 3 ↑J w' z.2.1 B'/\Qi 3 ↑J w' z.2.2.1 (d.1.2.2++[v])/\↑J<=z.2.2.2/\QL ↑w' z.2.2.2 361 Qfi)
  mixed oh oc (O5.X _ _) (λ_ h=>h) (λ_ _ _ _ _ E S hb _=>E.O S λb pz=>.inr (hb b pz)) (λ_ E=>E.size) (λi _=>Qj6 i) ?_ ?_
 ·rintro g w' ⟨⟨he,hf,hh,p0,h1,h2,h3⟩,⟨b,p4,hb,U⟩,_⟩ _ _;exact⟨(he,hf,hh,b),⟨p0,p4,Z⟩,h1,h2,h3,hb,U⟩
 refine p Qx<|p (QH O)<|pq (λ_ E=>Ql (h8.I E) O O)<|p Qx<|p Qx<|p (QH O)<|pq (λ_ E=>Ql (h8.I E) O O)<|p Qx <|
  p (QH rfl)<|pq (λ_ E=>Ql (h8.I E) O O)<|p Qx<|pe ⟨⟨?_,?_,?_,?_,?_,?_,?_,Z⟩,?_⟩
 ·rintro g w' E _ _;exact xf<|(k0 w' E).S λr hP ⟨S,G⟩=>⟨S,Zf G E.size,λb hb=>⟨.inl (X2 G b hb).1,(X2 G b hb).2⟩⟩
 ·rintro g w' E _ _;exact xf<|(k4 w' E).S λr hP ⟨S,G⟩=>⟨S,Zf G E.size,λb hb=>⟨.inl (X2 G b hb).1,(X2 G b hb).2⟩⟩
 ·rintro g w' E _ _;exact xf<|(ZZ (pp.I E)).S λr hP ⟨S,G⟩=>⟨S,Zf G E.size,λb hb=>⟨.inl (X2 G b hb).1,(X2 G b hb).2⟩⟩
 ·rintro g w' E _ _;exact Q9 [[sS v]] λb hP S hb U=>⟨S,⟨b,O,Lx E.size hb,U⟩,λc hQ=>by rw[Lb.1 (show c∈[b] from hQ)];exact⟨.inl hb,U.lt⟩⟩
 ·rintro g w' E ⟨p5,⟨b,p6,hb14,p7⟩,_⟩ _;refine Q8 (m:=1) (news:=[sS v]) (L:=[]) (show Qi _ _ _ _ _ from p5) O p6 O (p7.at od) om oa E.size λr hP G S hn=>⟨S.S λb hb=>Md.2 ⟨12,Lm,zT hb⟩,Qi.snoc G,λb hb=>⟨?_,(X2 G b hb).2⟩⟩;exact(hn b (QdN G hb)).symm.imp id λh=>Md.2 ⟨12,Lm,zT h⟩
 ·rintro g w' E ⟨h4,h9,k5,_⟩ _;refine xv (QE ⟨xM (show Qi _ _ _ _ _ from h4),xM (show Qi _ _ _ _ _ from h9),xM (show Qi _ _ _ _ _ from k5),Z⟩) ?_;exact⟨O5.Y _ _,⟨_,_,_,O,h4,h9,k5⟩,λc hQ=>by cases hQ⟩
 ·rintro g w' E _ _;exact YU (us:=Qfi) O λb hP S hb U=>⟨S,⟨b,O,Lx E.size hb,U⟩,λc hQ=>by rw[Lb.1 (show c∈[b] from hQ)];exact⟨.inl hb,U.lt⟩⟩
 rintro⟨he,hf,hh,b16⟩ g p8 k6 ⟨gx,gy,gz,gg,g0⟩;simp only[]at gx gy gz gg g0;refine pk<|Uk [he,hf,hh] g0 ⟨QC gx,QC gy,QC gz,Z⟩ λhF h5 hG=>⟨k6.Q h5 gg,pe ?_⟩;have hS:sW J hF:=k6.Q h5 gg;have g2:∀{u:O2} {l:LI},Qi 3 ↑J p8 u l->Qi 3 ↑J hF u l:=λG=>Qg G h5 λb hb I=>VP G g0 og (Lb.1 I ▸ hb);have p9:=g2 gx;have qa:=g2 gy;have k9:=g2 gz;have qe:(d.1.2.2++[v]).length<=qj.length+1:=by rw[Lc,Lu];omega
 have g3:=ht.I hS;have hT:=ht.lt;have hy:Qu (bm::ob vj) ↑hF he A':=Qi.ints p9 oa hT;have h0:Qu (bm::ob vj) ↑hF hf B':=Qi.ints qa oa hT;have qf:Qu (bm::ob vj) ↑hF hh (d.1.2.2++[v]):=Qi.ints k9 oa hT;have gh:∀{l:LI},Ss n l->∀z∈l,0<=z/\z<(100:Int):=λhl z hz=>oo (hl.2 z hz)
 refine QX (α:=Unit) [(69,87)] (λ_=>[(87,.bool (decide (A'.length+B'.length > 0/\KK (dqL qj) A' B'=false)))]) (λ_ w'=>sW hF w') oh ?_ ?_
 ·refine Qs<|Qq O hG O O<|QG hy O<|Qq O hG O O<|QG h0 O<|QD O O<|xb (Ya O O) (λg4=>?_) (λg4=>?_)
  ·refine Qa<|Qa<|Qq O hG O O<|Qq O hG O O<|Qo<|Yi (us:=[[he],[hf]]) O O og od ⟨hy.cells,rfl,h0.cells,rfl,Z⟩ λb83 ql hq hb83 qm=>?_;refine KS<|(Ul (m:=100) (qm.arr od (n:=2) (cap:=2) (sz:=1) rfl og (Lp _)) (hr (hy.I hq)) (hr (h0.I hq)) (.inl (Mx _)) (gh hD) (gh hE) oa oa).S ?_;rintro _ q0 ⟨rfl,gi⟩;refine x (Qay (k:=koA A' B') ((g3.m.I hq).I gi) O O)<|x (Zl O)<|QB O<|xe<|⟨(),⟨OV Value.bool ?_,Z⟩,hq.D gi⟩;refine(QeZ (f:=Prod.fst) h7 hD hE).D ?_;have q4:A'.length+B'.length > 0:=by have hK:(A'.length:Int)+(B'.length:Int) > 0:=g4;omega
   cases hse:KK (dqL qj) A' B' with
   | true=>exact bF λh=>by cases h.2
   | false=>exact bT ⟨q4,O⟩
  refine Qa<|Zq<|Zq<|Zq<|QB O<|xe ?_;exact⟨(),⟨OV Value.bool (bF λh=>by have hK:¬(A'.length:Int)+(B'.length:Int) > 0:=g4;have:=h.1;omega),Z⟩,O5.Y _ _⟩
 rintro _ g ql hq;have ma:=hS.D hq;have q5:=g3.I hq;refine Zr rfl (λgj=>?_) (λgj=>?_)
 ·rw[OT gj]at hg;refine Qf<|Qs<|QD O O<|Qa<|xe ?_;exact⟨(j+1,vj,qj),by show ks.length - (j+1)<ks.length - j;omega,ov,hO,q5,h7,gc,kv,h8.I ma,hC,ge.I ma,hg⟩
 rw[OU gj]at hg;have mc:=hG.I hq;refine Qk<|Qq O mc O O<|Qq O mc O O<|Qo<|Yi (us:=[[he],[hf]]) O O og od ⟨hy.cells,rfl,h0.cells,rfl,Z⟩ λb93 q0 gi hb93 j1=>?_;have g5:=hq.D gi;refine KS<|(Ul (m:=100) (j1.arr od (n:=2) (cap:=2) (sz:=1) rfl og (Lp _)) (hr (hy.I g5)) (hr (h0.I g5)) (.inl (Mx _)) (gh hD) (gh hE) oa oa).S ?_;rintro _ w16 ⟨rfl,j2⟩;have hw:=g5.D j2;have gk:=g3.I hw;refine Qo<|zW (k:=koA A' B') gk.m O O O λw17 hH j3=>xe ?_;have j4:b16∉[bm]:=λI=>by have:=hT bm Lm;rw[Lb.1 I]at gg;omega
 have za:=(hG.I hw).J hH j4;have hz13:=hS.size;have hz16:=hw.size;have hz17:=hH.size;refine Qs<|Qa<|QV za O O<|Qo<|Q9 [[he,hf,hh]] λb97 w18 hI hb97 z0 =>
  Qo<|Q8 (m:=1) (news:=[he,hf,hh]) (L:=[]) (Qm (Qg gk.o hH λb hb I=>gk.nm (Lb.1 I ▸ hb)) hI) O O O (z0.at od) (λu hu=>Zv.all (us:=[he,hf,hh]) ⟨hy.one,h0.one,qf.one,Z⟩ u hu) oa (oo hI.size) λvr w19 z2 g6 g7=>Qb<|Qs<|QD O O<|Qa<|xe ?_
 have hz18:=hI.size;have z3:=gk.add (p:=((A',B',d.1.2.2++[v]),he,hf,hh)) hH j3 hI g6 z2 g7 ⟨⟨hy.I hw,h0.I hw,Z⟩,λL hL=>⟨(Qi.ints k9 oa λb hb=>(Lh.1 hb).elim (λh=>LR (hL b h) pw) (hT b)).I hw,Z⟩⟩;have h13w:hZ<J.heap.size:=h8.lt;have mf:∀b∈[bm],b∈bm::ob vj:=λb hb=>by rw[Lb.1 hb];exact Lm
 refine⟨(j+1,vr,qj++[((A',B',d.1.2.2++[v]),he,hf,hh)]),by show ks.length - (j+1)<ks.length - j;omega,ov,hO,z3,?_,Lh.2 (.inl gc),by rw[Lc];omega,?_,λI=>?_,?_,?_⟩
 ·show DqP n (OS _ (qj++[_]));rw[Lv];exact h7.add hD hE (by rw[Ll];exact qe) gj.2
 ·exact((((h8.I hS).I hw).J hH λI=>hC (mf _ I)).I hI).J g6 λI=>hC (Lk _ I)
 ·rcases Ln.1 I with e|I
  ·exact hC (e ▸ Lm)
  rcases g7 _ I with h1|h1
  ·exact hC (Lk _ h1)
  omega
 ·exact Zt.grow ((((ge.I hS).I hw).J hH mf).I hI) g6 (λb hb=>Lk _ hb) (QaB g7)
 show(ks.drop (j+1)).foldl (dfE V.a V.o V.un d.1) (OS _ (qj++[_]))=_;rw[Lv];exact hg
theorem Qqt {b:Bool}(h:(!b)=true):b=false:=by cases b <;> first|rfl|cases h
theorem Qqu {b:Bool}(h:(!b)=false):b=true:=by cases b <;> first|rfl|cases h
theorem Qan (a:Qz)(o un l:LI)(b:Bool):Ss a.st.toNat (vcl a o un l b):=UV _ _
theorem Qhv {V:VwV}{est:LI}(h:VwA ↑w V)(hE:Qu [] ↑w ve est)(hs:Ss V.a.st.toNat est)(h0:0<=s)(h1:s<V.a.st)(h9:V.a.st<=9)(hf:V.a.ed.length<=1000):
  QR sV 134 [.pointer (some ⟨V.b,0,none⟩),ve,sS s] w λr w'=>sW w w'/\∃vw,r=.tuple #[vw,.bool (rft V.a V.o V.un est s).isSome]/\Yr ↑w ↑w' vw ((rft V.a V.o V.un est s).getD []):=by
 have hm:=h.ok.st0;have S:=Qan V.a V.o V.un [s] false;have hn:=S.len;refine Zm func134 ?_;refine Qc<|Za [.pointer (some ⟨V.b,0,none⟩)] λb3 w1 T ho I=>x Qe<|Qb<|Qd<|ZL [] [oz 0,oz 1,oz 2,oz 3,oz 6,oA 4,oA 5,oA 7,oz 8,oz 9,oz 10,oz 11]<|pq (λ_ J=>Ql (I.I J) O O)<|p Qx<|pq (λ_ J=>Ql (I.I J) O O)<|p Qx <|
  p (λ_=>Zn (l:=[]) (l':=[.tmp 3]))<|pk<|Q9 [[sS s]] λhp w2 U hq hg=>⟨(O5.X _ _).D U,?_⟩
 have ha:sW w1 w2:=(O5.X _ _).D U;have hh:=T.D ha;refine pk<|xg<|(KU (only:=false) (l:=[s]) (h.I hh) (hg.arr od (n:=1) (cap:=1) (sz:=1) rfl og (OE _)) (λz hz=>by rw[List.mem_singleton.1 hz];exact⟨h0,h1⟩) od).S ?_;rintro v3 w3 ⟨hj,hk⟩;have G:=ha.D hj;have E:=T.D G;refine⟨G,?_⟩;refine pk<|xg<|(QgV (cap:=[sP b3]) (bad:=QbX V.a) (h.I E) (hE.I E) (Qi.ints hk oa od) hs S h9 hf
  (λX Y vx vy W hW hx hy=>Qhz (h.I (E.D hW)) ((I.I G).I hW) hx hy)).S ?_
 rintro r4 w4 ⟨he,vw,rfl,hw⟩;refine⟨G.D he,?_⟩;refine p (λ_=>Q3 O O)<|p (λ_=>Q3 O O)<|p ZN<|p ZN<|pe ?_;exact Qh ⟨[vw,_],ov,E.D he,vw,O,hw.S E.size⟩
theorem Qhy {V:VwV}{v:Int}(h:VwA ↑w V)(h0:0<=s)(h1:s<V.a.st)(h9:V.a.st<=9):
  QR sV 137 [.pointer (some ⟨V.b,0,none⟩),sS s,sS v] w λr w'=>r=.bool (ctd V.a V.o V.un s v)/\sW w w':=by
 have hB:=h.ok.st0;have ho:=Qan V.a V.o V.un [s] false;have hp:=Qan V.a V.o V.un [s] true;have hC:=ho.len;have hD:=hp.len;have hq:∀z∈[s],0<=z/\z<V.a.st:=λz J=>by rw[Lb.1 J];exact⟨h0,h1⟩
 refine Zm func137 ?_;refine Qc<|Za [.pointer (some ⟨V.b,0,none⟩)] λb3 w1 hv hE hw=>Za [sS v] λb5 G hr hF hh=>Qb ?_;have T:=hv.D hr;have S:=hw.I hr;have I:sW G { G with drawn:=G.drawn+1 }:=O5.X _ _
 refine Qd<|QX (α:=Unit) [(8,20)] (λ_=>[(20,.bool (!(decide (v∈V.o) && decide (v∈V.un))))]) (λ_ w'=>sW G w') oh ?_ ?_
 ·refine ZL [] (Xg 0 13 [2,10])<|pq (λ_ E=>Ql (S.I E) O O)<|pq (λ_ E=>Ql (hh.I E) O O)<|pk<|xg<|(zo (w:={ G with drawn:=G.drawn+1 }) ((h.I T).I I) v).S ?_
  rintro _ w3 ⟨rfl,rfl⟩;refine⟨I,?_⟩;refine pB (λ_=>Zl O) (λhj=>?_) (λhj=>?_)
  ·refine p Qx<|ps<|ps<|ps<|ps<|ps<|ps<|ps<|p (Ys O)<|pe ?_;exact⟨(),⟨OV Value.bool (by rw[OZ (Vo hj)];rfl),Z⟩,I⟩
  refine p Qx<|pq (λ_ E=>Ql (S.I E) O O)<|p (YL O)<|p (QH O)<|pq (λ_ E=>Ql ((h.blk.I T).I E) O O) <|
   pq (λ_ E=>Ql (hh.I E) O O)<|pk<|xg<|(ZK (w:={ G with drawn:=G.drawn+1 }) ((h.u.I T).I I) v).S ?_
  rintro _ w4 ⟨rfl,rfl⟩;refine⟨I,?_⟩;refine p (λ_=>Zl O)<|p (Ys O)<|pe ?_;exact⟨(),⟨OV Value.bool (by rw[OX (Ke hj),OK]),Z⟩,I⟩
 rintro _ g w3 hk;have U:=T.D hk;have hct:ctd V.a V.o V.un s v=((decide (v∈V.o) && decide (v∈V.un)) && (psb V.a v (vcl V.a V.o V.un [s] false) && !psb V.a v (vcl V.a V.o V.un [s] true))):=(Bool.and_assoc _ _ _).symm;refine Q6 rfl (λhm=>?_) (λhm=>?_)
 ·refine Qc<|Qb<|Qh ⟨[.bool false],La,OV Value.bool ?_,U⟩;rw[hct,Qqt hm];rfl
 rw[Qqu hm,OK]at hct;rw[hct];refine Qf<|Qc<|x (Zn (l:=[]) (l':=[.tmp 3,.tmp 5]))<|Qb ?_;have Y:=S.I hk;have hs:=hh.I hk;have h3:=h.I U;refine QX (α:=Unit) [(6,6),(22,36)] (λ_=>[(6,.bool (psb V.a v (vcl V.a V.o V.un [s] false) && !psb V.a v (vcl V.a V.o V.un [s] true)))]) (λ_ w'=>sW w w') oh ?_ ?_
 ·refine Qs<|Qa<|ZE Y O O<|Qa<|Qo<|Q9 [[sS s]] λhG w6 ht hH hy =>
   Qv<|(KU (only:=false) (l:=[s]) (h3.I ht) (hy.arr od (n:=1) (cap:=1) (sz:=1) rfl og (Lp _)) hq od).S ?_
  rintro v7 w7 ⟨h2,h4⟩;have ha:=ht.D h2;refine Qo<|xc (first:=[]) (capt:=[sP b3,sP b5]) O<|(Qby (h3.I ha) (Y.I ha) (hs.I ha) (Qi.ints h4 oa od) (λz J=>oo (ho.2 z J))).S ?_;rintro r8 w8 ⟨he,h5⟩;have hf:=ha.D h5;refine Qeb (psb V.a v (vcl V.a V.o V.un [s] false)) (λhn=>?_) (λhn=>?_)
  ·rw[hn]at he ⊢;subst he;refine Qa<|Qa<|ZE (Y.I hf) O O<|Qa<|Qo<|Q9 [[sS s]] λhI w9 hu hJ S =>
    Qv<|(KU (only:=true) (l:=[s]) ((h3.I hf).I hu) (S.arr od (n:=1) (cap:=1) (sz:=1) rfl og (Lp _)) hq od).S ?_
   rintro hK hL ⟨h6,h7⟩;have hg:=(hf.D hu).D h6;refine Qo<|xc (first:=[]) (capt:=[sP b3,sP b5]) O<|(Qby (h3.I hg) (Y.I hg) (hs.I hg) (Qi.ints h7 oa od) (λz J=>oo (hp.2 z J))).S ?_;rintro _ hM ⟨rfl,h8⟩;refine x (Zl O)<|QB O<|Qb<|⟨(),La,U.D (hg.D h8)⟩
  rw[hn]at he ⊢;subst he;refine Qa<|Zq<|Zq<|Kt<|QB O<|Qb<|⟨(),La,U.D hf⟩
 rintro _ g hN hA;exact Qh ⟨[_],La,O,hA⟩
abbrev QeA:=Plc×O2×O2
abbrev pcC (q:QeA):LV:=[sS q.1.1,q.2.1,q.2.2]
abbrev pcD (z:Plc):Dq:=([z.1],z.2.1,z.2.2)
abbrev pcF (p:QeA):Dq:=pcD p.1
abbrev pcK (p:QeA):ByteArray:=koA [p.1.1] p.1.2.1
abbrev pcP (p:QeA):List (O2×LI):=[(p.2.1,p.1.2.1)]
abbrev pcN (p:QeA):List (O2×LI):=[(p.2.2,p.1.2.2)]
abbrev PcI:=QI 239 3 pcC Xz pcK pcP pcN
theorem Qe0 (l:List Plc)(s:Int)(t:LI):QbU l s t=KK (l.map pcD) [s] t:=by
 unfold QbU KK;rw[List.any_map];congr 1;funext z;exact decide_eq_decide.2 ⟨λh=>⟨by show[z.1]=_;rw[h.1],h.2⟩,λh=>⟨(List.cons.inj h.1).1,h.2⟩⟩
theorem Ss.one (E:0<=s)(G:s<(n:Int)):Ss n [s]:=⟨M4 _ _,λx hx=>by rw[Lb.1 hx];exact⟨E,G⟩⟩
theorem QiH {f:Nat}{l:List Plc}(h:l.length<=i):obL a o un f i l=none:=by
 cases f with
 | zero=>rfl
 | succ f=>rw[obL,Mq h]
theorem QiG {f:Nat}{l:List Plc}{z:Plc}{t:LI}(h:l[i]?=some z)(E:rft a o un z.2.1 z.1=some t):obL a o un (f+1) i l=some (z.2.2,t):=by
 rw[obL,h];simp only[E]
theorem QiI {f:Nat}{l:List Plc}{z:Plc}(h:l[i]?=some z)(E:rft a o un z.2.1 z.1=none):obL a o un (f+1) i l=obL a o un f (i+1) ((QQ a.ed z.1).foldl (obE a o un z) l):=by
 rw[obL,h];simp only[E]
def QlX (N:Nat)(W:LI)(e s:Int)(ve:O2)(i:Nat)(v:O2)(w:O1):Prop :=
 if i=6 then Qi 3 N w v W else
 if i=9 then ∃b,v=sL b 1 1/\N<=b/\QL ↑w b 3 [sS e]else
 if i=10 then Qi 3 N w v (W++[e]) else
 if i=11 then ∃vw,v=.agg #[sS s,ve,vw]/\Qi 3 N w vw (W++[e]) else
 ∃b,v=sP b/\N<=b/\QL ↑w b 239 [sS 0,ZT,ZT]
theorem Qgu {W:LI}{e:Int}(i:Nat)(v:O2)(own:LN)(w w':O1)(h:QlX N W e s ve i v w)(G:O5 own w w')(hb:∀b∈ow v,b∉own)(J:i∈[11]->own=[]):QlX N W e s ve i v w':=by
 have k:∀{l:LI},Qi 3 N w v l->Qi 3 N w' v l:=λS=>Qg S G λb T=>hb b (zT T);unfold QlX at *;by_cases e6:i=6
 ·rw[OU e6]at *;exact k h
 rw[OT e6]at *;by_cases e9:i=9
 ·rw[OU e9]at *;obtain⟨b,rfl,E,I⟩:=h;exact⟨b,rfl,E,I.J G (hb b Lm)⟩
 rw[OT e9]at *;by_cases e10:i=10
 ·rw[OU e10]at *;exact k h
 rw[OT e10]at *;by_cases e11:i=11
 ·rw[OU e11]at *;obtain⟨vw,rfl,E⟩:=h;have:=J (by rw[e11];exact Lm);subst this;exact⟨vw,O,Qm E G⟩
 rw[OT e11]at *;obtain⟨b,rfl,E,I⟩:=h;exact⟨b,O,E,I.J G (hb b Lm)⟩
theorem QiE {o:Option α}(h:¬o.isSome=true):o=none:=by cases o with|none=>rfl|some x=>exact OW rfl h
theorem QiD {o:Option α}(h:o.isSome=true):∃x,o=some x:=by cases o with|none=>cases h|some x=>exact⟨x,rfl⟩
theorem Qbz {V:VwV}(h:VwA ↑w V)(h9:V.a.st<=9)(ka:V.a.ed.length<=1000):
  QR sV 57 [.pointer (some ⟨V.b,0,none⟩)] w λr w'=>sW w w'/\∃vw vo,r=.tuple #[vw,vo,.bool (obs V.a V.o V.un).isNone]/\Yr ↑w ↑w' vw ((obs V.a V.o V.un).elim [] (·.1))/\Yr ↑w ↑w' vo ((obs V.a V.o V.un).elim [] (·.2)):=by
 have hok:=h.ok;have hst0:=hok.st0;obtain⟨n,hn⟩:∃n:Nat,V.a.st.toNat=n:=⟨_,O⟩;have m9:n<=9:=oa
 have hna:V.a.st=(n:Int):=oa
 have hp18:=QnD m9;have pc:=hok.ed;obtain⟨rv,kb,kc⟩:=h.r;rw[hn]at kb kc;have hg:obs V.a V.o V.un=if V.a.st=0 then none else obL V.a V.o V.un (2 ^ (n+n)+1) 0 [(0,vcl V.a V.o V.un [0] false,[])]:=by unfold obs;rw[hn,yk]
 refine Zg (obs V.a V.o V.un) λR hR=>?_;rw[hR]at hg ⊢;refine Zm func57 ?_;refine Qc<|x Qe<|x Qe<|Qb<|Qd<|Qk<|Z6 O<|Zc O<|Qq O h.blk O O<|x (Zd O O)<|xe<|Zi rfl (λga=>?_) (λga=>?_)
 ·have gb:V.a.st=0:=ga;rw[OU gb]at hg;rw[hg];refine Qc<|x Qe<|x Qe<|Qb<|Qh ⟨[ZT,ZT,.bool true],ox,O5.Y _ _,ZT,ZT,O,Yr.nil _ _,Yr.nil _ _⟩
 have gb:¬V.a.st=0:=ga;rw[OT gb]at hg;have hn0:0<n:=oa
 refine Qf<|Qc ?_;have hy:=Qan V.a V.o V.un [0] false;rw[hn]at hy;have pd:=hy.len;refine Qa<|Qo<|Q9 [[sS 0]] λb22 w1 ke hb22 pf=>Qv<|(KU (only:=false) (l:=[0]) (h.I ke) (pf.arr od (n:=1) (cap:=1) (sz:=1) rfl og (OE _)) (λz hz=>by rw[List.mem_singleton.1 hz];omega) od).S ?_;rintro Y w2 ⟨pg,kf⟩;refine Zg (vcl V.a V.o V.un [0] false) λe0 ph=>?_;rw[ph]at kf hy pd hg;have gc:Qu [] ↑w2 Y e0:=Qi.ints kf oa od;refine x (QE ⟨gc.cells,Z⟩)<|Qo<|Q9 [[sS 0,Y,ZT]] λhK w3 hM pj ge=>Qb ?_;have kg:=ke.D pg;have pn:=kg.D hM;refine Qc<|Qo<|Z1 Xz λbm w4 kh ki kj=>Qo<|Q9 [[sS 0]] λpo w5 kk hb27 pp=>?_;have kn:=kh.D kk;have pt:Zt [] ↑w5 (sL hK 1 1) 1 3 [sS 0,Y,ZT]:=(ge.I kn).arr od (n:=1) (cap:=1) (sz:=3) rfl og (Lp _);have ko:=(gc.I hM).I kn;refine Qa<|O8 (g:=λ_:Nat=>[sS 0,Y,ZT]) (es:=[0]) (i:=0) (λ_=>O) pt O O og λa29 pu=>x (ZI O)<|x (Qr (u:=Y) (pu.fld 1 _ O) O)<|Qo<|Yi (us:=[[sL po 1 1],[Y]]) O O og od ⟨rfl,rfl,ko.cells,rfl,Z⟩ λb32 w6 gg hb32 pw=>?_;have hN:∀{l:LI},Ss n l->∀z∈l,0<=z/\z<(100:Int):=λhl z hz=>oo (hl.2 z hz)
 have kq:Ss n [(0:Int)]:=Ss.one (Mx _) oa;refine Qv<|(Ul (m:=100) (pw.arr od (n:=2) (cap:=2) (sz:=1) rfl og (OE _)) (show Qu [] ↑w6 _ [0] from(pp.I gg).arr od (n:=1) (cap:=1) (sz:=1) rfl og (Lp _)) (ko.I gg) (.inl (Mx _)) (hN kq) (hN hy) od oa).S ?_;rintro _ w7 ⟨rfl,pz⟩;have kr:=(kk.D gg).D pz;refine Qo<|QaK (k:=koA [0] e0) (XM.zero (kj.I kr)) O O O λw8 kt p0=>Qa<|Qb ?_;have hz02:=kg.size;have hlm:=kj.lt;have hl25:=ge.lt;have ku:=kh.D kr;have kv:sW w3 w8:=ku.Q kt ki;have p4:PcI bm w (sL hK 1 1) [((0,e0,[]),Y,ZT)] w8:=by
  have kw:hK≠bm:=oa
  refine⟨pn.D kv,((ge.I ku).J kt (by simp only[oF];exact kw)).own (n:=1) (sz:=3) O oa oa,λp hp=>?_,p0,λG=>kw (Lb.1 G).symm,oa⟩;rw[Lb.1 hp];refine⟨⟨(gc.up λb hb=>.inr ?_).I (hM.D kv),Z⟩,λ_ _=>⟨Zt.nil _ _ _,Z⟩⟩;rcases Ln.1 hb with rfl|hb
  ·exact Lx hM.size ki
  rw[Lb.1 hb];exact pj
 refine Qd<|Qc<|Qb<|QW (α:=Nat×O2×List QeA) [(2,5),(7,10),(12,14),(35,111)] (λz=>[(5,z.2.1),(7,sS z.1)]) (λz w'=>z.1<=z.2.2.length/\PcI bm w z.2.1 z.2.2 w'/\DqP n (z.2.2.map pcF)/\R=obL V.a V.o V.un (2 ^ (n+n)+1 - z.1) z.1 (z.2.2.map Prod.fst)) (λz=>2 ^ (n+n)+1 - z.1) (0,sL hK 1 1,[((0,e0,[]),Y,ZT)]) ov ⟨Lo _,p4,DqP.one kq hy,hg⟩ ?_;rintro⟨i,vl,q⟩ g w9 ⟨hi,hh,h0,S⟩;simp only[]at hi hh h0 S;have hql:q.length<=2 ^ (n+n):=by have:=h0.le;rwa [Ll]at this
 have kx:Zt [] ↑w9 vl q.length 3 (q.flatMap pcC):=QO hh.o oa od;refine Qd<|Qk<|Qa<|QG kx O<|ZX O O<|xe<|Zr rfl (λgh=>?_) (λgh=>?_)
 ·refine Qt ?_;have p5:q.length<=i:=by have gi:¬(i:Int)<(q.length:Int):=gh;omega
  rw[QiH (by rw[Ll];exact p5)]at S;rw[S];refine Qc<|x Qe<|x Qe<|Qb<|Qh ⟨[ZT,ZT,.bool true],ox,hh.st,ZT,ZT,O,Yr.nil _ _,Yr.nil _ _⟩
 have h2:i<q.length:=by have gi:(i:Int)<(q.length:Int):=gh;omega
 have p6:2 ^ (n+n)+1 - i=(2 ^ (n+n)+1 - (i+1))+1:=oa
 have h3:=Le h2;have gj:(q.map Prod.fst)[i]?=some (q[i]'h2).1:=by rw[MC,LE h2];rfl
 refine Zg (q[i]'h2) λd hp=>?_;rw[hp]at h3 gj;rw[p6]at S;obtain⟨⟨kz,_⟩,k0⟩:=hh.e d h3;have p7:=(k0 [] (λ_ hb=>by cases hb)).1;have k4:=h0.s (pcF d) (LG h3);have k5:=h0.w (pcF d) (LG h3);rw[Ll]at k5;have k6:=k4.1.2 d.1.1 Lm;have hO:Ss n d.1.2.1:=k4.2;have hl2:=hO.len;have hP:∀{v:O2} {l:LI} {L:LN} {H:xA},Qu L H v l->Qu [] H v l:=λhv=>hv.up λb hb=>by cases hb
 refine Qf<|Qd<|Qn<|Qk<|Qa<|O8 (g:=pcC) (i:=i) (λ_=>O) kx O O h2 λa43 k9=>?_;rw[hp]at k9;refine x (QA (us:=pcC d) k9 O O)<|QN [sS 0,ZT,ZT] λb8 w10 p8 p9 qa=>Q2 (pcC d) qa ⟨O,kz.one,p7.one,Z⟩ λqe qf gk=>xe ?_;have gl:sW w9 qe:=p8.Q qf p9;have gm:=hh.I gl;refine Qd<|Qk<|Qq O gk O O<|Qq O gk O O<|Qv<|(Qhv (est:=d.1.2.1) (h.I gm.st) (hP (kz.I gl)) (by rw[hn];exact hO) k6.1 oa h9 ka).S ?_;rintro _ gn ⟨go,vt,rfl,ma⟩;refine Qa<|QJ O O<|QJ O O<|x Qe<|Qb ?_;have h4:=gm.I go;have gq:=gk.I go;have ql:=gl.D go;refine Qk<|xe<|Q6 rfl (λgr=>?_) (λgr=>?_)
 ·refine Exists.elim (QiD gr) λt ht=>?_;rw[QiG gj ht]at S;rw[ht]at ma;rw[S];refine Qc<|Qq O gq O O<|Qa<|x Qe<|x Qe<|Qb<|Qh ⟨[d.2.2,vt,.bool false],ox,h4.st,d.2.2,vt,O,λL hL=>((k0 L hL).1.I ql).up λb hb=>.inl (Lh.2 (.inl hb)),ma.S gm.st.size⟩
 rw[QiI gj (QiE λh=>MI (gr.symm.D h))]at S;refine Qf ?_;have gs:=h.I h4.st;obtain⟨s,J⟩:∃s,d.1.1=s:=⟨_,O⟩;rw[J]at k6 S;have mc:s=(s.toNat:Int):=oa
 have mf:s.toNat<n:=oa
 have hE:=kc s.toNat mf;rw[<-mc]at hE;have hol:=Yg V.a.ed s;have qm:s.toNat<(oJ n).length:=by rw[L9];exact mf
 have q0:(sS d.1.1)=sS (s.toNat:Int):=by rw[J];exact OV _ mc
 refine Qd<|ZL [] (Xg 0 10 [])<|p Qx<|p (YL O)<|p (QH O)<|pq (λ_ E=>Ql (gs.blk.I E) O O)<|p (QH O)<|pq (λ_ E=>Ql (gq.I E) O O) <|
  Lg.pig (g:=λj:Nat=>[rv j]) (i:=s.toNat) O (λ_=>O) (kb.I h4.st) O (show Go.Lg.ev _ _=_ from q0) qm λa64 mg=>?_
 rw[Mr]at mg;refine pq (λ_ E=>Qr (u:=rv s.toNat) (mg.I E) O)<|p (λ_=>YY (hE.I h4.st) O)<|p Qx<|pe ?_;have mh:sW gn { gn with drawn:=gn.drawn+1 }:=O5.X _ _
 have q4:b8∉bm::ob vl:=λG=>oo (hh.lt _ G)
 refine QW (α:=Nat×O2×List QeA) [(5,5),(12,14),(67,111)] (λz=>[(5,z.2.1),(67,sS z.1)]) (λz w'=>z.1<=(QQ V.a.ed s).length/\PcI bm w z.2.1 z.2.2 w'/\DqP n (z.2.2.map pcF)/\d∈z.2.2/\q.length<=z.2.2.length/\QL ↑w' b8 239 (pcC d)/\b8∉bm::ob z.2.1/\((QQ V.a.ed s).drop z.1).foldl (obE V.a V.o V.un d.1) (z.2.2.map Prod.fst)=(QQ V.a.ed s).foldl (obE V.a V.o V.un d.1) (q.map Prod.fst)) (λz=>(QQ V.a.ed s).length - z.1) (0,vl,q) ov
  ⟨Lo _,h4.I mh,h0,h3,Lp _,gq.I mh,q4,O⟩ ?_
 rintro⟨j,vj,qj⟩ g q5 ⟨hj,hQ,hk,hS,mj,hT,h5,T⟩;simp only[]at hj hQ hk hS mj h5 T;have hqjl:qj.length<=2 ^ (n+n):=by have:=hk.le;rwa [Ll]at this
 refine Zk rfl O (λgt=>?_) (λgt=>?_)
 ·refine Qt ?_;have j1:(QQ V.a.ed s).length<=j:=by have gi:¬(j:Int)<((QQ V.a.ed s).length:Int):=gt;omega
  rw[Lr j1]at T;have j2:qj.map Prod.fst=(QQ V.a.ed s).foldl (obE V.a V.o V.un d.1) (q.map Prod.fst):=T;rw[<-j2]at S;refine Qs<|Qa<|QD O O<|Qb<|⟨(i+1,vj,qj),by show 2 ^ (n+n)+1 - (i+1)<2 ^ (n+n)+1 - i;omega,ov,by show i+1<=qj.length;omega,hQ,hk,S⟩
 have hq:j<(QQ V.a.ed s).length:=by have gi:(j:Int)<((QQ V.a.ed s).length:Int):=gt;omega
 have j3:=ZH (Le hq);have mo:=pc _ j3.1;rw[QY hq,LO]at T;refine Zg ((QQ V.a.ed s)[j]'hq) λe he=>?_;rw[he]at mo T;refine Qf<|Qd<|Qn<|Qc<|xie (hE.I hQ.st) O O hq λa69 mq=>?_;rw[he]at mq;refine x (QA mq O O)<|QN [sS 0,sS 0,sS 0] λb12 w14 j4 za z0=>Q2 (Qp e) z0 ox λU z2 gu=>xe ?_;have gv:sW q5 U:=j4.Q z2 za;have ha:=hQ.I gv;have gx:=hT.I gv;obtain⟨⟨gy,_⟩,z3⟩:=ha.e d hS;have z4:=(z3 [] (λ_ hb=>by cases hb)).1;have ms:(d.1.2.2++[e.2.1]).length<=qj.length+1:=by rw[Lc,Lu];have:d.1.2.2.length<=q.length:=k5;omega
 refine Qd<|yK (α:=O2×Nat) (sW U) (sW U) ↑U [oz 0,oz 1,oz 2,oz 3,oz 4,oz 5,oz 7,oz 8] (λi=>if i=10 then[6,9]else if i=11 then[10]else[]) (λi=>if i=10 then[6]else[]) [6,9,10,11,12] [11,12] [11] [oA 13] [(77,77),(80,82),(13,13)] (QlX ↑U d.1.2.2 e.2.1 e.2.2 d.2.1)
  (λz=>[(82,.agg #[sS e.2.2,d.2.1,z.1]),(13,.pointer (some ⟨z.2,0,none⟩))]) (λz w'=>Qi 3 ↑U w' z.1 (d.1.2.2++[e.2.1])/\↑U<=z.2/\QL ↑w' z.2 239 [sS 0,ZT,ZT])
  mixed oh oc (O5.X _ _) (λ_ h=>h) (λ_ _ _ _ _ E J hb _=>E.O J λb z5=>.inr (hb b z5)) (λ_ E=>E.size) (λi _=>Qgu i) ?_ ?_
 ·rintro g w' ⟨⟨I,e16,h1⟩,⟨b,e17,hb,hB⟩,_⟩ _ _;exact⟨(I,b),⟨e16,e17,Z⟩,h1,hb,hB⟩
 refine p (QH O)<|pq (λ_ E=>Ql (gu.I E) O O)<|p (QH O)<|pq (λ_ E=>Ql (gx.I E) O O)<|p (QH O)<|pq (λ_ E=>Ql (gx.I E) O O) <|
  p (QH rfl)<|pq (λ_ E=>Ql (gu.I E) O O)<|pe ⟨⟨?_,?_,?_,?_,?_,Z⟩,?_⟩
 ·rintro g w' E _ _;exact xg<|(ZZ ((hP z4).I E)).S λr gz ⟨J,ho⟩=>⟨J,Zf ho E.size,λb hb=>⟨.inl (X2 ho b hb).1,(X2 ho b hb).2⟩⟩
 ·rintro g w' E _ _;exact Q9 [[sS e.2.1]] λb gz J hb hB=>⟨J,⟨b,O,Lx E.size hb,hB⟩,λc h6=>by rw[Lb.1 (show c∈[b] from h6)];exact⟨.inl hb,hB.lt⟩⟩
 ·rintro g w' E ⟨gs,⟨b,e14,hb14,hB14⟩,_⟩ _;rw[Lc,Lu]at ms;refine Q8 (m:=1) (news:=[sS e.2.1]) (L:=[]) (show Qi _ _ _ _ _ from gs) O e14 O (hB14.at od) om oa E.size λr gz ho J hn=>⟨J.S λb hb=>Md.2 ⟨6,Lm,zT hb⟩,Qi.snoc ho,λb hb=>⟨?_,(X2 ho b hb).2⟩⟩;exact(hn b (QdN ho hb)).symm.imp id λh=>Md.2 ⟨6,Lm,zT h⟩
 ·rintro g w' E ⟨mt,_⟩ _;refine xv (QE ⟨O,gy.cells,xM (show Qi _ _ _ _ _ from mt),Z⟩) ?_;exact⟨O5.Y _ _,⟨_,O,mt⟩,λc h6=>by cases h6⟩
 ·rintro g w' E _ _;exact YU (us:=[sS 0,ZT,ZT]) O λb gz J hb hB=>⟨J,⟨b,O,Lx E.size hb,hB⟩,λc h6=>by rw[Lb.1 (show c∈[b] from h6)];exact⟨.inl hb,hB.lt⟩⟩
 rintro⟨I,hU⟩ g w16 mu ⟨h7,hV,hW⟩;simp only[]at h7 hV hW;refine pk<|Uk [sS e.2.2,d.2.1,I] hW ⟨O,gy.one,QC h7,Z⟩ λh8 g0 g2=>⟨mu.Q g0 hV,pe ?_⟩;have hA:sW U h8:=mu.Q g0 hV;have mv:Qi 3 ↑U h8 I (d.1.2.2++[e.2.1]):=Qg h7 g0 λb hb G=>VP h7 hW og (Lb.1 G ▸ hb);have hC:=ha.I hA;have hW7:Qu (bm::ob vj) ↑h8 I (d.1.2.2++[e.2.1]):=Qi.ints mv oa ha.lt;have mw:Qu (bm::ob vj) ↑h8 d.2.1 d.1.2.1:=gy.I hA;have hB817:=gx.I hA;have my:=gu.I hA;have h13b:∀b∈bm::ob vj,b≠hU:=λb hb=>oo (ha.lt b hb)
 have h13w:hU∉ob I:=VP h7 hW og;have hr:(obN V.a V.o V.un d.1 e).2.1=if e.2.1∈V.o then vnx V.a V.o V.un d.1.2.1 e.2.1 else d.1.2.1:=rfl
 have hD:Ss n (obN V.a V.o V.un d.1 e).2.1:=by
  rw[hr];split
  ·rw[<-hn];exact QhB _ _ _ _ _
  exact hO
 have mz:obE V.a V.o V.un d.1 (qj.map Prod.fst) e=if QbU (qj.map Prod.fst) e.2.2 (obN V.a V.o V.un d.1 e).2.1=true then qj.map Prod.fst else qj.map Prod.fst++[(e.2.2,(obN V.a V.o V.un d.1 e).2.1,d.1.2.2++[e.2.1])]:=rfl
 refine Zg (obN V.a V.o V.un d.1 e).2.1 λest hest=>?_;rw[hest]at hr hD mz;rw[mz]at T;have hesl:=hD.len;have hz17:=hC.st.size;refine QX (α:=O2) [(83,93)] (λ_=>[]) (λz w'=>O5 [hU] h8 w'/\QL ↑w' hU 239 [sS e.2.2,z,I]/\Qu (bm::ob vj) ↑w' z est) oh ?_ ?_
 ·refine Qk<|Qq O my O O<|Qv<|(zo (h.I hC.st) e.2.1).S ?_;rintro _ hX ⟨rfl,rfl⟩;refine xe<|Zr O (λg3=>?_) (λg3=>?_)
  ·rw[OT g3]at hr;refine Qf ?_;exact⟨d.2.1,Z,O5.Y _ _,g2,by rw[hr];exact mw⟩
  rw[OU g3]at hr;refine Qs<|Qa<|Qq O hB817 O O<|Qq O my O O<|Qv<|(UR (est:=d.1.2.1) (h.I hC.st) (hP mw) (λz hz=>oo (hO.2 z hz)) oa ka e.2.1).S ?_;rintro g4 w19 ⟨g5,hY⟩;rw[<-hr]at hY;have hA19:Qu (bm::ob vj) ↑w19 g4 est:=Qi.ints hY oa hC.lt;refine Zc O<|Qo<|Qw (u:=g4) (g2.I g5) O O (L4 O) hA19.one λw20 hF hB1320=>xe ?_;exact⟨g4,Z,(g5.S λb hb=>by cases hb).V hF,hB1320,Qi.ints (Qg hY hF λb hb G=>VP hY (g2.I g5) og (Lb.1 G ▸ hb)) oa hC.lt⟩
 rintro hw g hX ⟨m0,g6,hZ⟩;have m1:sW U hX:=hA.Q m0 hV;have hI18:PcI bm w vj qj hX:=ha.I m1;have m2:=Qg mv m0 λb hb G=>h13w (Lb.1 G ▸ hb);have hW18:Qu (bm::ob vj) ↑hX I (d.1.2.2++[e.2.1]):=Qi.ints m2 oa ha.lt;have g7:Ss n [e.2.2]:=Ss.one mo.2.2.2.1 oa;refine Qc<|Qq O g6 O O<|Qo<|Q9 [[sS e.2.2]] λb96 w20 hF hb96 hB96 =>
  Qq rfl (g6.I hF) O O<|Qo<|Yi (us:=[[sL b96 1 1],[hw]]) O O og od ⟨rfl,rfl,hZ.cells,rfl,Z⟩ λb99 w21 m3 hb99 hB99=>?_
 have m4:=hF.D m3;refine Qv<|(Ul (m:=100) (hB99.arr od (n:=2) (cap:=2) (sz:=1) rfl og (OE _)) (show Qu [] ↑w21 _ [e.2.2] from(hB96.I m3).arr od (n:=1) (cap:=1) (sz:=1) rfl og (Lp _)) (hP (hZ.I m4)) (.inl (Mx _)) (hN g7) (hN hD) od oa).S ?_;rintro _ w22 ⟨rfl,hs22⟩;refine Qb ?_;have hG:=m4.D hs22;have hf:=hI18.I hG;have g8:=(gv.D m1).D hG;refine Qk<|Qa<|x (Qay (k:=koA [e.2.2] est) hf.m O O)<|x (Zl O)<|xe ?_;have m5:∀{i:Decidable (koA [e.2.2] est∈qj.map pcK)},(!@decide _ i)=!QbU (qj.map Prod.fst) e.2.2 est:=by
  intro i;rw[Qe0,Mw];exact QeZ (f:=pcF) hk g7 hD
 refine Q6 rfl (λg9=>?_) (λg9=>?_)
 ·have hH:=Qqt (m5.symm.D g9);rw[OT (by rw[hH];exact MI)]at T;refine Qk<|Qa<|Qo<|zW (k:=koA [e.2.2] est) hf.m O O O λw23 hI hM23=>xe ?_;have m6:∀b∈[bm],b∈bm::ob vj:=λb hb=>by rw[Lb.1 hb];exact Lm
  have hB1323:=(g6.I hG).J hI λG=>h13b _ (m6 _ G) O;have hz23:=hI.size;have hz22:=hf.st.size;refine Qs<|Qa<|QV hB1323 O O<|Qo<|Q9 [[sS e.2.2,hw,I]] λb109 w24 hJ hb109 hB109 =>
   Qo<|Q8 (m:=1) (news:=[sS e.2.2,hw,I]) (L:=[]) (Qm (Qg hf.o hI λb hb G=>hf.nm (Lb.1 G ▸ hb)) hJ) O O O (hB109.at od) (λu hu=>Zv.all (us:=[sS e.2.2,hw,I]) ⟨rfl,hZ.one,hW18.one,Z⟩ u hu) oa (oo hJ.size) λvr w25 ho25 m7 m8=>Qb<|Qs<|QD O O<|Qa<|xe ?_
  have hz24:=hJ.size;have hz13:=g8.size;have h8w:=hT.lt;have hnew:=hf.add (p:=((e.2.2,est,d.1.2.2++[e.2.1]),hw,I)) hI hM23 hJ m7 ho25 m8 ⟨⟨hZ.I hG,Z⟩,λL hL=>⟨(Qi.ints m2 oa λb hb=>(Lh.1 hb).elim (λh=>LR (hL b h) ha.st.size) (ha.lt b)).I hG,Z⟩⟩;refine⟨(j+1,vr,qj++[((e.2.2,est,d.1.2.2++[e.2.1]),hw,I)]),by show(QQ V.a.ed s).length - (j+1)<(QQ V.a.ed s).length - j;omega,ov,hq,hnew,?_,Lh.2 (.inl hS),by rw[Lc];omega,?_,λG=>?_,?_⟩
  ·show DqP n (OS _ (qj++[_]));rw[Lv];refine hk.add g7 hD (by rw[Ll];exact ms) ?_;rw[Qe0,Mw]at hH;exact hH
  ·exact(((hT.I g8).J hI λG=>h5 (m6 _ G)).I hJ).J m7 λG=>h5 (Lk _ G)
  ·rcases QaB m8 _ G with h1|h1
   ·exact h5 h1
   omega
  show((QQ V.a.ed s).drop (j+1)).foldl (obE V.a V.o V.un d.1) (OS _ (qj++[_]))=_;rw[Lv];exact T
 have hH:=Qqu (m5.symm.D g9);rw[OU hH]at T;refine Qf<|Qs<|QD O O<|Qa<|xe ?_;exact⟨(j+1,vj,qj),by show(QQ V.a.ed s).length - (j+1)<(QQ V.a.ed s).length - j;omega,ov,hq,hf,hk,hS,mj,hT.I g8,h5,T⟩
abbrev CqV:=Cq×O2
abbrev cqC (q:CqV):LV:=[sS q.1.1,ZT,q.2]
abbrev cqK (p:CqV):Int:=p.1.1
abbrev cqN (p:CqV):List (O2×LI):=[(p.2,p.1.2)]
abbrev CqI:=QI 239 3 cqC XG cqK (λ_=>[]) cqN
structure CqO (n:Nat)(l:List Cq):Prop where
 s:∀d∈l,0<=d.1/\d.1<(n:Int)
 w:∀d∈l,d.2.length<=l.length
 d:(l.map (·.1)).Nodup
theorem CqO.le {l:List Cq}(h:CqO n l):l.length<=n:=by
 have:=xH n _ h.d λx hx=>by
  obtain⟨d,hd,rfl⟩:=Ly.1 hx;exact h.s d hd
 rwa [Ll]at this
theorem CqO.add {l:List Cq}(h:CqO n l){w:LI}(E:0<=s)(G:s<(n:Int))(I:w.length<=l.length+1)(J:s∉l.map (·.1)):CqO n (l++[(s,w)]):=by
 refine⟨λd hd=>?_,λd hd=>?_,?_⟩
 ·rcases Lh.1 hd with hd|hd
  ·exact h.s d hd
  rw[Lb.1 hd];exact⟨E,G⟩
 ·rw[Lc,Lu];rcases Lh.1 hd with hd|hd
  ·have:=h.w d hd;omega
  rw[Lb.1 hd];exact I
 rw[Lv,Mb];exact⟨h.d,od,λa S b hb e=>J ((show b=s by simpa using hb) ▸ e ▸ S)⟩
theorem Qka {f:Nat}{l:List Cq}(h:l.length<=i):csL a o un f i l=none:=by
 cases f with
 | zero=>rfl
 | succ f=>rw[csL,Mq h]
theorem Qj9 {f:Nat}{l:List Cq}{z:Cq}{v:Int}(h:l[i]?=some z)(E:a.al.find? (ctd a o un z.1)=some v):csL a o un (f+1) i l=some (z.2,v):=by
 rw[csL,h];simp only[E]
theorem Qkb {f:Nat}{l:List Cq}{z:Cq}(h:l[i]?=some z)(E:a.al.find? (ctd a o un z.1)=none):csL a o un (f+1) i l=csL a o un f (i+1) ((QQ a.ed z.1).foldl (csE z) l):=by
 rw[csL,h];simp only[E]
theorem QmJ {p:Int->Bool}{k:Nat}(h:k<l.length):(l.drop k).find? p=if p (l[k]'h)=true then some (l[k]'h) else(l.drop (k+1)).find? p:=by
 rw[QY h,List.find?_cons];cases E:p (l[k]'h) with
 | true=>rw[OU rfl]
 | false=>rw[OT MI]
def cnP (N:Nat)(W:LI)(e:Int)(i:Nat)(v:O2)(w:O1):Prop :=
 if i=5 then Qi 3 N w v W else
 ∃b,v=sL b 1 1/\N<=b/\QL ↑w b 3 [sS e]
theorem Qkj {W:LI}{e:Int}(i:Nat)(v:O2)(w w':O1)(h:cnP N W e i v w)(E:sW w w'):cnP N W e i v w':=by
 unfold cnP at *;by_cases e5:i=5
 ·rw[OU e5]at *;exact Qm h E
 rw[OT e5]at *;obtain⟨b,G,I,J⟩:=h;exact⟨b,G,I,J.I E⟩
theorem QbA {V:VwV}(h:VwA ↑w V)(h9:V.a.st<=9)(pd:V.a.ed.length<=1000):
  QR sV 58 [.pointer (some ⟨V.b,0,none⟩)] w λr w'=>sW w w'/\∃vw,r=.tuple #[vw,sS ((cns V.a V.o V.un).elim (-1) (·.2)),.bool (cns V.a V.o V.un).isNone]/\Yr ↑w ↑w' vw ((cns V.a V.o V.un).elim [] (·.1)):=by
 have hok:=h.ok;have pf:=hok.st0;have pg:=hok.al_le;obtain⟨n,hn⟩:∃n:Nat,V.a.st.toNat=n:=⟨_,O⟩;have ph:n<=9:=oa
 have pj:V.a.st=(n:Int):=oa
 have ki:=hok.ed;obtain⟨rv,gc,ge⟩:=h.r;rw[hn]at gc ge;have h0:cns V.a V.o V.un=if V.a.st=0 then none else csL V.a V.o V.un (n+1) 0 [(0,[])]:=by unfold cns;rw[hn]
 refine Zg (cns V.a V.o V.un) λR hR=>?_;rw[hR]at h0 ⊢;refine Zm func58 ?_;refine Qc<|x Qe<|x Qe<|Qb<|Qd<|Qk<|Z6 O<|Zc O<|Qq O h.blk O O<|x (Zd O O)<|xe<|Zi rfl (λT=>?_) (λT=>?_)
 ·have hI:V.a.st=0:=T;rw[OU hI]at h0;rw[h0];refine Qc<|x Qe<|x Qe<|Qb<|Qh ⟨[ZT,sS (-1),.bool true],ox,O5.Y _ _,ZT,O,Yr.nil _ _⟩
 have hI:¬V.a.st=0:=T;rw[OT hI]at h0;have pn:0<n:=oa
 refine Qf<|Qc<|x (QE Z)<|Qo<|Q9 [[sS 0,ZT,ZT]] λhJ w1 gg po gh=>Qb<|Qc<|Qo<|Z1 XG λbm w2 gi pp kj=>Qo<|QaK (k:=(0:Int)) (XM.zero kj) O O O λw3 gj kk=>Qa<|Qb ?_;have pt:=gg.size;have kn:sW w w3:=(gg.D gi).Q gj oa;have ko:CqI bm w (sL hJ 1 1) [((0,[]),ZT)] w3:=by
  have pu:=gh.lt;have gk:hJ≠bm:=oa
  refine⟨kn,((gh.I gi).J gj (by simp only[oF];exact gk)).own (n:=1) (sz:=3) O oa oa,λp hp=>?_,kk,λE=>gk (Lb.1 E).symm,oa⟩;rw[Lb.1 hp];exact⟨Z,λ_ _=>⟨Zt.nil _ _ _,Z⟩⟩
 have kq:CqO n [((0:Int),([]:LI))]:=⟨λd hd=>by rw[Lb.1 hd];exact⟨Mx _,by show(0:Int)<n;omega⟩,λd hd=>by rw[Lb.1 hd];exact Lo _,od⟩;refine Qd<|Qc<|Qb<|QW (α:=Nat×O2×List CqV) [(2,5),(7,8),(10,10),(12,12),(23,86)] (λz=>[(5,z.2.1),(7,sS z.1)]) (λz w'=>z.1<=z.2.2.length/\CqI bm w z.2.1 z.2.2 w'/\CqO n (z.2.2.map Prod.fst)/\R=csL V.a V.o V.un (n+1 - z.1) z.1 (z.2.2.map Prod.fst)) (λz=>n+1 - z.1) (0,sL hJ 1 1,[((0,[]),ZT)]) ov ⟨Lo _,ko,kq,h0⟩ ?_;rintro⟨i,vl,q⟩ g w4 ⟨hi,hr,h2,U⟩;simp only[]at hi hr h2 U;have pw:q.length<=n:=by have:=h2.le;rwa [Ll]at this
 have gl:Zt [] ↑w4 vl q.length 3 (q.flatMap cqC):=QO hr.o oa od;refine Qd<|Qk<|Qa<|QG gl O<|ZX O O<|xe<|Zr rfl (λhK=>?_) (λhK=>?_)
 ·refine Qt ?_;have kr:q.length<=i:=by have T:¬(i:Int)<(q.length:Int):=hK;omega
  rw[Qka (by rw[Ll];exact kr)]at U;rw[U];refine Qc<|x Qe<|x Qe<|Qb<|Qh ⟨[ZT,sS (-1),.bool true],ox,hr.st,ZT,O,Yr.nil _ _⟩
 have h3:i<q.length:=by have T:(i:Int)<(q.length:Int):=hK;omega
 have kt:n+1 - i=(n+1 - (i+1))+1:=oa
 have h4:=Le h3;have hM:(q.map Prod.fst)[i]?=some (q[i]'h3).1:=by rw[MC,LE h3];rfl
 refine Zg (q[i]'h3) λd hp=>?_;rw[hp]at h4 hM;rw[kt]at U;have gm:=(hr.e d h4).2;have ku:=(gm [] (λ_ hb=>by cases hb)).1;have gn:=h2.s d.1 (LG h4);have hN:=h2.w d.1 (LG h4);rw[Ll]at hN;have kv:∀{v:O2} {l:LI} {L:LN} {H:xA},Qu L H v l->Qu [] H v l:=λhv=>hv.up λb hb=>by cases hb
 refine Qf<|Qd<|Qn<|Qk<|Qa<|O8 (g:=cqC) (i:=i) (λ_=>O) gl O O h3 λpz go=>?_;rw[hp]at go;refine x (QA (us:=cqC d) go O O)<|QN [sS 0,ZT,ZT] λb8 w5 kw kx kz=>Q2 (cqC d) kz ⟨O,O,ku.one,Z⟩ λw6 k0 k4=>xe ?_;have gq:sW w4 w6:=kw.Q k0 kx;have hO:=hr.I gq;have gr:=(h.I hO.st).a.al;refine Qd<|Qk<|Z6 O<|Zc O<|Qq O (h.blk.I hO.st) O O<|QG gr O<|Qa<|xe ?_;obtain⟨s,I⟩:∃s,d.1.1=s:=⟨_,O⟩;rw[I]at gn;have k5:(V.a.al.drop 0).find? (ctd V.a V.o V.un s)=V.a.al.find? (ctd V.a V.o V.un d.1.1):=by rw[I,NF]
 refine QW (α:=Nat) [(2,4),(10,10),(39,51)] (λz=>[(39,sS z)]) (λz w'=>z<=V.a.al.length/\sW w6 w'/\(V.a.al.drop z).find? (ctd V.a V.o V.un s)=V.a.al.find? (ctd V.a V.o V.un d.1.1)) (λz=>V.a.al.length - z) 0 La ⟨Lo _,O5.Y _ _,k5⟩ ?_;rintro k g w7 ⟨hk,h6,Y⟩;have ht:=hO.I h6;have hA:=k4.I h6;have k6:=gq.D h6;refine Zk rfl O (λhP=>?_) (λhP=>?_)
 ·refine Qt ?_;have k9:V.a.al.length<=k:=by have T:¬(k:Int)<(V.a.al.length:Int):=hP;omega
  rw[Lr k9]at Y;rw[Qkb hM Y.symm,I]at U;have gs:s=(s.toNat:Int):=oa
  have gt:s.toNat<n:=oa
  have hE:=ge s.toNat gt;rw[<-gs]at hE;have p0:=Yg V.a.ed s;have ma:s.toNat<(oJ n).length:=by rw[L9];exact gt
  have mc:(sS d.1.1)=sS (s.toNat:Int):=by rw[I];exact OV _ gs
  refine Qd<|ZL [] (Xg 0 10 [])<|p Qx<|p (YL O)<|p (QH O)<|pq (λ_ G=>Ql ((h.blk.I ht.st).I G) O O)<|p (QH O)<|pq (λ_ G=>Ql (hA.I G) O O) <|
   Lg.pig (g:=λj:Nat=>[rv j]) (i:=s.toNat) O (λ_=>O) (gc.I ht.st) O (show Go.Lg.ev _ _=_ from mc) ma λp4 gu=>?_
  rw[Mr]at gu;refine pq (λ_ G=>Qr (u:=rv s.toNat) (gu.I G) O)<|p (λ_=>YY (hE.I ht.st) O)<|p Qx<|pe ?_;have gv:sW w7 { w7 with drawn:=w7.drawn+1 }:=O5.X _ _
  have mf:b8∉bm::ob vl:=λE=>oo (hr.lt _ E)
  refine QW (α:=Nat×O2×List CqV) [(5,5),(12,12),(61,86)] (λz=>[(5,z.2.1),(61,sS z.1)]) (λz w'=>z.1<=(QQ V.a.ed s).length/\CqI bm w z.2.1 z.2.2 w'/\CqO n (z.2.2.map Prod.fst)/\d∈z.2.2/\q.length<=z.2.2.length/\QL ↑w' b8 239 (cqC d)/\b8∉bm::ob z.2.1/\((QQ V.a.ed s).drop z.1).foldl (csE d.1) (z.2.2.map Prod.fst)=(QQ V.a.ed s).foldl (csE d.1) (q.map Prod.fst)) (λz=>(QQ V.a.ed s).length - z.1) (0,vl,q) ov
   ⟨Lo _,ht.I gv,h2,h4,Lp _,hA.I gv,mf,O⟩ ?_
  rintro⟨j,vj,qj⟩ g w8 ⟨hj,hg,h7,hC,gx,gy,hw,S⟩;simp only[]at hj hg h7 hC gx hw S;have p5:qj.length<=n:=by have:=h7.le;rwa [Ll]at this
  refine Zk O O (λhQ=>?_) (λhQ=>?_)
  ·refine Qt ?_;have mg:(QQ V.a.ed s).length<=j:=by have T:¬(j:Int)<((QQ V.a.ed s).length:Int):=hQ;omega
   rw[Lr mg]at S;have mh:qj.map Prod.fst=(QQ V.a.ed s).foldl (csE d.1) (q.map Prod.fst):=S;rw[<-mh]at U;refine Qs<|Qa<|QD O O<|Qb<|⟨(i+1,vj,qj),by show n+1 - (i+1)<n+1 - i;omega,ov,by show i+1<=qj.length;omega,hg,h7,U⟩
  have hy:j<(QQ V.a.ed s).length:=by have T:(j:Int)<((QQ V.a.ed s).length:Int):=hQ;omega
  have mj:=ZH (Le hy);have gz:=ki _ mj.1;rw[QY hy,LO]at S;refine Zg ((QQ V.a.ed s)[j]'hy) λe he=>?_;rw[he]at gz S;refine Qf<|Qd<|Qn<|Qc<|xie (hE.I hg.st) O O hy λp6 g0=>?_;rw[he]at g0;refine x (QA g0 O O)<|QN [sS 0,sS 0,sS 0] λhS w9 mo g2 mq=>Q2 (Qp e) mq ox λms mt hT=>xe ?_;have hU:sW w8 ms:=mo.Q mt g2;have J:=hg.I hU;have g3:=gy.I hU;have g4:csE d.1 (qj.map Prod.fst) e=if e.2.2∈(qj.map Prod.fst).map Prod.fst then qj.map Prod.fst else qj.map Prod.fst++[(e.2.2,d.1.2++[e.2.1])]:=rfl
  have g5:(qj.map Prod.fst).map Prod.fst=qj.map cqK:=Mw;rw[g5]at g4;rw[g4]at S;refine Qk<|Qq O hT O O<|x (Qay (k:=e.2.2) J.m O O)<|x (Zl O)<|xe<|Q6 O (λhV=>?_) (λhV=>?_)
  ·have hD:=Vo hV;rw[OT hD]at S;refine Qk<|Qq O hT O O<|Qo<|zW (k:=e.2.2) J.m O O O λha hh mu=>xe ?_;have hW:∀b∈[bm],b∈bm::ob vj:=λb hb=>by rw[Lb.1 hb];exact Lm
   have mv:hS∉[bm]:=λE=>by have:=hg.lt bm Lm;rw[Lb.1 E]at g2;omega
   have g6:=hT.J hh mv;have g7:=g3.J hh λE=>hw (hW _ E);have mw:=((J.e d hC).2 [] (λ_ hb=>by cases hb)).1;have my:Qu [] ↑ha d.2 d.1.2:=kv (mw.J hh hW);have p7:=J.st.size;have p8:=hh.size;have mz:=Qg J.o hh λb hb E=>J.nm (Lb.1 E ▸ hb);refine Qc6 (α:=O2×Nat) (O5 (ob vj) ha) (sW ha) [oz 0,oz 1,oz 2,oz 3,oz 4,oz 6,oz 7] (λ_=>[]) [5,8] [oA 9,oz 10,oA 11,oA 12,oz 13] [(78,78),(81,81)] (cnP ↑ha d.1.2 e.2.1)
    (λz=>[(78,z.1),(81,.slice (some ⟨z.2,0,none⟩) 1 1)]) (λz w'=>Qi 3 ↑ha w' z.1 d.1.2/\z.2∉ob z.1/\QL ↑w' z.2 3 [sS e.2.1])
    mixed oh oc (O5.X _ _) (λ_ h=>h.any) (λ_ _ G I=>G.D I) Qkj ?_ ?_
   ·rintro g w' ⟨h5,⟨b,e8,hb,hB⟩,_⟩ m0;refine⟨(_,b),⟨O,e8,Z⟩,h5,λE=>?_,hB⟩;have:=m0 5 od 8 od og b (zT E);rw[e8]at this;exact this Lm
   refine p Qx<|p (QH O)<|pq (λ_ G=>Ql (g6.J G ?_) O O)<|p (QH O)<|pq (λ_ G=>Ql (g7.J G λE=>hw (Lk _ E)) O O) <|
    p (QH rfl)<|pq (λ_ G=>Ql (g6.J G ?_) O O)<|pe ⟨⟨?_,?_,Z⟩,?_⟩
   ·exact λE=>oo (hg.lt hS (Lk _ E))
   ·exact λE=>oo (hg.lt hS (Lk _ E))
   ·rintro g w' G _;exact xg<|(ZZ (my.I G)).S λr m1 ⟨I,ho⟩=>⟨I,Zf ho G.size,X2 ho⟩
   ·rintro g w' G _;exact Q9 [[sS e.2.1]] λb m1 I hb hB=>⟨I,⟨b,O,Lx G.size hb,hB⟩,λc m2=>by rw[Lb.1 (show c∈[b] from m2)];exact⟨hb,hB.lt⟩⟩
   rintro⟨vc,p9⟩ g m3 hX ⟨hY,m4,g8⟩;simp only[]at hY m4 g8;have g9:=Qj hY;have qa:d.1.2.length<=9:=by have:d.1.2.length<=q.length:=hN;omega
   refine pk<|Q8 (m:=1) (news:=[sS e.2.1]) (L:=[]) hY O O O (g8.at od) om oa hX.size λhq ka m5 kb qe=>⟨(hX.O kb λb hb=>.inr (g9 b hb).1).any,?_⟩;have kc:sW ha ka:=hX.O kb λb hb=>.inr (g9 b hb).1;have hZ:Qi 3 ↑ha ka hq (d.1.2++[e.2.1]):=Qi.snoc m5;refine p (λ_=>QE ⟨O,xM hZ,Z⟩)<|pk<|Q9 [[sS e.2.2,ZT,hq]] λqf ql ga qm m6=>⟨(kc.D ga).any,?_⟩;have hf:=kc.D ga;refine pk<|Q8 (m:=1) (news:=[sS e.2.2,ZT,hq]) (L:=[]) (Qm mz hf) O O O (m6.at od) (λu hu=>Zv.all (us:=[sS e.2.2,ZT,hq]) ⟨rfl,rfl,QC hZ,Z⟩ u hu) oa (oo hf.size) λvr ke m7 hz hF=>⟨hf.any.V hz,?_⟩;refine p ZN<|pe ?_;refine Qs<|QD O O<|Qa<|xe ?_;have q0:=hf.size;have q4:=hU.size;have q5:=gy.lt;have kf:=J.nm;have kg:∀b∈bm::ob vj,b<ha.heap.size:=λb hb=>oo (J.lt b hb)
   have m8:∀L:LN,(∀b∈L,b<↑w)->Qu (L++bm::ob vr) ↑ke hq (d.1.2++[e.2.1]):=λL hL=>Zt.grow ((Qi.ints hZ (by rw[Lc,Lu];omega) λb hb=>(Lh.1 hb).elim (λh=>oo (hL b h)) (kg b)).I ga) hz (λb hb=>Lh.2 (.inr (Lk _ hb))) (QaA L hF);have m9:CqI bm w vr (qj++[((e.2.2,d.1.2++[e.2.1]),hq)]) ke:=by
    refine⟨((J.st.O hh λb hb=>.inr (by rw[Lb.1 hb];exact J.hb)).D hf).O hz λb hb=>.inr (Qj J.o b hb).1,?_,λp' h8=>?_,?_,λpc=>?_,J.hb⟩
    ·rw[LD,M7,Lc,Lu];exact m7
    ·rcases Lh.1 h8 with h8|h8
     ·exact⟨Z,λL hL=>((((J.e p' h8).2 L hL).J hh λb hb=>Lh.2 (.inr (hW b hb))).I hf).grow hz (λb hb=>Lh.2 (.inr (Lk _ hb))) (QaA L hF)⟩
     rw[Lb.1 h8];exact⟨Z,λL hL=>⟨m8 L hL,Z⟩⟩
    ·rw[Lv];exact(mu.I hf).J hz kf
    rcases hF _ pc with h1|h1
    ·exact kf h1
    have:=kg bm Lm;omega
   refine⟨(j+1,vr,qj++[((e.2.2,d.1.2++[e.2.1]),hq)]),by show(QQ V.a.ed s).length - (j+1)<(QQ V.a.ed s).length - j;omega,ov,hy,m9,?_,Lh.2 (.inl hC),by rw[Lc];omega,?_,λE=>?_,?_⟩
   ·show CqO n (OS _ (qj++[_]));rw[Lv];refine h7.add gz.2.2.2.1 oa (by rw[Lc,Lu,Ll];have:d.1.2.length<=q.length:=hN;omega) ?_;rw[g5];exact hD
   ·exact(g7.I hf).J hz λE=>hw (Lk _ E)
   ·rcases QaB hF _ E with h1|h1
    ·exact hw h1
    omega
   show((QQ V.a.ed s).drop (j+1)).foldl (csE d.1) (OS _ (qj++[_]))=_;rw[Lv];exact S
  have hD:=Ke hV;rw[OU hD]at S;refine Qf<|Qs<|QD O O<|Qa<|xe ?_;exact⟨(j+1,vj,qj),by show(QQ V.a.ed s).length - (j+1)<(QQ V.a.ed s).length - j;omega,ov,hy,J,h7,hC,gx,g3,hw,S⟩
 have hG:k<V.a.al.length:=by have T:(k:Int)<(V.a.al.length:Int):=hP;omega
 rw[QmJ hG]at Y;refine Qf<|Qd<|Qn<|Qc<|xii (i:=k) (gr.I h6) O O hG λj1 kh=>?_;refine Zg (V.a.al[k]'hG) λv hv=>?_;rw[hv]at kh Y;refine x (Qr kh O)<|Qb ?_;have hct:=Qhy (v:=v) (h.I ht.st) gn.1 oa h9;rw[<-I]at hct;refine Qk<|Qq O hA O O<|Qa<|Qv<|hct.S ?_;rintro _ m3 ⟨rfl,hH⟩;refine xe ?_;rw[<-I]at Y;refine Q6 rfl (λgb=>?_) (λgb=>?_)
 ·rw[OU gb]at Y;rw[Qj9 hM Y.symm]at U;rw[U];refine Qc<|Qq O (hA.I hH) O O<|Qa<|x Qe<|x Qe<|Qb<|Qh ⟨[d.2,sS v,.bool false],ox,ht.st.D hH,d.2,O,λL hL=>((gm L hL).1.I (k6.D hH)).up λb hb=>.inl (Lh.2 (.inl hb))⟩
 rw[OT (λh=>MI (gb.symm.D h)),I]at Y;refine Qf<|Qs<|QD O O<|Qa<|xe ?_;exact⟨k+1,by show V.a.al.length - (k+1)<V.a.al.length - k;omega,La,hG,h6.D hH,by rw[I];exact Y⟩
structure Yc (l:LI):Prop where
 b:∀x∈l,0<=x/\x<32
 i:YA l
theorem Yc.ck (h:Yc l):J1 32 none l=0:=Qbj h.b h.i
theorem Yc.nil:Yc []:=⟨(λ_ h=>by cases h),List.Pairwise.nil⟩
structure y7 (a:Qz):Prop where
 ok:Q0 a
 s9:a.st<=9
 e:a.ed.length<=1000
theorem Vn (h:Zp [] ↑w va vm ve a)(I:Qu [] ↑w vo o)(hU:Qu [] ↑w vu un)(E:y7 a)(U:Yc o)(hu:Yc un):
  QR sV 56 [.agg #[va,sS a.st,vm,ve],vo,vu] w λr w'=>sW w w'/\∃V:VwV,r=.tuple #[.pointer (some ⟨V.b,0,none⟩),sS 0]/\VwA ↑w' V/\V.a=a/\V.o=o/\V.un=un:=by
 refine Zm func56 ?_;refine Qc<|Za [va,sS a.st,vm,ve] λb3 w1 ha h9 hc=>x Qe<|Qb ?_;have hA:=Y5 (h.I ha);rw[(ZC a).2 E.ok]at hA;refine Qd<|Qc<|QV hc O O<|Qv<|hA.S ?_;rintro _ w2 ⟨rfl,he⟩;refine Qb<|Qk<|ZM O O<|xe<|ZD rfl<|Qf ?_;have hn:=ha.D he;refine Qd<|Qk<|Qa<|Qo<|Yi (us:=[[vo],[vu]]) O O og od ⟨I.cells,rfl,hU.cells,rfl,Z⟩ λhq w3 hf hB hr=>?_;have hg:Zt [] ↑w3 (sL hq 2 2) 2 1 [vo,vu]:=hr.arr od (n:=2) (cap:=2) (sz:=1) rfl og (Lp _);have hs:=hn.D hf;refine QG hg O<|Qa<|xe<|QW (α:=Nat) [(6,7),(10,11),(24,33)] (λz=>[(24,sS z)]) (λz w'=>z<=2/\sW w3 w') (λz=>2 - z) 0 La ⟨Lo _,O5.Y _ _⟩ ?_;rintro i g w4 ⟨hi,J⟩;have G:=hs.D J;have hh:=((hc.I he).I hf).I J;refine Zk rfl O (λhj=>?_) (λhj=>?_)
 ·refine Qt<|Qd<|Qc<|QV hh O O<|Qa<|Qv<|(KE (h.I G) (I.I G) E.ok U.b U.i E.s9 E.e).S ?_;rintro _ w5 ⟨ht,_,vt,rfl,hD,hw,hy,hz,rfl,h0⟩;have Y:=h0 [] (λ_ h=>by cases h);refine Qa<|QJ O O<|QJ O O<|QJ O O<|QN Yt λhE w6 h1 h2 h3=>Q2 [hw,sS (ZY a o).st,hy,hz] h3 ⟨Y.al.one,O,Y.mr.one,Y.ed.one,Z⟩ λw7 h4 hF=>x Qe<|Qb ?_;have h5:sW w5 w7:=h1.Q h4 h2;have hk:=ht.D h5;have S:=G.D hk;refine Qk<|ZM O O<|xe<|ZD O<|Qf<|Qc<|QV (hh.I hk) O O<|Qa<|Qa<|Qv<|(Qoc (h.I S) (I.I S) (hU.I S) E.ok).S ?_;rintro _ w8 ⟨h6,V,rfl,hV,e1,e2,e3⟩;refine x Qe<|Qb<|Qh ⟨[_,sS 0],ov,S.D h6,V,O,hV,e1,e2,e3⟩
 have T:i<2:=by have hG:(i:Int)<(2:Nat):=hj;omega
 have h7:∃l,Qu [] ↑w4 ([vo,vu][i]'T) l/\J1 32 none l=0:=by
  have h8:i=0\/i=1:=oa
  rcases h8 with rfl|rfl
  ·exact⟨o,I.I G,U.ck⟩
  exact⟨un,hU.I G,hu.ck⟩
 obtain⟨l,hl,hck⟩:=h7;refine Qf<|Qd<|Qn<|Qc<|O8 (g:=λv:O2=>[v]) (es:=[vo,vu]) (i:=i) (λ_=>O) (hg.I J) O O T λhH hm=>?_;refine Zg ([vo,vu][i]'T) λv hv=>?_;rw[hv]at hl hm;refine x (Qr (u:=v) hm O)<|Qb ?_;have hC:=qL hl 32;rw[hck]at hC;refine Qk<|Qv<|hC.S ?_;rintro _ w9 ⟨rfl,rfl⟩;refine Qb<|Qk<|ZM O O<|xe<|ZD rfl<|Qf<|Qs<|QD O O<|Qa<|xe ?_;exact⟨i+1,by show 2 - (i+1)<2 - i;omega,La,T,J⟩
theorem Qc9 (h:Zp [] ↑w va vm ve a)(J:Qu [] ↑w vo o)(G:y7 a)(S:Yc o):
  QR sV 17 [.agg #[va,sS a.st,vm,ve],vo] w λr w'=>sW w w'/\∃vw vt,r=.tuple #[vw,vt,.bool (obs a o []).isNone,sS 0]/\Yr ↑w ↑w' vw ((obs a o []).elim [] (·.1))/\Yr ↑w ↑w' vt ((obs a o []).elim [] (·.2)):=by
 refine Zm func17 ?_;refine Qc<|Za [va,sS a.st,vm,ve] λb2 T E hc U=>x Qe<|x Qe<|x Qe<|Qb<|Qc<|QV U O O<|Qa<|Qv<|(Vn (h.I E) (J.I E) (QaP [] ↑T) G S Yc.nil).S ?_;rintro _ w2 ⟨I,V,rfl,Y,rfl,rfl,e3⟩;refine Qa<|QJ O O<|QJ O O<|x Qe<|Qb<|Qd<|Qk<|ZM O O<|xe<|ZD rfl<|Qf ?_;have hR:=Qbz Y G.s9 G.e;rw[e3]at hR;refine Qk<|Qv<|hR.S ?_;rintro _ w3 ⟨ha,vw,vt,rfl,hw,ht⟩;refine Qa<|QJ O O<|QJ O O<|QJ O O<|x Qe<|x Qe<|Qb<|Qk<|Qa<|Qa<|x Qe<|x Qe<|x Qe<|Qb<|Qh ⟨[vw,vt,_,sS 0],oy,(E.D I).D ha,vw,vt,O,hw.S (E.D I).size,ht.S (E.D I).size⟩
theorem zb (h:Zp [] ↑w va vm ve a)(J:Qu [] ↑w vo o)(hU:Qu [] ↑w vu un)(G:y7 a)(S:Yc o)(T:Yc un):
  QR sV 18 [.agg #[va,sS a.st,vm,ve],vo,vu] w λr w'=>sW w w'/\∃vw,r=.tuple #[vw,sS ((cns a o un).elim (-1) (·.2)),.bool (cns a o un).isNone,sS 0]/\Yr ↑w ↑w' vw ((cns a o un).elim [] (·.1)):=by
 refine Zm func18 ?_;refine Qc<|Za [va,sS a.st,vm,ve] λb3 w1 E hc U=>x Qe<|x Qe<|x Qe<|Qb<|Qc<|QV U O O<|Qa<|Qa<|Qv<|(Vn (h.I E) (J.I E) (hU.I E) G S T).S ?_;rintro _ w2 ⟨I,V,rfl,Y,rfl,rfl,rfl⟩;refine Qa<|QJ O O<|QJ O O<|x Qe<|Qb<|Qd<|Qk<|ZM O O<|xe<|ZD rfl<|Qf<|Qk<|Qv<|(QbA Y G.s9 G.e).S ?_;rintro _ w3 ⟨ha,vw,rfl,hw⟩;refine Qa<|QJ O O<|QJ O O<|QJ O O<|x Qe<|x Qe<|Qb<|Qk<|Qa<|Qa<|x Qe<|x Qe<|x Qe<|Qb<|Qh ⟨[vw,_,_,sS 0],oy,(E.D I).D ha,vw,O,hw.S (E.D I).size⟩
theorem Yc.len (h:Yc l):l.length<=32:=xH 32 l (h.i.imp λE e=>oa) h.b
theorem Yc.fil (h:Yc l)(p:Int->Bool):Yc (l.filter p):=⟨λx hx=>h.b x (LQ.1 hx).1,h.i.filter p⟩
theorem Yc.ins {l:LI}(v:Int):Yc (ins l v):=⟨λ_ hx=>(Qao.1 hx).1,Qap 32 _⟩
theorem Qjt {v:Int}(h:Yc l)(E:v∉l)(G:0<=v)(I:v<32):((l++[v]).mergeSort λx y=>decide (x<=y))=ins l v:=by
 refine jK ?_ λx hx=>?_
 ·rw[Mb];exact⟨h.i.imp λS e=>oa,od,λa J b hb e=>E ((Lb.1 hb) ▸ e ▸ J)⟩
 rcases Lh.1 hx with hx|hx
 ·exact h.b x hx
 rw[Lb.1 hx];exact⟨G,I⟩
theorem Qo1 {W:O1}{I J:Nat}{set:LI}(h:Zp [] ↑W va vm ve a)(U:QL ↑W I 53 [va,sS a.st,vm,ve])(Y:QL ↑W J 47 [vu])(hU:Qu [] ↑W vu un)(hS:Qu [] ↑W vs set)(E:y7 a)(ho:Yc set)(hu:Yc un):
  QR sV 59 [vs,sP I,sP J] W λr w'=>r=.tuple #[.bool (hld a un set),sS 0]/\sW W w':=by
 refine Zm func59 ?_;refine Qc<|x Qe<|Qb<|Qc<|QV U O O<|Qa<|ZE Y O O<|Qv<|(Vn h hS hU E ho hu).S ?_;rintro _ w1 ⟨ha,V,rfl,S,rfl,rfl,rfl⟩;refine Qa<|QJ O O<|QJ O O<|x Qe<|Qb<|Qd<|Qk<|ZM O O<|xe<|ZD rfl<|Qf<|Qk<|Qv<|(Qbz S E.s9 E.e).S ?_;rintro _ w2 ⟨T,vw,vt,rfl,_,_⟩;refine Qa<|QJ O O<|QJ O O<|QJ O O<|x Qe<|x Qe<|Qb<|Qk<|Qv<|(QbA (S.I T) E.s9 E.e).S ?_;rintro _ w3 ⟨hc,hf,rfl,_⟩;refine Qa<|QJ O O<|QJ O O<|QJ O O<|x Qe<|x Qe<|Qb ?_;have he:=(ha.D T).D hc;refine QX (α:=Unit) [(4,5),(36,39)] (λ_=>[(4,.bool (hld V.a V.un V.o)),(5,sS 0)]) (λ_ w'=>w'=w3) oh ?_ ?_
 ·refine Qs<|xB Jr (λG=>?_) (λG=>?_)
  ·refine Qa<|Qa<|QB O<|x Qe<|Qb<|⟨(),⟨OV Value.bool (by unfold hld;rw[G];rfl),O,Z⟩,O⟩
  refine Qa<|Kt<|QB O<|x Qe<|Qb<|⟨(),⟨OV Value.bool (by unfold hld;rw[G];rfl),O,Z⟩,O⟩
 rintro _ g _ rfl;exact Qh ⟨[_,_],ov,O,he⟩
theorem QmM {W:O1}{b:Nat}{v:Int}(E:QL ↑W b 3 [sS v])(e:Int):
  QR sV 65 [sS e,sP b] W λr w'=>r=.bool (decide (e=v))/\w'=W:=by
 refine Zm func65 ?_;refine Qc<|Qb<|Qk<|ZE E O O<|x (Zd O O)<|Qb<|Qh ⟨[_],La,O,O⟩
theorem Qhs {z:LI×LI}(h:hld a un z.1=true):xtA a un l z=z:=by
 cases l with
 | nil=>rfl
 | cons v l=>rw[xtA,OU h]
theorem QnX {z:LI×LI}{k:Nat}(E:k<l.length)(h:hld a un z.1=false):xtA a un (l.drop k) z=xtA a un (l.drop (k+1)) (if l[k]'E∈z.1 then z else(ins z.1 (l[k]'E),z.2++[l[k]'E])):=by
 rw[QY E,xtA,OT (by rw[h];exact MI)]
theorem Qhg (h:Zp [] ↑w va vm ve a)(hO:Qu [] ↑w vo o)(hU:Qu [] ↑w vu un)(hp:y7 a)(ho:Yc o)(hu:Yc un):
  QR sV 22 [.agg #[va,sS a.st,vm,ve],vo,vu] w λr w'=>sW w w'/\∃vw,r=.tuple #[vw,sS 0]/\Qi 3 ↑w w' vw (Qd9 a o un)/\Yc (Qd9 a o un):=by
 have hok:=hp.ok;have kz:=hok.al_le;have hN:Yc a.al:=⟨hok.al,hok.ali⟩;refine Zg (Qd9 a o un) λE hE=>?_;refine Zm func22 ?_;refine Qc<|Za [va,sS a.st,vm,ve] λb3 w1 gs k0 gt=>Qo<|qD (us:=[vu]) hU.cells λb5 w2 hP k4 hQ=>x Qe<|Qb ?_;have hw:=gs.D hP;have h5:=gt.I hP;refine Qc<|QV h5 O O<|Qa<|ZE hQ O O<|Qv<|(Vn (h.I hw) (hO.I hw) (hU.I hw) hp ho hu).S ?_;rintro _ G ⟨hy,V,rfl,hV,gu,gv,k5⟩;have hj:=hw.D hy;have gx:=hj.size;refine Qa<|QJ O O<|QJ O O<|x Qe<|Qb<|Qd<|Qk<|ZM O O<|xe<|ZD rfl<|Qf<|Qc<|x (Zn (l:=[]) (l':=[.tmp 3,.tmp 5]))<|Qb ?_;have hK:=jm hV;rw[gu,gv]at hK;refine Qk<|Qv<|hK.S ?_;rintro v4 w4 ⟨h6,gy⟩;refine Qb ?_;have gz:=hj.D h6;have g0:=(h5.I hy).I h6;have g2:Yc (kpt a o):=hN.fil _;refine Qc<|Qb ?_;have g3:=h6;have g4:=h5.I hy;have g5:=hQ.I hy;have hT:∀{W:O1} {vs:O2} {set:LI},sW G W->Qi 3 ↑G W vs set->Yc set->QR sV 59 [vs,sP b3,sP b5] W λr w'=>r=.tuple #[.bool (hld a un set),sS 0]/\sW W w' :=
  λhW hS hs=>Qo1 (h.I (hj.D hW)) (g4.I hW) (g5.I hW) (hU.I (hj.D hW)) (Qi.ints hS (oo hs.len) od) hp hs hu
 have h7:Qd9 a o un=(xtA a un a.al (kpt a o,[])).2.foldl (xtD a un) (xtA a un a.al (kpt a o,[])).1:=rfl;rw[hE]at h7 ⊢;have hX:xtA a un (a.al.drop 0) (kpt a o,[])=xtA a un a.al (kpt a o,[]):=by rw[NF]
 refine Zg (xtA a un a.al (kpt a o,[])) λR hR=>?_;rw[hR]at h7 hX;refine QX (α:=O2×O2) [(6,7),(11,12),(14,16),(32,66)] (λz=>[(11,z.1),(12,z.2)]) (λz w'=>sW G w'/\Qi 3 ↑G w' z.1 R.1/\Qi 3 ↑G w' z.2 R.2/\Yc R.1/\R.2.length<=32) oh ?_ ?_
 ·refine Qc<|Qq O g0 O O<|QG (h.al.I gz) O<|Qa<|xe<|QW (α:=Nat×O2×O2×LI×LI) [(6,7),(11,12),(14,16),(38,66)] (λz=>[(11,z.2.1),(12,z.2.2.1),(38,sS z.1)]) (λz w'=>z.1<=a.al.length/\sW G w'/\Qi 3 ↑G w' z.2.1 z.2.2.2.1/\Qi 3 ↑G w' z.2.2.1 z.2.2.2.2/\Dj z.2.1 z.2.2.1/\Yc z.2.2.2.1/\z.2.2.2.2.length<=z.1/\xtA a un (a.al.drop z.1) (z.2.2.2.1,z.2.2.2.2)=R) (λz=>a.al.length - z.1) (0,v4,ZT,kpt a o,[]) ox
   ⟨Lo _,g3,gy,QM _ _ _ _,Dj.nil' _,g2,Lp _,hX⟩ ?_
  rintro⟨k,vs,vd,set,add⟩ g w5 ⟨hk,hn,S,ha,hz,hsE,g6,U⟩;simp only[]at hk S ha hz hsE g6 U;have g7:=hsE.len;refine Zk O O (λh8=>?_) (λh8=>?_)
  ·refine Qt ?_;have h9:a.al.length<=k:=by have hA:¬(k:Int)<(a.al.length:Int):=h8;omega
   rw[Lr h9]at U;have hc:R=(set,add):=U.symm;exact⟨(vs,vd),ov,hn,by rw[hc];exact S,by rw[hc];exact ha,by rw[hc];exact hsE,by rw[hc];show add.length<=32;omega⟩
  have T:k<a.al.length:=by have hA:(k:Int)<(a.al.length:Int):=h8;omega
  have hB:=hN.b _ (Le T);refine Qf<|Qd<|Qn<|Qc<|xii (i:=k) (h.al.I (hj.D hn)) O O T λk6 hY=>?_;have hZ:=QnX (a:=a) (un:=un) (z:=(set,add)) T;refine Zg (a.al[k]'T) λv hv=>?_;rw[hv]at hY hZ hB;refine x (Qr hY O)<|Qb<|Qk<|Qa<|Qo<|xc (first:=[]) (capt:=[sP b3,sP b5]) O<|(hT hn S hsE).S ?_;rintro _ w6 ⟨rfl,I⟩;refine Qa<|QJ O O<|QJ O O<|x Qe<|Qb ?_;have he:=hn.D I;refine Qd<|Qk<|ZM O O<|xe<|ZD O<|Qf<|Qd<|Qk<|xe<|Q6 O (λhC=>?_) (λhC=>?_)
  ·refine Qt ?_;have hD:hld a un (set,add).1=true:=hC;rw[Qhs hD]at U;have hc:R=(set,add):=U.symm;exact⟨(vs,vd),ov,he,by rw[hc];exact Qm S I,by rw[hc];exact Qm ha I,by rw[hc];exact hsE,by rw[hc];show add.length<=32;omega⟩
  have hD:hld a un (set,add).1=false:=hC;rw[hZ hD]at U;refine Qf<|Qk<|Qa<|Qv<|(ZK (Qi.ints (L:=[]) (Qm S I) oa od) v).S ?_;rintro _ w7 ⟨rfl,rfl⟩;refine x (Zl O)<|xe<|Q6 O (λhF=>?_) (λhF=>?_)
  ·have ga:=Vo hF;rw[OT ga]at U;have hG:=Qj S;have g8:=Qj ha;have k9:=I.size;have ma:=he.size;refine Qk<|Qa<|Qo<|Q9 [[sS v]] λmc w8 hf mf g9 =>
    Qo<|Q8 (m:=1) (news:=[sS v]) (L:=[]) (Qm ha (I.D hf)) O O O (g9.at od) om oa (oo hf.size) λv9 w9 h0 hr ka=>Qb ?_
   have mg:=hf.size;have gb:sW G w9:=(he.D hf).O hr λb hb=>.inr (g8 b hb).1;have mh:=gb.size;have kb:=Qg (Qm S (I.D hf)) hr λb hb J=>hz b hb J;have gc:Dj v9 vs:=λb hb J=>by
    rcases ka b hb with h1|h1
    ·exact hz b J h1
    have:=(hG b J).2;omega
   have ge:Qi 3 ↑G w9 v9 (add++[v]):=Qi.snoc h0;refine Qk<|Qa<|Qo<|Q9 [[sS v]] λmj hH hg mo kc =>
    Qo<|Q8 (m:=1) (news:=[sS v]) (L:=[]) (Qm kb hg) O O O (kc.at od) om oa (oo hg.size) λhI hJ ke hh kf=>Qb ?_
   have kg:sW G hJ:=(gb.D hg).O hh λb hb=>.inr (hG b hb).1;have gg:Qi 3 ↑G hJ hI (set++[v]):=Qi.snoc ke;have kh:=Qg (Qm ge hg) hh λb hb J=>gc b hb J;have gh:Dj hI v9:=λb hb J=>by
    rcases kf b hb with h1|h1
    ·exact gc b J h1
    have:=(Qj ge b J).2;have:=hg.size;omega
   refine Qs<|Qa<|Qv<|(J6 gg (by rw[Lc,Lu];omega)).S ?_;rintro _ mq ⟨gi,gj⟩;rw[Qjt hsE ga hB.1 hB.2]at gj;refine xe<|Qs<|QD O O<|Qa<|xe ?_;exact⟨(k+1,hI,v9,ins set v,add++[v]),by show a.al.length - (k+1)<a.al.length - k;omega,ox,T,kg.O gi λb hb=>.inr (Qj gg b hb).1,gj,Qg kh gi λb hb J=>gh b J hb,gh,Yc.ins v,by show(add++[v]).length<=k+1;rw[Lc,Lu];omega,U⟩
  have ki:=Ke hF;rw[OU ki]at U;refine Qf<|Qs<|QD O O<|Qa<|xe ?_;exact⟨(k+1,vs,vd,set,add),by show a.al.length - (k+1)<a.al.length - k;omega,ox,T,he,Qm S I,Qm ha I,hz,hsE,by show add.length<=k+1;omega,U⟩
 rintro⟨vs,vd⟩ g w5 ⟨hn,S,ha,hsE,ms⟩;simp only[]at S ha;have gk:Qu [] ↑w5 vd R.2:=Qi.ints ha oa od;have hG:=Qj S;refine Qd<|Qk<|QG gk O<|Qa<|xe<|QW (α:=Nat×O2×LI) [(6,7),(11,11),(18,21),(69,88)] (λz=>[(11,z.2.1),(69,sS z.1)]) (λz w'=>z.1<=R.2.length/\sW w5 w'/\Qi 3 ↑G w' z.2.1 z.2.2/\Yc z.2.2/\(R.2.drop z.1).foldl (xtD a un) z.2.2=E) (λz=>R.2.length - z.1) (0,vs,R.1) ov ⟨Lo _,O5.Y _ _,S,hsE,h7.symm⟩ ?_;rintro⟨k,h2,set⟩ g w6 ⟨hk,I,ht,hq,Y⟩;simp only[]at hk ht hq Y;have he:=hn.D I;have g7:=hq.len;have kj:Qu [] ↑w6 h2 set:=Qi.ints ht oa od;refine Zk rfl O (λhL=>?_) (λhL=>?_)
 ·refine Qt ?_;have h9:R.2.length<=k:=by have hA:¬(k:Int)<(R.2.length:Int):=hL;omega
  rw[Lr h9]at Y;have kk:set=E:=Y;rw[kk]at ht hq;refine Qk<|x Qe<|Qb<|Qh ⟨[h2,sS 0],ov,hj.D he,h2,O,Zf ht gx,hq⟩
 have T:k<R.2.length:=by have hA:(k:Int)<(R.2.length:Int):=hL;omega
 rw[QY T,LO]at Y;refine Qf<|Qd<|Qn<|Qc<|xii (i:=k) (gk.I I) O O T λmt gl=>?_;refine Zg (R.2[k]'T) λv hv=>?_;rw[hv]at gl Y;refine x (Qr gl O)<|QN [sS 0] λkn w7 ko kq kr=>Qo<|Qw (u:=sS v) kr O O (L4 O) O λw8 hf gm=>xe ?_;have h3:sW w6 w8:=ko.Q hf kq;refine Qk<|Qv<|(ZZ (kj.I h3)).S ?_;rintro v9 w9 ⟨hr,h0⟩;have gn:=Qj h0;have kt:=gm.I hr;have mu:=gm.lt;refine x (Zn (l:=[]) (l':=[.tmp 18]))<|Qv<|(QfJ (gp:=65) (cap:=[sP kn]) (p:=λe=>decide (e=v)) (enters_of func65 oc O) h0 oa
  (λe W hW=>QmM (kt.J hW λJ=>oo (gn _ J).1) e)).S ?_
 rintro go hH ⟨hg,ku⟩;refine Qb ?_;have kv:=h3.D hr;have h4:sW w6 hH:=kv.O hg λb hb=>.inr (oq (gn b hb).1 h3.size);have kw:=he.D h4;have gq:Yc (set.filter λe=>!decide (e=v)):=hq.fil _;have gr:Qi 3 ↑G hH go (set.filter λe=>!decide (e=v)):=Zf ku (he.D h3).size;have kx:xtD a un set v=if hld a un (set.filter λe=>!decide (e=v))=true then set.filter λe=>!decide (e=v) else set:=rfl
 rw[kx]at Y;refine Qk<|Qa<|Qo<|xc (first:=[]) (capt:=[sP b3,sP b5]) O<|(hT kw gr gq).S ?_;rintro _ hJ ⟨rfl,hh⟩;refine Qa<|QJ O O<|QJ O O<|x Qe<|Qb<|Qd<|Qk<|ZM O O<|xe<|ZD rfl<|Qf<|Qk<|xe<|Q6 rfl (λhM=>?_) (λhM=>?_)
 ·rw[OU hM]at Y;refine Qs<|Qa<|Qb<|Qs<|QD O O<|Qa<|xe ?_;exact⟨(k+1,go,set.filter λe=>!decide (e=v)),by show R.2.length - (k+1)<R.2.length - k;omega,ov,T,(I.D h4).D hh,Qm gr hh,gq,Y⟩
 rw[OT (λh=>MI (hM.symm.D h))]at Y;refine Qf<|Qs<|QD O O<|Qa<|xe ?_;exact⟨(k+1,h2,set),by show R.2.length - (k+1)<R.2.length - k;omega,ov,T,(I.D h4).D hh,Qm ht (h4.D hh),hq,Y⟩
open Go.RowKit
section
variable {e bys:Nat}
theorem Qia [h:Sl P t e 1 bys z]{x E G I:O3}{b cap hi:Nat}{k0 k1 k2:IntKind}(hx:ev f x=sL b n cap)(J:ev f E=.int k0 lo)(S:ev f G=.int k1 lo)(T:ev f I=.int k2 hi)(ha:lo<=hi)(hc:hi<=cap)(w:O1):
  (execOp (ev f) ⟨d,.slice t x (some E) (some G) (some I),ty,pS,af,gd⟩).run P w=.ok (.value (.slice (some ⟨b,if hi=lo then 0 else lo,none⟩) 0 (hi - lo))) w:=by
 obtain⟨ii,U,_,hs,_⟩:=Sl.info h;by_cases V:hi=lo
 ·subst V;simp[execOp,hx,J,S,T,Instr.sliceAt,Instr.slice,Instr.sliceBounds,Instr.sliceBound,asIntOf,run_underlying h.u,sizeOf,typeInfo,U];intro Y;omega
 simp[execOp,hx,J,S,T,Instr.sliceAt,Instr.slice,Instr.sliceBounds,Instr.sliceBound,asIntOf,run_underlying h.u,sizeOf,typeInfo,U,hs,ha,hc,V,Addr.add];intro Y;exact Y.symm
theorem Qot [h:Sl P t e 1 bys z]{s:O3}{b cap:Nat}{u:O2}{a:Addr}{c:Nat}(G:QL ↑w b e us)(S:ev f s=.slice (some ⟨b,off,none⟩) n cap)(T:ev f y=.slice (some a) 1 c)(U:At [] ↑w a [u])(V:u.oneCell'=true)(Y:n+1<=cap)(ha:off+n<us.length)
  (hK:∀w',O5 [b] w w'->QL ↑w' b e (us.set (off+n) u)->K (QP f d (.slice (some ⟨b,off,none⟩) (n+1) cap)) w'):XO P ⟨d,.call ⟨.builtin .append,#[s,y],#[t,t]⟩,ty,pS,af,gd⟩ f w K:=by
 obtain⟨ii,hc,_,E,_⟩:=Sl.info h;have I:=run_firstCells_some (P:=P) w ii.size 1 a 1 c [u] (by rw[E];rfl) U.cells;rw[E]at I;have J:=run_storeCells_at P b (off+n) e [u] 0 us.toArray w G (by simp;omega) (by simp[V]);simp only[Ox,oL,VC us (off+n) u ha]at J;refine xv (v:=.slice (some ⟨b,off,none⟩) (n+1) cap) (w':=w.setRow b (us.set (off+n) u).toArray) ?_ (hK _ (O5.setRow _ _ _) (Jp G));have he:(Builtin.append_ #[t,t] ty #[.slice (some ⟨b,off,none⟩) n cap,.slice (some a) 1 c]).run P w=.ok (.slice (some ⟨b,off,none⟩) (n+1) cap) (w.setRow b (us.set (off+n) u).toArray):=by
  simp[Builtin.append_,run_underlying h.u,sizeOf,typeInfo,hc,Builtin.lenOf,Y,I,Addr.add_lit,E,J]
 simp[execOp,resolve,invoke,builtin,S,T,he]
end
abbrev cstv (n:Nat)(f:Nat->Int):LV:=(oJ n).map λi=>sS (f i)
theorem Jh {f:Nat->Int}(hi:i<n):(cstv n f)[0+i*1]?=some (sS (f i)):=by simp[hi]
theorem Vx {f:Nat->Int}{v:Int}:(cstv n f).set (0+i*1) (sS v)=cstv n (Xr f i v):=by
 rw[LU,OQ];exact J5 (λv=>sS v) n f i v
def pre (ed:List Ed)(s:Nat):LI:=(ed.filter λe=>decide (e.2.2=(s:Int))).map (·.1)
def pos (ed:List Ed)(s:Nat):Nat:=(ed.filter λe=>decide (e.2.2<(s:Int))).length
def num (ed:List Ed)(s:Nat):Nat:=(pre ed s).length
theorem Js (s:Nat):∀ed:List Ed,pos ed (s+1)=pos ed s+num ed s
 | []=>rfl
 | e::ed=>by
  have ih:=Js s ed;unfold pos num pre at *;rw[Ll]at *;simp only[OA,decide_eq_true_eq];by_cases E:e.2.2<(s:Int)
  ·rw[OU E,OU (show e.2.2<((s+1:Nat):Int) by omega),OT (show ¬e.2.2=(s:Int) by omega),LL,LL];omega
  by_cases G:e.2.2=(s:Int)
  ·rw[OT E,OU (show e.2.2<((s+1:Nat):Int) by omega),OU G,LL,LL];omega
  rw[OT E,OT (show ¬e.2.2<((s+1:Nat):Int) by omega),OT G];exact ih
theorem Qb6 (ed:List Ed){s:Nat}(h:s<=t):pos ed s<=pos ed t:=by
 induction t with
 | zero=>rw[Nat.le_zero.1 h];exact Lp _
 | succ t ih =>
  rcases OM t s with E|E
  ·rw[show s=t+1 by omega];exact Lp _
  have:=ih E;have:=Js t ed;omega
theorem Qin (h:∀e∈ed,0<=e.2.2):pos ed 0=0:=by
 unfold pos;rw[List.length_eq_zero_iff,MH];intro e E hd;have:=OY hd;have:=h e E;omega
theorem QdF (ed:List Ed)(s:Nat):pos ed s<=ed.length:=LJ _ _
theorem Qb5 {k:Nat}(h:k<ed.length)(s:Nat):pre (ed.take (k+1)) s=pre (ed.take k) s++if(ed[k]'h).2.2=(s:Int) then[(ed[k]'h).1]else[]:=by
 unfold pre;rw[Lj h,LT,Lv];congr 1;by_cases e:(ed[k]'h).2.2=(s:Int) <;> simp[e]
theorem zX {k:Nat}(s:Nat):num (ed.take k) s<=num ed s:=by
 unfold num pre;rw[Ll,Ll];exact((List.take_sublist k ed).filter _).length_le
def offs (ed:List Ed)(s:Nat):Nat:=if num ed s=0 then 0 else pos ed s
theorem QlV {s:Nat}(h:j<num ed s):offs ed s+j<ed.length:=by
 unfold offs;rw[OT oa];have:=Js s ed;have:=QdF ed (s+1);omega
theorem QlU {s:Nat}(E:s≠t)(hi:i<num ed s)(G:j<num ed t):offs ed s+i≠offs ed t+j:=by
 unfold offs;rw[OT oa,OT oa];have I:=Js s ed;have J:=Js t ed;rcases Nat.lt_or_gt_of_ne E with h|h
 ·have:=Qb6 ed (show s+1<=t by omega);omega
 have:=Qb6 ed (show t+1<=s by omega);omega
def cnb (ed:List Ed):Nat->Int
 | 0=>0
 | i+1=>(num ed i:Int)
theorem Qki {k:Nat}(h:k<ed.length)(E:(ed[k]'h).2.2=(t:Int))(i:Nat):cnb (ed.take (k+1)) i=if i=t+1 then cnb (ed.take k) i+1 else cnb (ed.take k) i:=by
 cases i with
 | zero=>rw[OT oa];rfl
 | succ i =>
  show((num (ed.take (k+1)) i:Nat):Int)=_;unfold num;rw[Qb5 h i];by_cases e:i=t
  ·subst e;rw[OU E,OU rfl,Lc];rfl
  rw[OT (by rw[E];omega),LF,OT oa];rfl
theorem Qmv (h:Zp [] ↑w va vm ve a)(hok:Q0 a)(hn:a.st=(n:Int)):
  QR sV 129 [.agg #[va,sS a.st,vm,ve]] w λr w'=>sW w w'/\∃rv:Nat->O2,Zt [] ↑w' r (oJ n).length 1 ((oJ n).flatMap λi=>[rv i])/\∀i,i<n->Qu [] ↑w' (rv i) (pre a.ed i):=by
 have pf:=hok.st1;have g9:=hok.ed_le;have hC:=hok.ed;have ka:∀e∈a.ed,0<=e.2.2:=λe J=>(hC e J).2.2.2.1;refine Zm func129 ?_;refine Qc<|Za [va,sS a.st,vm,ve] λb1 w1 kb pg hD=>Qb ?_;have ph:=hD.lt;refine Qc ?_;have ga:(sS (a.st+1))=sS ((n+1:Nat):Int):=OV _ oa;refine Qq rfl hD O O<|QD O O<|Qo<|YZ (n:=n+1) ga ga oa λbC w2 gb pj gc=>Qb ?_;have pn:=gc.lt;have kc:QL ↑w2 bC 3 (cstv (n+1) λ_=>0):=by
  have e:(oG (n+1) (sS 0).cells.toList).flatten=cstv (n+1) λ_=>0:=by
   apply LX
   ·simp[Value.cells]
   intro i h1 h2;simp[Value.cells]
  rw[<-e];exact gc
 have hE:=kb.D gb;have hF:=hD.I gb;refine Qd<|Qc<|Qq O hF O O<|QG (h.ed.I hE) O<|Qa<|xe<|QW (α:=Nat×(Nat->Int)) [(5,5),(19,31)] (λz=>[(19,sS z.1)]) (λz w'=>z.1<=a.ed.length/\O5 [bC] w2 w'/\QL ↑w' bC 3 (cstv (n+1) z.2)/\∀i,z.2 i=cnb (a.ed.take z.1) i) (λz=>a.ed.length - z.1) (0,λ_=>0) La
  ⟨Lo _,O5.Y _ _,kc,λi=>by cases i <;> rfl⟩ ?_
 rintro⟨k,fc⟩ g w3 ⟨hk,h0,h4,U⟩;simp only[]at hk h4 U;have ke:sW w w3:=hE.Q h0 oa;have ge:b1∉[bC]:=ol
 have kf:=hF.J h0 ge;refine Zk rfl O (λhG=>?_) (λhG=>?_)
 ·refine Qt ?_;have kg:a.ed.length<=k:=by have T:¬(k:Int)<(a.ed.length:Int):=hG;omega
  rw[Lq kg]at U;refine Qd<|Qc<|Qq O kf O O<|Qa<|xe<|QW (α:=Nat×(Nat->Int)) [(6,6),(34,48)] (λz=>[(34,sS z.1)]) (λz w'=>z.1<=n/\O5 [bC] w2 w'/\QL ↑w' bC 3 (cstv (n+1) z.2)/\∀i,i<=n->z.2 i=if i<=z.1 then(pos a.ed i:Int) else cnb a.ed i) (λz=>n - z.1) (0,fc) La
   ⟨Lo _,h0,h4,λi _=>by
    show fc i=if i<=0 then(pos a.ed i:Int) else cnb a.ed i
    rw[U i];cases i with
    | zero=>rw[OU (Lp 0),Qin ka];rfl
    | succ i=>rw[OT oa]⟩ ?_
  rintro⟨s,I⟩ g w4 ⟨hs,h5,ha,hf⟩;simp only[]at hs ha hf;have gg:sW w w4:=hE.Q h5 oa;have hg:=hF.J h5 ge;refine Qc<|x (YC (b:=a.st) O O)<|xe<|Qd<|Zr O (λhH=>?_) (λhH=>?_)
  ·refine Qt ?_;have kh:s=n:=by have T:¬(s:Int)<a.st:=hH;omega
   subst kh;have gh:∀i,i<=s->I i=(pos a.ed i:Int):=λi hi=>by rw[hf i hi,OU hi]
   have po:=h5.size;refine Qc<|Qq O hg O O<|QG (h.ed.I gg) O<|Qo<|YZ (n:=a.ed.length) O O oa λbA w5 gi pp gj=>Qb<|Qc ?_;have gk:(sS a.st)=sS (s:Int):=OV _ hn;refine Qq O (hg.I gi) O O<|Qo<|YZ (n:=s) gk gk oa λbO w6 gl pt hI=>Qb ?_;rw[Ud]at hI;have pu:=gj.lt;have hJ:=gi.D gl;have ki:=gg.D hJ;have kj:=ha.I hJ;have kk:=hg.I hJ;have hK:bA≠bO:=oa
   have kn:bC≠bO:=oa
   have ko:b1≠bO:=oa
   have kq:Zt [] ↑w6 (sL bO s s) s 1 ((oJ s).map λ_=>nS):=hI.arr od (n:=s) (cap:=s) (sz:=1) od oa (Lp _);refine Qd<|Qk<|QG kq O<|Qa<|xe<|QW (α:=Nat×(Nat->O2)) [(9,9),(58,79)] (λz=>[(58,sS z.1)]) (λz w'=>z.1<=s/\O5 [bO] w6 w'/\QL ↑w' bO 47 ((oJ s).map z.2)/\∀i,i<z.1->z.2 i=.slice (some ⟨bA,offs a.ed i,none⟩) 0 (num a.ed i)) (λz=>s - z.1) (0,λ_=>nS) La
    ⟨Lo _,O5.Y _ _,hI,λi hi=>OW hi (NJ _)⟩ ?_
   rintro⟨r,rv⟩ g V ⟨hr,hh,hL,hM⟩;simp only[]at hr hL hM;have gm:sW w V:=ki.Q hh oa;have gn:=kk.J hh (by simp only[oF];exact ko);have hN:=kj.J hh (by simp only[oF];exact kn);refine Zk O O (λhO=>?_) (λhO=>?_)
   ·refine Qt ?_;have kr:r=s:=by have T:¬(r:Int)<(s:Int):=hO;omega
    subst kr;have kt:=((gj.I gl).J hh (by simp only[oF];exact hK));refine Qd<|Qc<|Qq O gn O O<|QG (h.ed.I gm) O<|Qa<|xe<|QW (α:=Nat×(Nat->O2)×LV) [(11,11),(83,100)] (λz=>[(83,sS z.1)]) (λz w'=>z.1<=a.ed.length/\O5 [bA,bO] V w'/\QL ↑w' bO 47 ((oJ r).map z.2.1)/\QL ↑w' bA 3 z.2.2/\z.2.2.length=a.ed.length/\(∀i,i<r->z.2.1 i=.slice (some ⟨bA,offs a.ed i,none⟩) (num (a.ed.take z.1) i) (num a.ed i))/\∀i j u,i<r->(pre (a.ed.take z.1) i)[j]?=some u->z.2.2[offs a.ed i+j]?=some (sS u)) (λz=>a.ed.length - z.1) (0,rv,_) La
     ⟨Lo _,O5.Y _ _,hL,kt,by simp[Value.cells],λi hi=>hM i hi,λi j u _ E=>by simp[pre]at E⟩ ?_
    rintro⟨m,Y,cs⟩ g w8 ⟨hm,hP,hQ,hj,h6,ho,hp⟩;simp only[]at hm hQ hj h6 ho hp;have go:sW w w8:=gm.O hP λb hb=>.inr (by simp only[oK,oH,or_false]at hb;omega);have hR:=gn.J hP (by simp only[oK,oH,or_false];omega);refine Zk O O (λhS=>?_) (λhS=>?_)
    ·refine Qt ?_;have ku:a.ed.length<=m:=by have T:¬(m:Int)<(a.ed.length:Int):=hS;omega
     rw[Lq ku]at ho hp;refine Qk<|Qb<|Qh ⟨[_],La,go,Y,?_,λi hi=>?_⟩
     ·rw[zO];have:=hQ.arr (L:=[]) od (n:=(oJ r).length) (cap:=r) (sz:=1) od (by simp;omega) od;rw[L9]at this ⊢;exact this
     rw[ho i hi];have h7:num a.ed i<=1000000:=by unfold num pre;rw[Ll];exact Lx (LJ _ _) (Lx g9 og)
     refine⟨od,Lx h7 og,.inr ⟨_,_,rfl,Lp _,(λu _=>od),(λu _=>hj.lt),λj u E=>?_⟩⟩;rw[MC]at E;cases hq:(pre a.ed i)[j]? with
     | none=>rw[hq]at E;cases E
     | some v =>
      rw[hq]at E;cases E
      rw[Addr.add_lit,hj.cell];exact hp i j v hi hq
    have hv:m<a.ed.length:=by have T:(m:Int)<(a.ed.length:Int):=hS;omega
    have hT:=hC _ (Le hv);have h8:=Qb5 hv;refine Zg (a.ed[m]'hv) λe J=>?_;rw[J]at hT;simp only[J]at h8;obtain⟨t,S⟩:∃t:Nat,e.2.2=(t:Int):=⟨e.2.2.toNat,oa⟩;have h9:t<r:=oa
    have kv:num (a.ed.take (m+1)) t=num (a.ed.take m) t+1:=by unfold num;rw[h8,OU S,Lc];rfl
    have h7:num (a.ed.take m) t<num a.ed t:=by have:=zX (ed:=a.ed) (k:=m+1) t;omega
    have gq:=QlV h7;have kw:=ho t h9;refine Qf<|Qd<|Qn<|Qc<|xie (h.ed.I go) O O hv λpw gr=>?_;rw[J]at gr;refine x (QA gr O O)<|QN [sS 0,sS 0,sS 0] λb11 w9 kx kz k0=>Q2 (Qp e) k0 ox λhw k4 hU=>xe ?_;have hV:sW w8 hw:=kx.Q k4 kz;have gs:=hQ.I hV;have k5:=hj.I hV;have k6:=hj.lt;have k9:∀{b:Nat},b<↑w8->b11≠b:=λhb=>oa
    have hy:(sS e.2.2)=sS (t:Int):=OV _ S;refine ZL [bA] (Xg 0 14 [10,11,13]) ?_;have hW:b11∉[bA]:=by simp only[oF];exact k9 k6
    have gt:bO∉[bA]:=by simp only[oF];exact λh=>hK h.symm
    have gu:sW hw { hw with drawn:=hw.drawn+1 }:=O5.X _ _
    refine p Qx<|p (QH O)<|pq (λ_ G=>Ql (hU.J G hW) O O)<|p Qx<|p (QH O)<|pq (λ_ G=>Ql (hU.J G hW) O O) <|
     p (λ_=>QF (i:=t) O (show Go.Lg.ev _ _=_ from hy) h9)<|pq (λ_ G=>Ql (u:=Y t) (gs.J G gt) O (KY h9))<|p (QH O)<|pq (λ_ G=>Ql (hU.J G hW) O O) <|
     pk<|Q9 [[sS e.1]] λpz hX gv p0 ma=>⟨(gu.D gv).any,?_⟩
    have hA:sW hw hX:=gu.D gv;refine pk<|Qot (u:=sS e.1) (k5.I hA) (show Go.Lg.ev _ _=_ from kw) O (ma.at od) rfl oa (by rw[h6];exact gq) λgx hY mc=>⟨hA.any.V hY,?_⟩;have mf:((oJ r).map Y).length=r:=od
    refine p (λ_=>QF (i:=t) O (show Go.Lg.ev _ _=_ from hy) h9)<|pkk<|Qw (j:=0+t*1) (u:=.slice (some ⟨bA,offs a.ed t,none⟩) (num (a.ed.take m) t+1) (num a.ed t)) ((gs.I hA).J hY gt) O O (by rw[mf];omega) O λgy gz mg=>pe ?_;have mh:QL ↑gy bO 47 ((oJ r).map (Xr Y t (.slice (some ⟨bA,offs a.ed t,none⟩) (num (a.ed.take m) t+1) (num a.ed t)))):=by
     have e1:=J5 id r Y t (.slice (some ⟨bA,offs a.ed t,none⟩) (num (a.ed.take m) t+1) (num a.ed t));simp only[id]at e1;rw[<-e1];simpa using mg
    refine Qs<|QD O O<|Qa<|xe<|⟨(m+1,Xr Y t (.slice (some ⟨bA,offs a.ed t,none⟩) (num (a.ed.take m) t+1) (num a.ed t)),cs.set (offs a.ed t+num (a.ed.take m) t) (sS e.1)),by show a.ed.length - (m+1)<a.ed.length - m;omega,La,hv,?_,mh,mc.J gz (by simp only[oF];exact hK),by simp only[];rw[MX];exact h6,λi hi=>?_,λi j u hi E=>?_⟩
    ·have g0:∀b,b=bA\/b=bO->b∈[bA,bO]:=λb hb=>by simp only[oK,oH,or_false];exact hb
     have k1:O5 [bA,bO] V hX:=hP.V ((hV.D hA).S λb hb=>by cases hb);have k2:O5 [bA,bO] hX gx:=hY.S λb hb=>g0 b (.inl (Lb.1 hb));have k3:O5 [bA,bO] gx gy:=gz.S λb hb=>g0 b (.inr (Lb.1 hb));exact(k1.V k2).V k3
    ·simp only[];by_cases e1:i=t
     ·subst e1;rw[Zy,kv]
     rw[ZQ _ _ e1,ho i hi];congr 1;unfold num;rw[h8,OT (by rw[S];omega),LF]
    simp only[]at E ⊢;rw[h8]at E;by_cases e1:i=t
    ·subst e1;rw[OU S]at E;rcases OM j (num (a.ed.take m) i) with h2|h2
     ·rw[LY h2]at E;rw[MT oa];exact hp i j u hi E
     rw[Mn h2]at E;have mj:j - num (a.ed.take m) i=0:=by
      rcases Nat.eq_zero_or_pos (j - num (a.ed.take m) i) with h3|h3
      ·exact h3
      rw[Mq (by simp only[oL];exact h3)]at E;cases E
     have mo:j=num (a.ed.take m) i:=oa
     have mq:u=e.1:=by
      have:(pre (a.ed.take m) i).length=num (a.ed.take m) i:=rfl;rw[this,mj]at E;exact(Option.some.inj E).symm
     rw[mo,mq,List.getElem?_set_self (by rw[h6];exact gq)]
    rw[OT (by rw[S];omega),LF]at E;have ms:j<num a.ed i:=LR (Mh.1 E).1 (zX i);rw[MT (QlU (λh=>e1 h.symm) h7 ms)];exact hp i j u hi E
   have g2:r<s:=by have T:(r:Int)<(s:Int):=hO;omega
   refine Qf<|Qd<|Qn<|Qk<|Qb ?_;have mt:=Js r a.ed;have g3:=QdF a.ed (r+1);have hfr:I r=(pos a.ed r:Int):=gh r oa;have mu:I (r+1)=(pos a.ed (r+1):Int):=gh (r+1) oa;have g4:(sS (I r))=sS (pos a.ed r:Int):=OV _ hfr;have mv:(sS (I (r+1)))=sS (pos a.ed (r+1):Int):=OV _ mu;have hB:(sS ((r:Int)+1))=sS ((r+1:Nat):Int):=rfl;refine ZL [] (Xg 0 19 [18])<|p Qx<|p Qx<|p Qx<|p Qx<|p Qx<|p (λ_=>QF (i:=r) O O oa) <|
    pq (λ_ G=>Ql (hN.I G) O (Jh oa))<|p Qx<|p Qx<|p (λ_=>QF (i:=r) O O oa)<|pq (λ_ G=>Ql (hN.I G) O (Jh oa)) <|
    p Qx<|p Qx<|p (λ_=>Xp O O ⟨oa,oa⟩)<|p (λ_=>QF (i:=r+1) O (show Go.Lg.ev _ _=_ from hB) oa) <|
    pq (λ_ G=>Ql (hN.I G) O (Jh oa))<|p (Qia O (show Go.Lg.ev _ _=_ from g4) (show Go.Lg.ev _ _=_ from g4) (show Go.Lg.ev _ _=_ from mv) oa g3)<|p (λ_=>QF (i:=r) O O g2)<|pkk<|Qw (j:=0+r*1) (u:=.slice (some ⟨bA,if pos a.ed (r+1)=pos a.ed r then 0 else pos a.ed r,none⟩) 0 (pos a.ed (r+1) - pos a.ed r)) (hL.I (O5.X _ _)) O O (by simp;omega) O λmw my hg=>pe ?_
   have mz:sW V { V with drawn:=V.drawn+1 }:=O5.X _ _
   have m0:(Value.slice (some ⟨bA,if pos a.ed (r+1)=pos a.ed r then 0 else pos a.ed r,none⟩) 0 (pos a.ed (r+1) - pos a.ed r))=.slice (some ⟨bA,offs a.ed r,none⟩) 0 (num a.ed r):=by
    have e1:pos a.ed (r+1) - pos a.ed r=num a.ed r:=oa
    have e2:(if pos a.ed (r+1)=pos a.ed r then 0 else pos a.ed r)=offs a.ed r:=by
     unfold offs;by_cases e3:num a.ed r=0
     ·rw[OU e3,OU oa]
     rw[OT e3,OT oa]
    rw[e1,e2]
   have m1:QL ↑mw bO 47 ((oJ s).map (Xr rv r (.slice (some ⟨bA,offs a.ed r,none⟩) 0 (num a.ed r)))):=by
    have e1:=J5 id s rv r (.slice (some ⟨bA,offs a.ed r,none⟩) 0 (num a.ed r));simp only[id]at e1;rw[<-e1,<-m0];simpa using hg
   refine Qs<|QD O O<|Qa<|xe<|⟨(r+1,Xr rv r (.slice (some ⟨bA,offs a.ed r,none⟩) 0 (num a.ed r))),by show s - (r+1)<s - r;omega,La,g2,(hh.V (mz.S λb hb=>by cases hb)).V my,m1,λi hi=>?_⟩;simp only[];by_cases e1:i=r
   ·subst e1;rw[Zy]
   rw[ZQ _ _ e1];exact hM i (by have T:i<r+1:=hi;omega)
  have m2:s<n:=by have T:(s:Int)<a.st:=hH;omega
  refine Qf<|Qd<|Qn<|Qk<|Qb ?_;have mt:=Js s a.ed;have g3:=QdF a.ed (s+1);have p4:I s=(pos a.ed s:Int):=by rw[hf s oa,OU (Lp _)]
  have p5:I (s+1)=(num a.ed s:Int):=by rw[hf (s+1) oa,OT oa];rfl
  have hB:(sS ((s:Int)+1))=sS ((s+1:Nat):Int):=rfl;refine ZL [] (Xg 0 12 [11])<|p Qx<|p Qx<|p (λ_=>Xp O O ⟨oa,oa⟩)<|p (λ_=>QF (i:=s+1) O (show Go.Lg.ev _ _=_ from hB) oa) <|
   pq (λ_ G=>Ql (ha.I G) O (Jh oa))<|p Qx<|p Qx<|p (λ_=>QF (i:=s) O O oa)<|pq (λ_ G=>Ql (ha.I G) O (Jh oa)) <|
   p (λ_=>Xp O O ⟨oa,oa⟩)<|p (λ_=>QF (i:=s+1) O (show Go.Lg.ev _ _=_ from hB) oa)<|pkk<|Qw (j:=0+(s+1)*1) (u:=sS (I (s+1)+I s)) (ha.I (O5.X _ _)) O O (by simp;omega) O λp6 m3 g5=>pe ?_
  rw[Vx]at g5;have m4:sW w4 { w4 with drawn:=w4.drawn+1 }:=O5.X _ _
  refine Qs<|QD O O<|Qa<|xe<|⟨(s+1,Xr I (s+1) (I (s+1)+I s)),by show n - (s+1)<n - s;omega,La,m2,(h5.V (m4.S λb hb=>by cases hb)).V m3,g5,λi hi=>?_⟩;simp only[];by_cases e1:i=s+1
  ·subst e1;rw[Zy,OU (Lp _)];omega
  rw[ZQ _ _ e1,hf i hi];by_cases e2:i<=s
  ·rw[OU e2,OU oa]
  rw[OT e2,OT oa]
 have hz:k<a.ed.length:=by have T:(k:Int)<(a.ed.length:Int):=hG;omega
 have hT:=hC _ (Le hz);have g6:=λt S=>Qki (t:=t) hz S;refine Zg (a.ed[k]'hz) λe J=>?_;rw[J]at hT;simp only[J]at g6;obtain⟨t,S⟩:∃t:Nat,e.2.2=(t:Int):=⟨e.2.2.toNat,oa⟩;have p7:t<n:=oa
 refine Qf<|Qd<|Qn<|Qc<|xie (h.ed.I ke) O O hz λp8 g7=>?_;rw[J]at g7;refine x (QA g7 O O)<|QN [sS 0,sS 0,sS 0] λb5 p9 m5 m6 m7=>Q2 (Qp e) m7 ox λm8 m9 pc=>xe ?_;have hZ:sW w3 m8:=m5.Q m9 m6;have hy:(sS (e.2.2+1))=sS ((t+1:Nat):Int):=OV _ oa;have qa:0<=fc (t+1)/\fc (t+1)<=1000000:=by
  rw[U];have h1:=zX (ed:=a.ed) (k:=k) t;have h2:num a.ed t<=a.ed.length:=by unfold num pre;rw[Ll];exact LJ _ _
  show 0<=((num (a.ed.take k) t:Nat):Int)/\((num (a.ed.take k) t:Nat):Int)<=1000000;omega
 refine Qs<|Qa<|Qq O pc O O<|QD O O<|x (QF (i:=t+1) O (show Go.Lg.ev _ _=_ from hy) oa) <|
  ZE (h4.I hZ) O (Jh oa)<|QD O O<|x (QF (i:=t+1) O (show Go.Lg.ev _ _=_ from hy) oa)<|Qo<|Qw (j:=0+(t+1)*1) (u:=sS (fc (t+1)+1)) (h4.I hZ) O O (by simp;omega) O λqe pd hR=>xe ?_
 rw[Vx]at hR;refine Qs<|QD O O<|Qa<|xe<|⟨(k+1,Xr fc (t+1) (fc (t+1)+1)),by show a.ed.length - (k+1)<a.ed.length - k;omega,La,hz,(h0.V (hZ.S λb hb=>by cases hb)).V pd,hR,λi=>?_⟩;simp only[];rw[g6 t S i];by_cases e1:i=t+1
 ·subst e1;rw[Zy,OU rfl,U]
 rw[ZQ _ _ e1,OT e1,U]
def bq (ed:List Ed):Nat->Nat->LI->LI
 | 0,_,l=>l
 | f+1,i,l=>if i<l.length then bq ed f (i+1) ((pre ed (O6 l i).toNat).foldl jd l) else l
theorem Qng {f:Nat}(h:¬i<l.length):bq ed f i l=l:=by
 cases f with
 | zero=>rfl
 | succ f=>rw[bq,OT h]
def crq (a:Qz)(tg:LI):LI:=bq a.ed (tg.length+a.st.toNat) 0 tg
def blkd (a:Qz)(tg:LI):LI:=((oJ a.st.toNat).filter λi:Nat=>decide ((i:Int)∉crq a tg)).map λi:Nat=>(i:Int)
structure RkI (n:Nat)(l:LI)(f:Nat->Int):Prop where
 s:∀i:Nat,i<n->(f i<0↔(i:Int)∉l)
 lo:∀i:Nat,i<n->-1<=f i
 hi:∀i:Nat,i<n->f i<=(l.length:Int)
theorem Qgb {tg:LI}(h:Zp [] ↑w va vm ve a)(hok:Q0 a)(hn:a.st=(n:Int))(hT:Qu [] ↑w vt tg)(hO:∀x∈tg,0<=x/\x<(n:Int))(mc:tg.length<=1000000):
  QR sV 55 [.agg #[va,sS a.st,vm,ve],vt] w λr w'=>sW w w'/\∃b f,r=sL b n n/\↑w<=b/\QL ↑w' b 3 (cstv n f)/\∀i:Nat,i<n->(f i<0↔(i:Int)∉crq a tg):=by
 have mf:=hok.st1;have gx:=hok.ed_le;have gy:=hok.ed;refine Zg (crq a tg) λR hR=>?_;have gz:bq a.ed (tg.length+n) 0 tg=R:=by rw[<-hR];unfold crq;rw[hn];rfl
 rw[hR];refine Zm func55 ?_;refine Qc<|Za [va,sS a.st,vm,ve] λb2 w1 hP mg hQ=>Qb<|Qc<|QV hQ O O<|Qv<|(Qmv (h.I hP) hok hn).S ?_;rintro vr w2 ⟨hS,rv,g0,g2⟩;refine Qb ?_;have h6:=hP.D hS;have hU:(sS a.st)=sS (n:Int):=OV _ hn;refine Qc<|Qq O (hQ.I hS) O O<|Qo<|YZ (n:=n) hU hU oa λbO w3 hV hW g3=>Qb ?_;have hX:QL ↑w3 bO 3 (cstv n λ_=>0):=by
  have e:(oG n (sS 0).cells.toList).flatten=cstv n λ_=>0:=by
   apply LX
   ·simp[Value.cells]
   intro i h1 S;simp[Value.cells]
  rw[<-e];exact g3
 have g4:=h6.D hV;have mh:=h6.size;have g5:Zt [] ↑w3 (sL bO n n) n 1 (cstv n λ_=>0):=hX.arr od (n:=n) (cap:=n) (sz:=1) od oa (Lp _);refine Qd<|Qk<|QG g5 O<|Qa<|xe<|QW (α:=Nat×(Nat->Int)) [(7,7),(21,27)] (λz=>[(21,sS z.1)]) (λz w'=>z.1<=n/\O5 [bO] w3 w'/\QL ↑w' bO 3 (cstv n z.2)/\∀i,i<z.1->z.2 i=-1) (λz=>n - z.1) (0,λ_=>0) La ⟨Lo _,O5.Y _ _,hX,λi hi=>OW hi (NJ _)⟩ ?_;rintro⟨k,f4⟩ g w4 ⟨hk,h7,hz,hu⟩;simp only[]at hk hz hu;refine Zk rfl O (λh8=>?_) (λh8=>?_)
 ·refine Qt ?_;have g6:k=n:=by have T:¬(k:Int)<(n:Int):=h8;omega
  subst g6;have g7:sW w w4:=g4.Q h7 oa;have hY:sW w2 w4:=hV.Q h7 hW;have g8:=hY.size;refine Qk<|Qv<|(ZZ (hT.I g7)).S ?_;rintro v5 w5 ⟨hZ,h9⟩;refine Qb ?_;have g9:Qu [] ↑w5 v5 tg:=Qi.ints h9 oa od;have ga:bO∉ob v5:=λY=>oq (Qj h9 _ Y).1 hz.lt
  have ka:=hY.D hZ;refine Qd<|Qk<|QG g9 O<|Qa<|xe<|QW (α:=Nat×(Nat->Int)) [(10,10),(32,39)] (λz=>[(32,sS z.1)]) (λz w'=>z.1<=tg.length/\O5 [bO] w5 w'/\QL ↑w' bO 3 (cstv k z.2)/\RkI k (tg.take z.1) z.2) (λz=>tg.length - z.1) (0,f4) La
   ⟨Lo _,O5.Y _ _,hz.I hZ,⟨λi hi=>by show f4 i<0↔_;rw[hu i hi];simp,λi hi=>by show -1<=f4 i;rw[hu i hi];omega,λi hi=>by show f4 i<=_;rw[hu i hi];omega⟩⟩ ?_
  rintro⟨j,f6⟩ g w6 ⟨hj,hA,hB,hc⟩;simp only[]at hj hB hc;have gb:=Qg h9 hA λb hb Y=>ga (Lb.1 Y ▸ hb);have kb:Qu [] ↑w6 v5 tg:=Qi.ints gb oa od;refine Zk O O (λhC=>?_) (λhC=>?_)
  ·refine Qt ?_;have kc:tg.length<=j:=by have T:¬(j:Int)<(tg.length:Int):=hC;omega
   rw[Lq kc]at hc;have ke:sW w2 w6:=ka.Q hA hW;refine Qd<|Qc<|Qb<|QW (α:=Nat×O2×LI×(Nat->Int)) [(8,8),(11,11),(13,13),(40,78)] (λz=>[(8,z.2.1),(11,sS z.1)]) (λz w'=>z.1<=z.2.2.1.length/\sW w2 w'/\Qi 3 ↑w2 w' z.2.1 z.2.2.1/\bO∉ob z.2.1/\QL ↑w' bO 3 (cstv k z.2.2.2)/\RkI k z.2.2.1 z.2.2.2/\yX k tg z.2.2.1/\bq a.ed (tg.length+k - z.1) z.1 z.2.2.1=R) (λz=>tg.length+k+1 - z.1) (0,v5,tg,f6) ov
    ⟨Lo _,ke,Zf gb g8,ga,hB,hc,yX.zero _ _,gz⟩ ?_
   rintro⟨i,vq,l,f7⟩ g w7 ⟨hi,h0,hD,gc,hF,hG,h4,U⟩;simp only[]at hi hD gc hF hG h4 U;have mj:=h4.len;have kf:=h4.all hO;have ge:Qu [] ↑w7 vq l:=Qi.ints hD oa od;refine Qd<|Qk<|Qa<|QG ge O<|ZX O O<|xe<|Zr O (λhH=>?_) (λhH=>?_)
   ·refine Qt ?_;have kg:¬i<l.length:=by have T:¬(i:Int)<(l.length:Int):=hH;omega
    rw[Qng kg]at U;refine Qk<|Qb<|Qh ⟨[_],La,h6.D h0,bO,f7,O,oa,hF,λi hi=>by rw[<-U];exact hG.s i hi⟩
   have G:i<l.length:=by have T:(i:Int)<(l.length:Int):=hH;omega
   have kh:=kf _ (Xv G);have ki:tg.length+k - i=(tg.length+k - (i+1))+1:=oa
   rw[ki,bq,OU G]at U;have hI:=ZA G;refine Zg (O6 l i) λs hs=>?_;rw[hs]at kh U hI;have gg:s=(s.toNat:Int):=oa
   have hf:s.toNat<k:=oa
   have hE:=g2 s.toNat hf;have kj:(pre a.ed s.toNat).length<=131072:=by unfold pre;rw[Ll];exact Lx (LJ _ _) gx
   have gh:∀x∈pre a.ed s.toNat,0<=x/\x<(k:Int):=λx hx=>by
    obtain⟨e,he,rfl⟩:=Ly.1 hx;have:=gy e (LQ.1 he).1;omega
   have gi:(sS s)=sS (s.toNat:Int):=OV _ gg;have kk:s.toNat<(oJ k).length:=by rw[L9];exact hf
   refine Zg (pre a.ed s.toNat) λps kn=>?_;rw[kn]at hE kj gh U;refine Qf<|Qd<|Qn<|Qk<|Qa<|Qa<|xii (i:=i) ge O O G λmo gj=>?_;rw[hI]at gj;refine x (Qr gj O)<|O8 (g:=λj:Nat=>[rv j]) (i:=s.toNat) (λ_=>O) (g0.I h0) O (show Go.Lg.ev _ _=_ from gi) kk λmq gk=>?_;rw[Mr]at gk;refine x (Qr (u:=rv s.toNat) gk O)<|QG (hE.I h0) O<|Qa<|xe<|QW (α:=Nat×O2×LI×(Nat->Int)) [(8,8),(13,13),(54,78)] (λz=>[(8,z.2.1),(54,sS z.1)]) (λz w'=>z.1<=ps.length/\sW w2 w'/\Qi 3 ↑w2 w' z.2.1 z.2.2.1/\bO∉ob z.2.1/\QL ↑w' bO 3 (cstv k z.2.2.2)/\RkI k z.2.2.1 z.2.2.2/\yX k tg z.2.2.1/\z.2.2.1[i]?=some s/\(ps.drop z.1).foldl jd z.2.2.1=ps.foldl jd l) (λz=>ps.length - z.1) (0,vq,l,f7) ov
    ⟨Lo _,h0,hD,gc,hF,hG,h4,by rw[LE G,hI],rfl⟩ ?_
   rintro⟨m,hJ,lm,f8⟩ g w8 ⟨Y,hg,hh,ho,ha,I,hv,hw,J⟩;simp only[]at Y hh ho ha I hv hw J;have ms:=hv.len;have hp:i<lm.length:=(Mh.1 hw).1;have gl:lm[i]'hp=s:=by have:=hw;rw[LE hp]at this;exact Option.some.inj this
   have ko:Qu [] ↑w8 hJ lm:=Qi.ints hh oa od;refine Zk O O (λhK=>?_) (λhK=>?_)
   ·refine Qt ?_;have kq:ps.length<=m:=by have T:¬(m:Int)<(ps.length:Int):=hK;omega
    rw[Lr kq]at J;have kr:lm=ps.foldl jd l:=J;rw[<-kr]at U;refine Qs<|Qa<|QD O O<|Qb<|⟨(i+1,hJ,lm,f8),by show tg.length+k+1 - (i+1)<tg.length+k+1 - i;omega,ov,hp,hg,hh,ho,ha,I,hv,U⟩
   have hr:m<ps.length:=by have T:(m:Int)<(ps.length:Int):=hK;omega
   have gm:=gh _ (Le hr);rw[QY hr,LO]at J;refine Zg (ps[m]'hr) λq hq=>?_;rw[hq]at gm J;obtain⟨t,ht⟩:∃t:Nat,q=(t:Int):=⟨q.toNat,oa⟩;have V:t<k:=oa
   have h5:(sS q)=sS (t:Int):=OV _ ht;refine Qf<|Qd<|Qn<|Qc<|xii (i:=m) (hE.I hg) O O hr λmt gn=>?_;rw[hq]at gn;refine x (Qr gn O)<|Qb<|Qk<|Qa<|x (QF (i:=t) O (show Go.Lg.ev _ _=_ from h5) V)<|ZE ha O (Jh V)<|x (YC (a:=f8 t) (b:=0) O O)<|xe<|Zr O (λhL=>?_) (λhL=>?_)
   ·have kt:q∈lm:=by rw[ht];exact Classical.byContradiction λhn=>hL ((I.s t V).2 hn)
    have hM:jd lm q=lm:=by unfold jd;rw[OT (not_not_intro kt)]
    rw[hM]at J;refine Qf<|Qs<|QD O O<|Qa<|xe ?_;exact⟨(m+1,hJ,lm,f8),by show ps.length - (m+1)<ps.length - m;omega,ov,hr,hg,hh,ho,ha,I,hv,hw,J⟩
   have go:q∉lm:=by rw[ht];exact(I.s t V).1 hL
   have hM:jd lm q=lm++[q]:=by unfold jd;rw[OU go]
   rw[hM]at J;have mu:=I.hi s.toNat hf;have mv:¬f8 s.toNat<0:=λh=>(I.s s.toNat hf).1 h (by rw[<-gg,<-gl];exact Le hp);have ku:=Qj hh;have mw:=hg.size;refine Qk<|Qa<|Qa<|Qa<|Qa<|xii (i:=i) ko O O hp λmy gq=>?_;rw[gl]at gq;refine x (Qr gq O)<|x (QF (i:=s.toNat) O (show Go.Lg.ev _ _=_ from gi) hf)<|ZE ha O (Jh hf)<|QD O O<|x (QF (i:=t) O (show Go.Lg.ev _ _=_ from h5) V) <|
    Qo<|Qw (j:=0+t*1) (u:=sS (f8 s.toNat+1)) ha O O (by simp;omega) O λw9 hN gr=>xe ?_
   rw[Vx]at gr;have kv:=Qg hh hN λb hb Y=>ho (Lb.1 Y ▸ hb);have mz:=hN.size;refine Qs<|Qa<|Qa<|Qo<|Q9 [[sS q]] λm0 m1 hy m2 kw=>Qo<|Q8 (m:=1) (news:=[sS q]) (L:=[]) (Qm kv hy) O O O (kw.at od) om oa (oq hy.size hg.size) λkx m3 kz gs k0=>Qb<|Qs<|QD O O<|Qa<|xe ?_;have m4:=hy.size;refine⟨(m+1,kx,lm++[q],Xr f8 t (f8 s.toNat+1)),by show ps.length - (m+1)<ps.length - m;omega,ov,hr,((hg.Q hN oa).D hy).O gs λb hb=>.inr (oo (ku b hb).1),Qi.snoc kz,λk4=>?_,(gr.I hy).J gs ho,⟨λE hi'=>?_,λE hi'=>?_,λE hi'=>?_⟩,hv.add gm go,?_,J⟩
   ·rcases k0 _ k4 with h1|h1
    ·exact ho h1
    have:=ha.lt;omega
   ·simp only[];rw[Lh,Lb];by_cases e1:E=t
    ·subst e1;rw[Zy];exact⟨λh=>OW h oa,λh=>OW (Or.inr ht.symm) h⟩
    rw[ZQ _ _ e1,I.s E hi'];exact⟨λh S=>S.elim h λh3=>e1 oa,λh S=>h (.inl S)⟩
   ·simp only[];by_cases e1:E=t
    ·subst e1;rw[Zy];omega
    rw[ZQ _ _ e1];exact I.lo E hi'
   ·simp only[];rw[Lc,Lu];by_cases e1:E=t
    ·subst e1;rw[Zy];omega
    rw[ZQ _ _ e1];have:=I.hi E hi';omega
   simp only[];rw[LY hp];exact hw
  have G:j<tg.length:=by have T:(j:Int)<(tg.length:Int):=hC;omega
  have V:tg.take (j+1)=tg.take j++[tg[j]'G]:=Lj G;have k5:=hO _ (Le G);refine Qf<|Qd<|Qn<|Qc<|xii (i:=j) kb O O G λm5 gt=>?_;refine Zg (tg[j]'G) λq hq=>?_;rw[hq]at gt V k5;obtain⟨t,ht⟩:∃t:Nat,q=(t:Int):=⟨q.toNat,oa⟩;have k6:t<k:=oa
  have h5:(sS q)=sS (t:Int):=OV _ ht;refine x (Qr gt O)<|Qb<|Qs<|Qa<|Qa<|x (QF (i:=t) O (show Go.Lg.ev _ _=_ from h5) k6)<|Qo<|Qw (j:=0+t*1) (u:=sS 0) hB O O (by simp;omega) O λm6 k9 gu=>xe ?_;rw[Vx]at gu;refine Qs<|QD O O<|Qa<|xe<|⟨(j+1,Xr f6 t 0),by show tg.length - (j+1)<tg.length - j;omega,La,G,hA.V k9,gu,?_⟩;simp only[];rw[V];refine⟨λE hi'=>?_,λE hi'=>?_,λE hi'=>?_⟩
  ·rw[Lh,Lb];by_cases e1:E=t
   ·subst e1;rw[Zy];exact⟨λh=>OW h oa,λh=>OW (Or.inr ht.symm) h⟩
   rw[ZQ _ _ e1,hc.s E hi'];exact⟨λh S=>S.elim h λh3=>e1 oa,λh S=>h (.inl S)⟩
  ·by_cases e1:E=t
   ·subst e1;rw[Zy];omega
   rw[ZQ _ _ e1];exact hc.lo E hi'
  rw[Lc,Lu];by_cases e1:E=t
  ·subst e1;rw[Zy];omega
  rw[ZQ _ _ e1];have:=hc.hi E hi';omega
 have G:k<n:=by have T:(k:Int)<(n:Int):=h8;omega
 refine Qf<|Qd<|Qn<|Qk<|Qb<|Qs<|Qa<|Qa<|x (QF (i:=k) O O G)<|Qo<|Qw (j:=0+k*1) (u:=sS (-1)) hz O O (by simp;omega) O λm7 ma gv=>xe ?_;rw[Vx]at gv;refine Qs<|QD O O<|Qa<|xe<|⟨(k+1,Xr f4 k (-1)),by show n - (k+1)<n - k;omega,La,G,h7.V ma,gv,λi hi=>?_⟩;simp only[];by_cases e1:i=k
 ·subst e1;rw[Zy]
 rw[ZQ _ _ e1];exact hu i (by have T:i<k+1:=hi;omega)
theorem Qg5 (f:Nat->Int)(k:Nat):(((oJ (k+1)).filter λi=>decide (f i<0)).map λi:Nat=>(i:Int))=((oJ k).filter λi=>decide (f i<0)).map (λi:Nat=>(i:Int))++if f k<0 then[(k:Int)]else[]:=by
 rw[Nf,LT,Lv];congr 1;by_cases e:f k<0 <;> simp[e]
theorem Qeq {b:Nat}{f:Nat->Int}(V:QL ↑w b 3 (cstv n f))(hn:n<=4096):
  QR sV 54 [sL b n n] w λr w'=>sW w w'/\Qi 3 ↑w w' r (((oJ n).filter λi=>decide (f i<0)).map λi:Nat=>(i:Int)):=by
 have hA:Zt [] ↑w (sL b n n) n 1 (cstv n f):=V.arr od (n:=n) (cap:=n) (sz:=1) od oa (Lp _);refine Zm func54 ?_;refine Qc<|Qb<|Qc<|Qb<|Qd<|Qk<|QG hA O<|Qa<|xe<|QW (α:=Nat×O2) [(3,5),(8,19)] (λz=>[(3,z.2),(8,sS z.1)]) (λz w'=>z.1<=n/\sW w w'/\Qi 3 ↑w w' z.2 (((oJ z.1).filter λi=>decide (f i<0)).map λi:Nat=>(i:Int))) (λz=>n - z.1) (0,ZT) ov ⟨Lo _,O5.Y _ _,QM _ _ _ _⟩ ?_;rintro⟨k,vo⟩ g w1 ⟨Y,G,E⟩;simp only[]at Y E;refine Zk rfl O (λS=>?_) (λS=>?_)
 ·refine Qt ?_;have ha:k=n:=by have hc:¬(k:Int)<(n:Int):=S;omega
  rw[ha]at E;refine Qk<|Qb<|Qh ⟨[_],La,G,E⟩
 have I:k<n:=by have hc:(k:Int)<(n:Int):=S;omega
 have J:=Qg5 f k;have hh:(((oJ k).filter λi=>decide (f i<0)).map λi:Nat=>(i:Int)).length<=4096:=by
  rw[Ll];exact Lx (LJ _ _) (by rw[L9];omega)
 refine Qf<|Qd<|Qn<|Qk<|x (QF (i:=k) O O I)<|ZE (V.I G) O (Jh I)<|x Qe<|Qb<|Qk<|x (YC (a:=f k) (b:=0) O O)<|xe<|Zr rfl (λT=>?_) (λT=>?_)
 ·rw[OT T,LF]at J;refine Qf<|Qs<|QD O O<|Qa<|xe ?_;exact⟨(k+1,vo),by show n - (k+1)<n - k;omega,ov,I,G,by simp only[];rw[J];exact E⟩
 rw[OU T]at J;refine Qs<|Qa<|Qa<|Qo<|Q9 [[sS k]] λhj w2 U hm he=>Qo<|Q8 (m:=1) (news:=[sS k]) (L:=[]) (Qm E U) O O O (he.at od) om oa (oq G.size U.size) λv3 w3 hf hg ho=>Qb<|Qs<|QD O O<|Qa<|xe ?_;exact⟨(k+1,v3),by show n - (k+1)<n - k;omega,ov,I,(G.D U).O hg λb hb=>.inr (Qj E b hb).1,by simp only[];rw[J];exact Qi.snoc hf⟩
def qY (n:Nat):LI:=(oJ n).map λi:Nat=>(i:Int)
theorem QpD {st:Int}(hn:st=(n:Int))(hl:n<=4096):
  QR sV 128 [.agg #[va,sS st,vm,ve]] w λr w'=>sW w w'/\Qi 3 ↑w w' r (qY n):=by
 refine Zm func128 ?_;refine Qc<|Za [va,sS st,vm,ve] λb1 w1 S hp hf=>Qb ?_;have T:(sS st)=sS (n:Int):=OV _ hn;refine Qc<|Qq O hf O O<|Qo<|YZ (n:=n) T T oa λbO G hg hq hh=>Qb ?_;have U:QL ↑G bO 3 (cstv n λ_=>0):=by
  have e:(oG n (sS 0).cells.toList).flatten=cstv n λ_=>0:=by
   apply LX
   ·simp[Value.cells]
   intro i h1 h2;simp[Value.cells]
  rw[<-e];exact hh
 have hr:=S.size;have hj:Zt [] ↑G (sL bO n n) n 1 (cstv n λ_=>0):=U.arr od (n:=n) (cap:=n) (sz:=1) od oa (Lp _);refine Qd<|Qk<|QG hj O<|Qa<|xe<|QW (α:=Nat×(Nat->Int)) [(4,4),(10,17)] (λz=>[(10,sS z.1)]) (λz w'=>z.1<=n/\O5 [bO] G w'/\QL ↑w' bO 3 (cstv n z.2)/\∀i,i<z.1->z.2 i=(i:Int)) (λz=>n - z.1) (0,λ_=>0) La ⟨Lo _,O5.Y _ _,U,λi hi=>OW hi (NJ _)⟩ ?_;rintro⟨k,f3⟩ g w3 ⟨hk,V,E,I⟩;simp only[]at hk E I;refine Zk rfl O (λJ=>?_) (λJ=>?_)
 ·refine Qt ?_;have hm:k=n:=by have Y:¬(k:Int)<(n:Int):=J;omega
  subst hm;refine Qk<|Qb<|Qh ⟨[_],La,(S.D hg).Q V oa,?_⟩;have e:cstv k f3=(qY k).map (Value.int .i64):=by
   unfold cstv qY;rw[Mw];exact List.map_congr_left λi hi=>OV _ (I i (MB.1 hi))
  rw[e]at E;have ha:(qY k).length=k:=by simp[qY]
  have:=E.own (n:=k) (sz:=1) (by rw[Ll,ha,OQ]) oa (base:=↑w) oa;show w3.ownsRow _ _ 1 _ (qY k).length _;rw[ha];exact this
 have hc:k<n:=by have Y:(k:Int)<(n:Int):=J;omega
 refine Qf<|Qd<|Qn<|Qk<|Qb<|Qs<|Qa<|Qa<|Qa<|x (QF (i:=k) O O hc)<|Qo<|Qw (j:=0+k*1) (u:=sS (k:Int)) E O O (by simp;omega) O λw4 ho he=>xe ?_;rw[Vx]at he;refine Qs<|QD O O<|Qa<|xe<|⟨(k+1,Xr f3 k (k:Int)),by show n - (k+1)<n - k;omega,La,hc,V.V ho,he,λi hi=>?_⟩;simp only[];by_cases e1:i=k
 ·subst e1;rw[Zy]
 rw[ZQ _ _ e1];exact I i (by have Y:i<k+1:=hi;omega)
section
variable {P:LI->Prop}
structure SyB (P:LI->Prop)(s:Sy):Prop where
 nd:s.tup.Nodup
 p:∀t∈s.tup,P t
theorem Qn6 (hB:B<=4096)(T:∀l:List (LI),l.Nodup->(∀t∈l,P t)->l.length<=B){t:LI}{v:Int}{z:Sy}(E:SyB P z)(U:∀u,Yo v aa t=some u->P u):
  ∃z',syE aa i t z v=some z'/\SyB P z':=by
 unfold syE;cases V:Yo v aa t with
 | none=>exact⟨z,O,E⟩
 | some u =>
  simp only[];by_cases I:u∈z.tup
  ·rw[OU I];exact⟨_,O,E.nd,E.p⟩
  have J:(z.tup++[u]).Nodup:=Jv E.nd I;have S:∀t∈z.tup++[u],P t:=λt G=>by
   rcases Lh.1 G with G|G
   ·exact E.p t G
   rw[Lb.1 G];exact U u V
  have Y:=T _ J S;rw[Lc,Lu]at Y;rw[OT I,OT oa];exact⟨_,O,J,S⟩
theorem QeU (G:B<=4096)(I:∀l:List (LI),l.Nodup->(∀t∈l,P t)->l.length<=B){i:Nat}{t:LI}:∀(vs:LI) (z:Sy),SyB P z->(∀v∈vs,∀u,Yo v aa t=some u->P u)->∃z',UU aa i t vs z=some z'/\SyB P z'
 | [],z,E,_=>⟨z,O,E⟩
 | v::vs,z,E,J=>by
  obtain⟨S,T,U⟩:=Qn6 (i:=i) G I E (J v Lm);obtain⟨V,Y,h4⟩:=QeU G I vs S U (λw hw=>J w (Lk _ hw));exact⟨V,by rw[UU,T];exact Y,h4⟩
theorem QhN (G:B<=4096)(I:∀l:List (LI),l.Nodup->(∀t∈l,P t)->l.length<=B)(J:∀t,P t->∀v∈evs aa,∀u,Yo v aa t=some u->P u):∀(f i:Nat) (z:Sy),SyB P z->∃z',syL aa f i z=some z'
 | 0,_,z,_=>⟨z,O⟩
 | f+1,i,z,E=>by
  rw[syL];split
  ·rename_i hi;have T:P (JF z i):=E.p _ (by unfold JF;simp[oO,hi]);have S:(Z7 aa i (JF z i) z).tup=z.tup:=by unfold Z7;split <;> rfl
   obtain⟨U,V,Y⟩:=QeU (i:=i) G I (evs aa) (Z7 aa i (JF z i) z) ⟨by rw[S];exact E.nd,by rw[S];exact E.p⟩ (J _ T);obtain⟨s2,h3⟩:=QhN G I J f (i+1) U Y;exact⟨s2,by rw[V];exact h3⟩
  exact⟨z,O⟩
theorem QeR (G:B<=4096)(I:∀l:List (LI),l.Nodup->(∀t∈l,P t)->l.length<=B)(J:(∀a∈aa,a.st≠0)->P (oG aa.length 0))(S:∀t,P t->∀v∈evs aa,∀u,Yo v aa t=some u->P u):
  ∃z,xo aa=some z:=by
 unfold xo;split
 ·exact⟨_,rfl⟩
 rename_i T;have U:P (oG aa.length 0):=J (λa V e=>T ⟨a,V,e⟩);obtain⟨z,Y⟩:=QhN G I S 4096 0 (zD aa) ⟨by simp[zD],λt E=>by simp[zD]at E;subst E;exact U⟩;exact⟨_,by rw[Y];rfl⟩
end
def Vz (k:Nat):LI->Int
 | []=>0
 | x::t=>x+(k:Int)*Vz k t
theorem QfG {k:Nat}:∀{t:LI},(∀x∈t,0<=x/\x<(k:Int))->0<=Vz k t/\Vz k t<((k ^ t.length:Nat):Int)
 | [],_=>by simp[Vz]
 | x::t,h=>by
  have hx:=h x Lm;obtain⟨E,S⟩:=QfG (t:=t) (λy G=>h y (Lk _ G));have T:(0:Int)<(k:Int):=oa
  rw[Vz,LL,OH];have I:(k:Int)*Vz k t<=(k:Int)*(((k ^ t.length:Nat):Int) - 1):=Int.mul_le_mul_of_nonneg_left oa oa;have U:0<=(k:Int)*Vz k t:=Int.mul_nonneg oa E;rw[Int.mul_sub,Int.mul_one]at I;have J:((k ^ t.length*k:Nat):Int)=(k:Int)*((k ^ t.length:Nat):Int):=by rw[Int.natCast_mul,Int.mul_comm]
  rw[J];exact⟨oa,oa⟩
theorem QcB {k:Nat}:∀{t u:LI},t.length=u.length->(∀x∈t,0<=x/\x<(k:Int))->(∀x∈u,0<=x/\x<(k:Int))->Vz k t=Vz k u->t=u
 | [],[],_,_,_,_=>rfl
 | [],_::_,h,_,_,_=>by cases h
 | _::_,[],h,_,_,_=>by cases h
 | x::t,y::u,hl,G,I,J=>by
  have hx:=G x Lm;have S:=I y Lm;rw[Vz,Vz]at J;have T:(x+(k:Int)*Vz k t) % (k:Int)=x:=by rw[Int.add_mul_emod_self_left];exact Int.emod_eq_of_lt hx.1 hx.2
  have m2:(y+(k:Int)*Vz k u) % (k:Int)=y:=by rw[Int.add_mul_emod_self_left];exact Int.emod_eq_of_lt S.1 S.2
  rw[J]at T;have U:x=y:=oa
  subst U;have V:(k:Int)*Vz k t=(k:Int)*Vz k u:=oa
  have Y:(k:Int)≠0:=oa
  rw[QcB (ou hl) (λz E=>G z (Lk _ E)) (λz E=>I z (Lk _ E)) (Int.eq_of_mul_eq_mul_left Y V)]
theorem QbF {k:Nat}(U:∀a∈aa,Q0 a)(hk:∀a∈aa,a.st<=(k:Int))(hB:k ^ aa.length<=4096):∃z,xo aa=some z:=by
 have S:∀t,Vt aa t->∀x∈t,0<=x/\x<(k:Int):=λt E x hx=>by
  obtain⟨i,hi,e⟩:=LP hx;have V:i<aa.length:=by rw[<-E.1];exact hi
  have I:=E.2 i hi V;have J:=hk _ (Le V);rw[e]at I;omega
 refine QeR (P:=Vt aa) hB (λl hn G=>?_) (λhz=>?_) (λt E v _ u T=>Xo U E T)
 ·have I:(l.map (Vz k)).Nodup:=by
   unfold List.Nodup;rw[Ma];refine List.Pairwise.imp_of_mem (λ{a b} Y hb hc e=>hc ?_) hn;exact QcB (by rw[(G a Y).1,(G b hb).1]) (S a (G a Y)) (S b (G b hb)) e
  have J:=xH (k ^ aa.length) _ I (λu T=>by
   obtain⟨t,E,rfl⟩:=Ly.1 T;have h3:=QfG (S t (G t E));rw[(G t E).1]at h3;exact h3)
  rw[Ll]at J;exact J
 refine⟨od,λi h h'=>?_⟩;have I:=hz _ (Le h');have J:=(U _ (Le h')).st0;simp only[Oq];omega
def bpt (a:Qz)(tg:LI):LI×Bool:=if a.st=0 then([],false) else ptR a a.st.toNat 0 tg (qY a.st.toNat)
theorem Qnn {m:Int}(E:(n:Int)<=m):J1 m none (qY n)=0:=by
 refine Qbj (λx hx=>?_) ?_
 ·obtain⟨i,hi,rfl⟩:=Ly.1 hx;have:=MB.1 hi;omega
 unfold qY YA;rw[Ma];exact List.pairwise_lt_range.imp λh=>oa
theorem QkD {tg:LI}(h:Zp [] ↑w va vm ve a)(hok:Q0 a)(hT:Qu [] ↑w vt tg)(hg:J1 a.st none tg=0):
  QR sV 53 [.agg #[va,sS a.st,vm,ve],sS 0,vt] w λr w'=>sW w w'/\∃v,r=.tuple #[v,.bool (bpt a tg).2]/\Yr ↑w ↑w' v (bpt a tg).1:=by
 have hp:=hok.st0;have hq:=hok.st1;obtain⟨n,hn⟩:∃n:Nat,a.st=n:=⟨a.st.toNat,oa⟩;have hh:a.st.toNat=n:=oa
 have E:bpt a tg=if a.st=0 then([],false) else ptR a n 0 tg (qY n):=by unfold bpt;rw[hh]
 refine Zg (bpt a tg) λR hR=>?_;rw[hR]at E ⊢;refine Zm func53 ?_;refine Qc<|Za [va,sS a.st,vm,ve] λb3 G ha hr J=>x Qe<|Qb<|Qd<|Qk<|Qq O J O O<|x (Yl (a:=0) (b:=a.st) O O)<|xe<|Zi rfl (λS=>?_) (λS=>?_)
 ·have T:a.st=0:=by have hj:(0:Int)≥a.st:=S;omega
  rw[OU T]at E;rw[E];refine Qc<|x Qe<|Qb<|Qh ⟨[ZT,.bool false],ov,ha,ZT,O,Yr.nil _ _⟩
 have T:¬a.st=0:=by have hj:¬(0:Int)≥a.st:=S;omega
 rw[OT T]at E;have he:0<n:=oa
 refine Qf<|Qd<|ZL [] (Xg 0 13 [4,5]) ?_;have hk:sW G { G with drawn:=G.drawn+1 }:=O5.X _ _
 refine pq (λ_ U=>Q7 (J.I U) O O)<|p Qx<|p Qx<|pq (λ_ U=>Q7 (J.I U) O O)<|pk<|xg<|(QpD (w:={ G with drawn:=G.drawn+1 }) hn oa).S ?_
 rintro v2 w2 ⟨hm,ho⟩;have V:=hk.D hm;have I:=ha.D V;have hs:(qY n).length<=4096:=by simp[qY];omega
 refine⟨V,?_⟩;refine pk<|xg<|(Qns (n:=n) (from0:=0) (h.I I) ((ZC a).2 hok) hn he (hT.I I) (Qi.ints ho oa od) hg (Qnn oa) (Ly.2 ⟨0,MB.2 he,rfl⟩)).S ?_;rintro _ w3 ⟨hf,v,rfl,Y⟩;rw[<-E]at Y ⊢;refine⟨V.D hf,?_⟩;refine p Qx<|p (λ_=>Q3 O O)<|p (λ_=>Q3 O O)<|p (λ_=>Q3 O O)<|p ZN<|p ZN<|p ZN<|pe ?_;refine Qk<|Qa<|x Qe<|Qb<|Qh ⟨[v,_],ov,I.D hf,v,O,?_⟩;rw[E]at Y ⊢;exact λL hL=>Qi.ints Y (Lx (QlE a n tg _) oa) λb hb=>LR (hL b hb) I.size
def nbl (a:Qz):LI×Bool:=((bpt (JZ [a]) (blkd (JZ [a]) (JZ [a]).mr)).1,!(bpt (JZ [a]) (blkd (JZ [a]) (JZ [a]).mr)).2)
theorem Qnh (a:Qz)(h:0<=a.st)(tg:LI):J1 a.st none (blkd a tg)=0:=by
 refine Qbj (λx hx=>?_) ?_
 ·obtain⟨i,hi,rfl⟩:=Ly.1 hx;have:=MB.1 (LQ.1 hi).1;omega
 unfold blkd YA;rw[Ma];exact(List.pairwise_lt_range.filter _).imp λh=>oa
theorem Qcd (hok:Q0 a):∃Q,xo [a]=some (JZ [a],Q)/\Q0 (JZ [a]):=by
 have G:=hok.st0;obtain⟨z,E⟩:=QbF (aa:=[a]) (k:=a.st.toNat) (λb hb=>by rw[Lb.1 hb];exact hok) (λb hb=>by rw[Lb.1 hb];omega) (by have:=hok.st1;simp only[oL,Nat.pow_one];omega);have e:JZ [a]=z.1:=by unfold JZ;rw[E]
 rw[e];exact⟨z.2,E,(YQ (λb hb=>by rw[Lb.1 hb];exact hok) (A:=z.1) (Q:=z.2) E).1.okay (λb hb=>by rw[Lb.1 hb];exact hok)⟩
theorem yQ {q:AV}(h:X1 [] ↑w vl [q])(hok:Q0 q.a)(h9:q.a.st<=100):
  QR sV 16 [vl] w λr w'=>sW w w'/\∃v,r=.tuple #[v,.bool (nbl q.a).2,sS 0]/\Yr ↑w ↑w' v (nbl q.a).1:=by
 obtain⟨Q,hz,E⟩:=Qcd hok;have Y:=E.st0;have hk:=E.st1;have ho:(JZ [q.a]).mr.length<=4096:=by
  have:=xH (JZ [q.a]).st.toNat _ (E.mri.imp λhB e=>oa) λx hx=>oo (E.mr x hx)
  omega
 refine Zm func16 ?_;refine Qc<|x Qe<|x Qe<|Qb<|Qk<|Qv<|(yM h λp hp=>by rw[Lb.1 hp];exact h9).S ?_;rintro _ w1 ⟨hq,va,vt,c,rfl,hR⟩;have G:c=0/\YT ↑w ↑w1 va (JZ [q.a]):=by
  unfold Yz at hR;have hck:KR ([q].map (·.a))=0:=by
   show KR [q.a]=0;unfold KR ckL;rw[OT od,OT (by rw[(ZC _).2 hok];simp)];rfl
  rw[OT (by rw[hck];simp)]at hR;have hm:[q].map (·.a)=[q.a]:=rfl;rw[hm,hz]at hR;exact⟨hR.1,hR.2.1⟩
 obtain⟨rfl,hr,hs,ht,rfl,hu⟩:=G;have I:=hu [] od;refine Zg (JZ [q.a]) λS hS=>?_;have hw:nbl q.a=((bpt S (blkd S S.mr)).1,!(bpt S (blkd S S.mr)).2):=by unfold nbl;rw[hS]
 rw[hS]at I E Y hk ho;obtain⟨n,hn⟩:∃n:Nat,S.st=n:=⟨S.st.toNat,oa⟩;have hy:S.st.toNat=n:=oa
 have h0:∀x∈S.mr,0<=x/\x<(n:Int):=λx hx=>oo (E.mr x hx)
 rw[hw,hS];refine Qa<|QJ O O<|QJ O O<|QJ O O<|QN Yt λb5 w2 h1 h2 h3=>Q2 [hr,sS S.st,hs,ht] h3 ⟨I.al.one,O,I.mr.one,I.ed.one,Z⟩ λJ h4 U=>x Qe<|Qb ?_;have V:sW w1 J:=h1.Q h4 h2;have ha:=hq.D V;refine Qd<|Qk<|ZM O O<|xe<|ZD rfl<|Qf<|Qd<|ZL [] (Xg 0 12 [4,5,6]) ?_;have he:sW J { J with drawn:=J.drawn+1 }:=O5.X _ _
 have hf:=V.D he;refine pq (λ_ G=>Q7 (U.I G) O O)<|pq (λ_ G=>Q7 (U.I G) O O)<|p (QH O)<|pq (λ_ G=>Ql (U.I G) O O)<|pk<|xg<|(Qgb (w:={ J with drawn:=J.drawn+1 }) (I.I hf) E hn (I.mr.I hf) h0 oa).S ?_
 rintro _ w4 ⟨h5,b,f,rfl,hb,h6,h7⟩;have hg:=he.D h5;refine⟨hg,?_⟩;refine pk<|xg<|(Qeq h6 oa).S ?_;rintro v5 w5 ⟨h8,hh⟩;have hA:(((oJ n).filter λi=>decide (f i<0)).map λi:Nat=>(i:Int))=blkd S S.mr:=by
  unfold blkd;rw[hy];congr 1;exact Nx λi hi=>bD (h7 i (MB.1 hi))
 rw[hA]at hh;have T:=hg.D h8;refine⟨T,?_⟩;have hC:(blkd S S.mr).length<=4096:=by
  unfold blkd;rw[Ll];exact Lx (LJ _ _) (by rw[L9];omega)
 refine pk<|xg<|(QkD (I.I (V.D T)) E (Qi.ints hh oa od) (Qnh S Y _)).S ?_;rintro _ w6 ⟨hj,v,rfl,hv⟩;refine⟨T.D hj,?_⟩;refine p Qx<|p (λ_=>Q3 O O)<|p (λ_=>Q3 O O)<|p ZN<|p ZN<|pe ?_;refine Qk<|Qa<|x (Zl O)<|x Qe<|x Qe<|Qb<|Qh ⟨[v,_,sS 0],ox,(ha.D T).D hj,v,O,hv.S (ha.D T).size⟩
end Go.Lg
namespace Go.Proofs
open Go.Proofs.Tryz
open Go.Shelf
def Tryz.sortEd_ren:Go.Shelf.Ren:=⟨λ|6=>244|15=>141|14=>278|28=>220|29=>221|20=>300|21=>301|22=>302|23=>303|24=>304|25=>305|26=>306|27=>307|46=>318|47=>258|48=>259|49=>319|50=>320|57=>325|n=>n,λ|22=>51|24=>179|25=>345|3=>3|39=>246|0=>0|53=>317|55=>319|4=>4|46=>311|45=>310|50=>205|5=>5|9=>9|66=>363|70=>367|76=>389|77=>379|n=>n,λ|n=>n⟩
theorem Tryz.sortEd:Go.Proofs.SlLaysF0.n6 sV Tryz.sortEd_ren:=lyS
end Go.Proofs
namespace Go.Lg
open Go.Lg Go.Sort
abbrev Ez:={ x:Ed // (0<=x.1/\x.1<1099511627776)/\0<=x.2.1/\x.2.1<1099511627776 }
instance:Inhabited Ez:=⟨⟨(0,0,0),og⟩⟩
abbrev qW (x:Ez):LV:=[sS x.1.1,sS x.1.2.1,sS x.1.2.2]
abbrev EzO (base:Nat)(w:O1)(v:O2)(l:List Ez):Prop:=w.ownsRow base 179 3 v l.length (l.flatMap qW)
def ecf (x y:Ez):Int:=if x.1.1=y.1.1 then x.1.2.1 - y.1.2.1 else x.1.1 - y.1.1
theorem QqT (x y:Ez)(W:O1):Calls sV 310 #[sT (qW x),sT (qW y)] W λe w'=>e=.returned (sS (ecf x y))/\∃q os',w'=grow (W.drewN q) os':=by
 have E:IntKind.i64.wrap (x.1.1 - y.1.1)=x.1.1 - y.1.1:=XQ ⟨oq x.2 y.2,oq x.2 y.2⟩;have G:IntKind.i64.wrap (x.1.2.1 - y.1.2.1)=x.1.2.1 - y.1.2.1:=XQ ⟨oq x.2 y.2,oq x.2 y.2⟩
 go_enter func310,ntmps310
 go_wp2
 ·go_ret;rename_i h;exact⟨by rw[ecf,OT (ou h)];rfl,0,_,by rw[alloc_eq_grow,alloc_eq_grow,grow_grow];rfl⟩
 go_ret;rename_i h;exact⟨by rw[ecf,OU (ou h)];rfl,0,_,by rw[alloc_eq_grow,alloc_eq_grow,grow_grow];rfl⟩
theorem QqU (x y:Ez)(W:O1):Calls sV 245 #[sT (qW x),sT (qW y)] W λe w'=>e=.returned (sS (ecf x y))/\∃q os',w'=grow (W.drewN q) os':=by
 have E:IntKind.i64.wrap (x.1.1 - y.1.1)=x.1.1 - y.1.1:=XQ ⟨oq x.2 y.2,oq x.2 y.2⟩;have G:IntKind.i64.wrap (x.1.2.1 - y.1.2.1)=x.1.2.1 - y.1.2.1:=XQ ⟨oq x.2 y.2,oq x.2 y.2⟩
 go_enter func245,ntmps245
 go_wp2
 ·go_ret;rename_i h;exact⟨by rw[ecf,OT (ou h)];rfl,0,_,by rw[alloc_eq_grow,alloc_eq_grow,grow_grow];rfl⟩
 go_ret;rename_i h;exact⟨by rw[ecf,OU (ou h)];rfl,0,_,by rw[alloc_eq_grow,alloc_eq_grow,grow_grow];rfl⟩
theorem Qbb (x:Ez):(qW x).length=3:=rfl
theorem Qd8:∀l:List Ez,(l.flatMap qW).length=l.length*3
 | []=>rfl
 | x::l=>by rw[LK,Lc,Qd8 l,Qbb,LL];omega
theorem QfC {l:List Ez}(J:j<l.length*3):(l.flatMap qW)[j]?=some ((flatK qW 3 l.toArray)[j]!):=by
 have E:j / 3<l.length:=Nat.div_lt_of_lt_mul oa;have G:j % 3<3:=Nat.mod_lt _ og;rw[get_flatK _ _ _ _ (ou J)];have S:(l.flatMap qW)[j]?=(qW (l[j / 3]'E))[j % 3]?:=by
  rw[<-(Jf qW 3 Qbb l (j / 3) E),L2,OU G,MG];congr 1;omega
 rw[S];have T:(l.toArray)[j / 3]! = l[j / 3]'E:=by simp[E]
 rw[T];have I:j % 3<(qW (l[j / 3]'E)).length:=G;exact(LE I).D (OV some (getElem!_pos (qW (l[j / 3]'E)) (j % 3) I).symm)
theorem Qj3 (x y:Ez):ltOf ecf x y=true↔x.1.1<y.1.1\/x.1.1=y.1.1/\x.1.2.1<y.1.2.1:=by
 unfold ltOf ecf;rw[decide_eq_true_iff];split <;> omega
theorem Qbe (x y:Ez):ltOf ecf x y=false↔y.1.1<x.1.1\/y.1.1=x.1.1/\y.1.2.1<=x.1.2.1:=by
 rw[<-Bool.not_eq_true,Qj3];omega
theorem Qo8:SWO (ltOf ecf) where
 irrefl x:=by rw[Qbe];omega
 trans x y z h1 h2:=by rw[Qj3]at *;omega
 ntrans x y z h1 h2:=by rw[Qbe]at *;omega
theorem QlL [Inhabited α]{lt:α->α->Bool}{d E:Array α}(I:PermIn 0 d.size d E)(J:SortedIn lt 0 d.size E):E.toList.Perm d.toList/\E.toList.Pairwise (λx y=>lt y x=false):=by
 obtain⟨S,_,G⟩:=I;have e1:E.extract 0 d.size=E:=by rw[<-S];exact Array.extract_size
 rw[e1,Array.extract_size]at G;refine⟨G,?_⟩;rw[Mi];intro i j hi T U;have hi':i<E.size:=by simpa using hi
 have V:j<E.size:=by simpa using T
 have:=J i j (Lo _) U oa;rw[getElem!_pos E j V,getElem!_pos E i hi']at this;simpa using this
theorem QdA (eg:∀args w,(callFunc g args).run sV w=.ok (.enter g args) w)(hf:∀(x y:Ez) (W:O1),Calls sV g #[sT (qW x),sT (qW y)] W λe w'=>e=.returned (sS (ecf x y))/\∃q os',w'=grow (W.drewN q) os')
    {v:O2} {l:List Ez} (h:EzO base w v l) (hl:l.length<=1099511627776):
  QR sV 244 [v,.func (.func g) #[] #[]] w λ_ w'=>O5 (ob v) w w'/\∃l':List Ez,l'.Perm l/\l'.Pairwise (λx y=>ltOf ecf y x=false)/\EzO base w' v l':=by
 unfold QR;rcases h.2 with⟨rfl,h0⟩|⟨gb,cap,cur,rfl,hh,J,hm,ho,hq,hr⟩
 ·have hs:l=[]:=Lt h0;subst hs;have I:=AnyF.slices_SortFunc_none Tryz.sortEd none 0 (.func (.func g) #[] #[]) w;change Calls sV 244 _ _ _ at I;refine Calls.mono I λe w' S=>?_;obtain⟨rfl,rfl⟩:=S;exact⟨O5.Y _ _,[],List.Perm.refl _,List.Pairwise.nil,h⟩
 have V:gb<w.heap.size:=(LH.1 J).1;have hH:HoldsK qW 3 w gb 0 l.toArray:=by
  intro j E;rw[size_flatK,LW]at E;have Y:=QfC E;rw[<-hr,L2,OU E]at Y;constructor
  ·show(match w.heap[gb]? with|some (.cells c _ _)=>if(none:Option _).isSome then none else c[0+j]?|_=>none)=_
   rw[J];simp only[oX,Option.isSome_none,Ok,if_false];rw[<-MM,Y];rfl
  show(match w.heap[gb]? with|some (.cells _ _ (lo,hi))=>decide (lo<=0+j) && decide (0+j<hi)|_=>false)=false
  rw[J];simp
 have I:=AnyQ.slices_SortFunc Tryz.sortEd 3 isAgg179 sizeOf179 qW Qbb (λx v hv=>by simp at hv;rcases hv with rfl|rfl|rfl <;> rfl) ecf Qo8 g #[] gb 0 cap l.toArray w eg (λm os dk _ x y=>hf x y _) hH V (by simp;omega)
 change Calls sV 244 _ _ _ at I;rw[LW]at I;refine Calls.mono I λe w' S=>?_;obtain⟨rfl,G,n,os,hp,ht,rfl⟩:=S;have T:G.size=l.length:=by have:=hp.1;simpa using this
 have ha:=QlL (d:=l.toArray) (by rw[LW];exact hp) (by rw[LW];exact ht);have U:(sortWorldK qW 3 w gb 0 n G os).heap=w.heap.modify gb (onCells (putCells id 0 (flatK qW 3 G)))++os:=rfl;refine⟨⟨rfl,O,O,?_,λk hk hn=>?_⟩,G.toList,ha.1,ha.2,?_⟩
 ·rw[U,Nw,MD];omega
 ·rw[U,Mz,MD,OU hk,MW,OT (λe=>hn (by simp[ob,e]))]
 refine⟨Qd8 _,.inr ⟨gb,cap,putCells id 0 (flatK qW 3 G) cur,by simp[T],hh,?_,by simp[T];exact hm,ho,by simp[putCells,hq],?_⟩⟩
 ·rw[U,Mz,MD,OU V,MW,OU rfl,J];rfl
 apply Nn;intro j;rw[L2];by_cases E:j<G.toList.length*3
 ·rw[OU E,QfC E,MM];have hu:j<cur.size:=by simp[T]at E;omega
  have hw:j<(flatK qW 3 G).size:=by simpa using E
  simp only[putCells,Array.getElem?_mapIdx,Array.getElem?_eq_getElem hu,OD,Nat.zero_le,oX,true_and,OU hw,ON,id]
 rw[OT E,Mq];rw[Qd8];omega
theorem QjS:∀l:List Ez,(l.map (·.1)).flatMap Qp=l.flatMap qW
 | []=>rfl
 | x::l=>by rw[LS,LK,LK,QjS l];rfl
theorem QfB:∀l:List Ed,(∀e∈l,(0<=e.1/\e.1<1099511627776)/\0<=e.2.1/\e.2.1<1099511627776)->∃zs:List Ez,zs.map (·.1)=l
 | [],_=>⟨[],O⟩
 | e::l,h=>by
  obtain⟨zs,E⟩:=QfB l (λd hd=>h d (Lk _ hd));exact⟨⟨e,h e Lm⟩::zs,by rw[LS,E]⟩
abbrev QcG (x y:Ed):Prop:=x.1<y.1\/x.1=y.1/\x.2.1<=y.2.1
theorem ju (eg:∀args w,(callFunc g args).run sV w=.ok (.enter g args) w)(E:∀(x y:Ez) (W:O1),Calls sV g #[sT (qW x),sT (qW y)] W λe w'=>e=.returned (sS (ecf x y))/\∃q os',w'=grow (W.drewN q) os')
    {v:O2} {l:List Ed} (h:w.ownsRow base 179 3 v l.length (l.flatMap Qp)) (hl:l.length<=1099511627776) (hb:∀e∈l,(0<=e.1/\e.1<1099511627776)/\0<=e.2.1/\e.2.1<1099511627776):
  QR sV 244 [v,.func (.func g) #[] #[]] w λ_ w'=>O5 (ob v) w w'/\∃l':List Ed,l'.Perm l/\l'.Pairwise QcG/\w'.ownsRow base 179 3 v l'.length (l'.flatMap Qp):=by
 obtain⟨zs,rfl⟩:=QfB l hb;rw[Ll]at hl;rw[Ll,QjS]at h;refine(QdA eg E h hl).S λ_ _ ⟨G,l',I,J,S⟩=>⟨G,l'.map (·.1),I.map _,?_,by rw[Ll,QjS];exact S⟩;rw[Ma];refine J.imp λ{x y} T=>?_;have:=(Qbe y x).1 T;exact this
theorem Qas {v:O2}{l:List Ed}(h:w.ownsRow base 179 3 v l.length (l.flatMap Qp))(hl:l.length<=1099511627776)(hb:∀e∈l,(0<=e.1/\e.1<1099511627776)/\0<=e.2.1/\e.2.1<1099511627776):
  QR sV 283 [v] w λ_ w'=>O5 (ob v) w w'/\∃l':List Ed,l'.Perm l/\l'.Pairwise QcG/\w'.ownsRow base 179 3 v l'.length (l'.flatMap Qp):=by
 refine Zm func283 ?_;refine Qs<|Qa<|Qv<|(ju (enters_of func310 oc O) QqT h hl hb).S ?_;rintro G I E;refine xe ?_;exact⟨[],Z,E⟩
theorem Qgf {v:O2}{l:List Ed}(h:w.ownsRow base 179 3 v l.length (l.flatMap Qp))(hl:l.length<=1099511627776)(hb:∀e∈l,(0<=e.1/\e.1<1099511627776)/\0<=e.2.1/\e.2.1<1099511627776):
  QR sV 244 [v,.func (.func 245) #[] #[]] w λ_ w'=>O5 (ob v) w w'/\∃l':List Ed,l'.Perm l/\l'.Pairwise QcG/\w'.ownsRow base 179 3 v l'.length (l'.flatMap Qp):=
 ju (enters_of func245 oc O) QqU h hl hb
def cmF (c:Z2)(l:List (LI)):LI:=l.zipIdx.filterMap λp=>if(V7 c.ex c.cs p.1).2.2=true then some (p.2:Int) else none
theorem Qkk {c:Z2}{l:List (LI)}{k:Nat}(h:k<l.length):cmF c (l.take (k+1))=cmF c (l.take k)++(if(V7 c.ex c.cs (l[k]'h)).2.2=true then[(k:Int)]else[]):=by
 unfold cmF;rw[Lj h,List.zipIdx_append,List.filterMap_append];have e:0+(l.take k).length=k:=by rw[LC];omega
 rw[e];simp only[List.zipIdx_cons,List.zipIdx_nil,List.filterMap_cons,List.filterMap_nil];by_cases E:(V7 c.ex c.cs (l[k]'h)).2.2=true
 ·rw[OU E,OU E]
 rw[OT E,OT E]
theorem Qna (c:Z2)(l:List (LI)):(cmF c l).length<=l.length:=by
 unfold cmF;refine Lx (List.length_filterMap_le _ _) ?_;rw[List.length_zipIdx];exact Lp _
def QfN (c:Z2):Bool:=match xo (O7 c.co),xo (O7 c.co++O7 c.rq) with
 | some (pa,ps),some (_,ts)=>ts.all λt=>decide ((wrf c.rq (t.drop c.co.length) (enb pa (plx ps (t.take c.co.length)))).length<=1)
 | _,_=>false
def cmB (c:Z2):LI:=match xo (O7 c.co++O7 c.rq) with
 | some (sa,ts)=>cmF c (ts.map (·.take c.co.length))++[sa.st]
 | none=>[]
structure CmI (b2 base:Nat)(W:O1)(xa:O2)(st:Int)(xm vb ve:O2)(bad:LI)(es:List Ed):Prop where
 B:QL ↑W b2 53 [xa,sS st,xm,ve]
 b:Qi 3 base W vb bad
 e:W.ownsRow base 179 3 ve es.length (es.flatMap Qp)
 dj:Dj vb ve
 bd:∀e∈es,(0<=e.1/\e.1<1099511627776)/\0<=e.2.1/\e.2.1<1099511627776
theorem CmI.I {G base:Nat}{W W':O1}{xa:O2}{st:Int}{xm vb ve:O2}{bad:LI}{es:List Ed}(h:CmI G base W xa st xm vb ve bad es)(E:sW W W'):CmI G base W' xa st xm vb ve bad es :=
 ⟨h.B.I E,Qm h.b E,Qm h.e E,h.dj,h.bd⟩
theorem CmI.addB {W:O1}{xa:O2}{st:Int}{xm G:O2}{bad bad':LI}(h:CmI E base W xa st xm vb ve bad es)(hb:E<base)(I:O5 (ob vb) W W')(T:Qi 3 base W' G bad')(U:∀b∈ob G,b∈ob vb\/↑W<=b):CmI E base W' xa st xm G ve bad' es :=
 ⟨h.B.J I (QK h.b hb),T,Qg h.e I (λb hb V=>h.dj b V hb),λb Y J=>(U b Y).elim (λS=>h.dj b S J) (λS=>oo (QU h.e b J)),h.bd⟩
theorem CmI.addE {W W1:O1}{xa:O2}{st:Int}{xm I:O2}{bad:LI}{e:Ed}(h:CmI E base W xa st xm vb ve bad es)(hb:E<base)(Y:O5 (ob ve) W W1)(S:W1.ownsRow base 179 3 I (es.length+1) (es.flatMap Qp++Qp e))(hn:∀b∈ob I,b∈ob ve\/↑W<=b)
  (T:O5 [E] W1 W') (hB:QL ↑W' E 53 [xa,sS st,xm,I]) (he:(0<=e.1/\e.1<1099511627776)/\0<=e.2.1/\e.2.1<1099511627776):CmI E base W' xa st xm vb I bad (es++[e]):=by
 refine⟨hB,Qg (Qg h.b Y (λb hb G=>h.dj b hb G)) T (λb J G=>by have:=(Qj h.b b J).1;rw[Lb.1 G]at this;omega),?_,λb U ha=>(hn b ha).elim (λV=>h.dj b U V) (λV=>oo (QU h.b b U)),λd hd=>?_⟩
 ·have h9:=Qg S T (λb J G=>by have:=((Qj S) b J).1;rw[Lb.1 G]at this;omega);rw[Lc,LD];simpa using h9
 rcases Lh.1 hd with hd|hd
 ·exact h.bd d hd
 rw[Lb.1 hd];exact he
theorem CmI.stb {xa:O2}{st:Int}{xm:O2}{bad:LI}:Ye B (λW=>CmI G base W xa st xm vb ve bad es):=
 λW W' X h E hX=>⟨Ye.blk W W' X h.B E hX,Ye.row W W' X h.b E hX,Ye.row W W' X h.e E hX,h.dj,h.bd⟩
theorem Qde (h0:ZP [] ↑w c)(ko:Kb w 4096)(kq:YN c.C=0)(hf:(spc c.C).a.st<4096)(h1:QfN c.C=true):
  QR sV 183 [c.val] w λr w'=>sW w w'/\∃xa xm xe vb,r=.tuple #[.agg #[xa,sS ((spc c.C).a.st+1),xm,xe],vb,sS 0]/\Zv [xa,xm,xe]/\Qi 3 ↑w w' vb (cmB c.C):=by
 refine QR.of_G 20 func183 O ntmps183 results183 od ?_;refine QS<|Qy oh oh<|Za c.cells λb1 w1 pf hb1 kr=>QN qU λE w2 kt hb2 ku=>x Qe<|Qb ?_;have hO:=pf.D kt;have hl1:=kr.lt;have pg:=ku.lt;have ph:=kr.I kt;have kv:ZP [E] ↑w2 c:=(h0.up (L':=[E]) (λb hb=>.inr (by rw[Lb.1 hb];omega))).I hO;refine QS<|Qy oh oh<|QV ph O O<|Qv<|(QcW (h0.I hO) (ko.I hO)).S ?_;rintro r3 w3 ⟨gn,vp,rfl,_,pj⟩;obtain⟨b,q,rfl,rfl,S,_,pn⟩:=pj kq;rw[kq];have hz:=hO.D gn;have kw:JJ [E] b ↑w3 q:=(pn [E] (λx hx=>by rw[Lb.1 hx];exact pg)).2 kv;have hsp:=Qar S.p S.s;have hst':q.s.a.st<4096:=by rw[hsp]at hf;exact hf
 have po:cmB q.c.C=cmF q.c.C ((q.ts.map (·.2)).map (·.take q.c.C.co.length))++[q.s.a.st]:=by unfold cmB;rw[S.s]
 have pp:∀t∈q.ts.map (·.2),(wrf q.c.C.rq (t.drop q.c.C.co.length) (enb q.p.a (plx (q.qs.map (·.2)) (t.take q.c.C.co.length)))).length<=1:=λt ht=>by
  unfold QfN at h1;rw[S.p,S.s]at h1;exact OY (Mc.1 h1 t ht)
 have pt:(spc q.c.C).a.st=q.s.a.st:=by rw[hsp]
 rw[pt,po];refine Qa<|QJ O O<|QJ O O<|x Qe<|Qb<|QS<|QS<|Qy oh oh<|Qa<|ZM O O<|xe<|JX rfl<|Yb ?_;refine QS<|Qy oh oh<|Qa<|Z6 O<|Zc O<|Qq O kw.B O O<|QN [sS 0] λb6 w4 pu pw pz=>Qo<|Qw (j:=0) (u:=sS q.s.a.st) pz O O od rfl λG p0 kx=>xe ?_;have hP:sW w3 G:=pu.Q p0 pw;have hq:=kw.I hP;have hz3:=gn.size;have kz:=kx.lt;have p4:QL ↑G E 53 qU:=(ku.I gn).I hP;have hR:QL ↑G b6 3 [sS q.s.a.st]:=kx;have hst0:0<=q.s.a.st:=by
  have:=(YQ (λa Y=>by
   rcases Lh.1 Y with Y|Y
   ·exact YV (YP S.ok).co a Y
   exact YV (YP S.ok).rq a Y) S.s).1.st
  omega
 refine QS<|QS<|Qy oh oh<|ZE hR O O<|x (Yl O O)<|xe<|Qnu O (λk0=>OW (show q.s.a.st≥4096 from k0) oa) (λk0=>?_);refine Yb ?_;have go:sW G { G with drawn:=G.drawn+1 }:=O5.X _ _
 refine QS<|V4 (sW G) [oz 0,oz 1,oz 2,oz 3,oz 4,oz 6,oz 7,oz 8,oz 9,oz 10,oz 11,oz 12,oz 14,oz 15,oz 16,oz 17,oz 18,oA 5,oA 13,oA 19,oz 20,oA 21] mixed oh oh oc go ?_;refine p Qx<|p (YL O)<|p (QH O)<|p (QH O)<|pq (λ_ U=>Ql (hq.B.I U) O O)<|pq (λ_ U=>Ql (hR.I U) O O)<|p (λ_=>Xp O O ⟨oa,oa⟩)<|p Qx<|p (YL O)<|p (QH O)<|p (QH O) <|
  pq (λ_ U=>Ql (hq.B.I U) O O)<|p Qx<|p (YL O)<|p (QH O)<|p (QH O)<|pq (λ_ U=>Ql (hq.B.I U) O O)<|pk<|xg<|(ZZ (hq.s.al.I go)).S ?_
 rintro xa w6 ⟨p5,gq⟩;have gr:=go.D p5;refine⟨gr,?_⟩;refine pk<|xg<|(ZZ (hq.s.mr.I gr)).S ?_;rintro xm w7 ⟨p6,gs⟩;have hS:=gr.D p6;refine⟨hS,?_⟩;refine pk<|xg<|(yy (hq.s.ed.I hS)).S ?_;rintro hT w8 ⟨p7,hU⟩;have gt:=hS.D p7;refine⟨gt,?_⟩;refine p (λ_=>QE ⟨xM gq,O,xM gs,xM hU,Z⟩)<|pkk<|Uk [xa,sS (q.s.a.st+1),xm,hT] (p4.I gt) ⟨QC gq,O,QC gs,QC hU,Z⟩ λw9 k4 p8=>pe ?_;have k5:O5 [E] G w9:=gt.any.V k4;have hz7:=hS.size;have hA:E<G.heap.size:=oa
 have k6:=hq.st k5;have hX:Zv [xa,xm]:=⟨QC gq,QC gs,Z⟩;have p9:w9.ownsRow ↑G 179 3 hT q.s.a.ed.length (q.s.a.ed.flatMap Qp):=Qg (Zf hU oa) k4 (λb hb I=>by have:=(Qj hU b hb).1;rw[Lb.1 I]at this;omega);have hok:=YP S.ok;have hB:∀a∈O7 q.c.C.co++O7 q.c.C.rq,Q0 a:=λa Y=>by
  rcases Lh.1 Y with Y|Y
  ·exact YV hok.co a Y
  exact YV hok.rq a Y
 have gu:=(YQ hB S.s).1.okay hB;have qa:∀e∈q.s.a.ed,(0<=e.1/\e.1<1099511627776)/\0<=e.2.1/\e.2.1<1099511627776:=λe he=>by
  have h1:=gu.ed e he;have h2:=gu.al _ h1.2.2.1;omega
 have qe:CmI E ↑G w9 xa (q.s.a.st+1) xm Zs hT [] q.s.a.ed:=⟨p8,QM _ _ _ _,p9,λb hb=>(by cases hb),qa⟩;have k9:=zd hB S.s;have ma:=k9.1;have qf:=k9.2;simp only[]at ma qf;have hckc:=hok.c8;have hY:q.c.C.co.length=q.c.co.length:=Ll ..;have qj:q.c.C.rq.length=q.c.rq.length:=Ll ..;have hcr:=hok.cr;have ql:(O7 q.c.C.co++O7 q.c.C.rq).length=q.c.co.length+q.c.rq.length:=by rw[Lc];unfold O7;rw[Ll,Ll,hY,qj]
 refine QS<|QS<|Qy oh oh<|Qa<|Z6 O<|Qq O k6.B O O<|QG k6.ts.arr O<|Qa<|xe<|Zg ((q.ts.map (·.2)).map (·.take q.c.C.co.length)) λtcs gv=>?_;rw[gv];have htcl:tcs.length=q.ts.length:=by rw[<-gv,Ll,Ll]
 have hTn:q.ts.length<=4096:=by have h2:=(YQ hB S.s).1.st;have h3:(q.ts.map (·.2)).length=q.ts.length:=Ll ..;omega
 refine ZO<|KG (α:=Nat×O2×O2×List Ed) [(3,3),(7,16),(60,109)] (λz=>[(3,z.2.1),(60,sS z.1)])
  (λz ds W'=>z.1<=q.ts.length/\O5 [E] G W'/\KI ↑G ↑W' ds W'/\CmI E ↑G W' xa (q.s.a.st+1) xm z.2.1 z.2.2.1 (cmF q.c.C (tcs.take z.1)) z.2.2.2/\z.2.2.2.length<=131072+z.1)
  (λz=>q.ts.length - z.1) oh (0,Zs,hT,q.s.a.ed) ov ⟨Lo _,k5,⟨Ms,λD hD=>by cases hD⟩,qe,gu.ed_le⟩ ?_
 rintro⟨k,vb,ve,es⟩ g ds h4 ⟨hk,hC,mc,J,qm⟩;simp only[]at hk J qm;have hz10:=hC.size;have hZ:=Qna q.c.C (tcs.take k);rw[LC]at hZ;refine QS<|Qy oh oh<|ZX O O<|xe<|QS<|UO O (λmf=>?_) (λmf=>?_)
 ·refine JD ?_;rw[Lq oa]at J hZ;refine Zg (cmF q.c.C tcs) λbad ga=>?_;rw[ga]at J hZ;have gx:E∉ob ve:=QK J.e hA;have q0:E∉ob vb:=QK J.b hA;have gb:b6∉[E]:=ol
  have q4:b6∉ob ve:=QK J.e kz;have q5:b6∉ob vb:=QK J.b kz;refine QS<|Qy oh oh<|Qq O J.B O O<|Qv<|(Qgf J.e oa J.bd).S ?_;rintro r11 h5 ⟨hr,hj,hp,_,ho11⟩;refine xe ?_;have gc:=J.B.J hr gx;have gy:=(hR.J hC gb).J hr q4;have gz:=Qg J.b hr (λb hb I=>J.dj b hb I);have hz11:=hr.size;have hv:=Qj J.e;have hE:=Qj gz;have j1:KI ↑G ↑h4 ds h5:=mc.J hr (Go.Lg.Zb J.e);refine QS<|V4 (λw'=>O5 (E::ob vb) h5 w'/\QL ↑w' E 53 [xa,sS (q.s.a.st+1),xm,ve]/\QL ↑w' b6 3 [sS q.s.a.st]) [oz 0,oz 1,oz 2,oA 3,oA 4,oA 5,oz 6,oz 7] mixed oh oh oc ⟨O5.X _ _,gc.I (O5.X _ _),gy.I (O5.X _ _)⟩ ?_;refine pq (λ_ U=>Q7 U.2.1 O O)<|p Qx<|pq (λ_ U=>Ql U.2.2 O O)<|pk<|Q9 [[sS q.s.a.st]] λb116 g0 g4 hb116 j2=>?_;have h6:=(O5.X [] h5).D g4;have hz12:=h6.size;refine⟨⟨h6.any,gc.I h6,gy.I h6⟩,?_⟩;refine pk<|Q8 (m:=1) (news:=[sS q.s.a.st]) (L:=[]) (Qm gz h6) O O O (j2.at od) om oa oa λmg hG mh ge hn13=>?_;have gg:O5 (ob vb) h5 hG:=h6.any.V ge;have mj:=gc.J gg q0;have mo:=gy.J gg q5;refine⟨⟨gg.S (λb hb=>Lk _ hb),mj,mo⟩,?_⟩;refine pk<|Uk [xa,sS (q.s.a.st+1),xm,ve] mj ⟨hX.1,O,hX.2.1,QC J.e,Z⟩ λhg T mq=>?_;have g5:O5 (E::ob vb) h5 hg:=(gg.S (λb hb=>Lk _ hb)).V (T.S od);refine⟨⟨g5,mq,mo.J T gb⟩,?_⟩;refine p ZN<|p ZN<|pe ?_;have hw:KI ↑G ↑h4 ds hg:=j1.J g5 (λb hb=>by
   rcases Ln.1 hb with rfl|hb
   ·exact gc.cells
   exact Go.Lg.Zb gz b hb)
  have j3:E∉ds:=λI=>oo (hw.2 E I).1
  have hH:sW w hg:=(((hz.D hP).Q hC oa).O hr (λb hb=>.inr (oq (hv b hb).1 hz.size))).O g5 (λb hb=>.inr (by
   rcases Ln.1 hb with rfl|hb
   ·omega
   have:=(hE b hb).1;have:=hz.size;omega))
  refine JW ⟨λD hD=>(hw.2 D hD).2.2,hw.1,[.agg #[xa,sS (q.s.a.st+1),xm,ve],mg,sS 0],λW' g6=>?_⟩;refine⟨⟨Jl (mq.J g6 j3),O,O,Z⟩,hH.O g6 (λD hD=>.inr (oq (hw.2 D hD).1 hz.size)),xa,xm,ve,mg,O,⟨hX.1,hX.2.1,QC J.e,Z⟩,?_⟩;have h9:=Qi.snoc (Qg mh T (λb hb I=>by have:=(Qj mh b hb).1;rw[Lb.1 I]at this;omega));have ms:=Qg h9 g6 (λb hb I=>by
   obtain⟨o,g1,g2⟩:=Go.Lg.Zb h9 b hb;rw[(hw.2 b I).2.2]at g1;cases g1
   cases g2)
  rw[<-ga]at ms;exact Zf ms (oo hz.size)
 have hI:k<q.ts.length:=by have h62:(k:Int)<(q.ts.length:Int):=mf;omega
 have mt:k<tcs.length:=oa
 have hh:=Qkk (c:=q.c.C) mt;have j4:tcs[k]'mt=(q.ts[k]'hI).2.take q.c.C.co.length:=by subst gv;simp
 have gh:=Le hI;have hJ:=ma _ (LG (f:=(·.2)) gh);have hy:=pp _ (LG (f:=(·.2)) gh);rw[j4]at hh;refine Zg (cmF q.c.C (tcs.take k)) λbad ga=>?_;rw[ga]at J hZ hh;refine Zg (ob vb++ob ve) λav g7=>?_;have hE:=Qj J.b;have hv:=Qj J.e;have za:∀x∈av,↑G<=x/\x<h4.heap.size:=λx hx=>by
  rw[<-g7]at hx;exact(Lh.1 hx).elim (hE x) (hv x)
 have z0:JJ (E::av) b ↑G q:=hq.up (λx hx=>by
  rcases Ln.1 hx with rfl|hx
  ·exact .inl Lm
  exact .inr (za x hx).1)
 have gi:JJ (E::av) b ↑h4 q:=z0.st (hC.S od);refine Zg (cmF q.c.C (tcs.take (k+1))) λg8 mu=>?_;rw[mu]at hh;refine Yb<|Qf6 (α:=O2×O2×List Ed) [(3,3),(7,16),(61,109)] (λz=>[(3,z.1),(60,sS k)]) (λz h7 W'=>O5 [E] G W'/\KI ↑G ↑W' h7 W'/\CmI E ↑G W' xa (q.s.a.st+1) xm z.1 z.2.1 g8 z.2.2/\z.2.2.length<=131072+(k+1)) oh ?_ ?_
 rotate_left
 ·rintro⟨gj,hs,hj⟩ g h7 W ⟨z2,z3,z4,z5⟩;refine Qy oh oh<|QD O O<|Qa<|xe ?_;exact⟨(k+1,gj,hs,hj),oe,ov,hI,z2,z3,by simp only[];rw[mu];exact z4,z5⟩
 refine ZO<|QS<|Qy oh oh<|Qa<|O8 (g:=YI) Kv gi.ts.arr O O hI λa63 mv=>?_;refine Zg (q.ts[k]'hI) λt ht=>?_;rw[ht]at mv gh hJ hy hh;have htl:t.2.length=q.c.co.length+q.c.rq.length:=by rw[hJ.1,ql]
 refine x (Qr mv O)<|QN [sS 0] λb7 h5 hr hb7 hB7=>Qo<|Qw (j:=0) (u:=sS k) hB7 O O od rfl λg0 g4 hB712=>Qb ?_;have g9:sW h4 g0:=hr.Q g4 hb7;have hB712':QL ↑g0 b7 3 [sS k]:=hB712;refine QS<|Qy oh oh<|Qa<|Qa<|Qv<|(QbO (gi.I g9) ((gi.ts.each t gh).I g9) oa).S ?_;rintro r13 hG ⟨ge,v9,mw,rfl,ka,my⟩;refine Qa<|QJ O O<|QJ O O<|x Qe<|Qb ?_;have hK:=g9.D ge;have mz:=gi.I hK;rw[hY]at hy hh;refine Zg (t.2.take q.c.co.length) λtc gk=>?_;refine Zg (t.2.drop q.c.co.length) λtr m0=>?_;rw[gk]at ka hy hh;rw[m0]at my hy;have htcl2:tc.length=q.c.co.length:=by rw[<-gk,LC];omega
 have m1:∀x∈tc,0<=x/\x<4096:=λx hx=>(hJ.bd (m:=4096) (λa Y=>(hB a Y).st1)) x (L3 (by rw[gk];exact hx));have hVc:Vt (O7 q.c.C.co) tc:=by
  have h1:=hJ.take;rw[show(O7 q.c.C.co).length=q.c.co.length by unfold O7;rw[Ll];exact hY,gk]at h1;exact h1
 have hVr:Vt (O7 q.c.C.rq) tr:=by
  have h1:=hJ.drop;rw[show(O7 q.c.C.co).length=q.c.co.length by unfold O7;rw[Ll];exact hY,m0]at h1;exact h1
 have gl:JJ [] b ↑hG q:=mz.up od;have hvo:=qJ gl.k1 gl.k2 gl.k3 (ka.up (L':=[]) od) (by rw[S.ex,S.cs];exact hok.cd) hVc.tpOk;rw[S.ex,S.cs]at hvo;refine Zg (V7 q.c.C.ex q.c.C.cs tc) λV hV=>?_;rw[hV]at hvo hh;have kb:=J.I hK;have hz13:=hK.size;have m2:=hB712'.I ge;refine Qf6 (α:=O2) [(3,3),(11,14),(71,86)] (λz=>[(3,z)]) (λz h7 W=>h7=ds/\O5 (ob vb) hG W/\Qi 3 ↑G W z g8/\∀x∈ob z,x∈ob vb\/↑hG<=x) oh ?_ ?_
 ·refine QS<|Qy oh oh<|Qa<|Z6 O<|Zc O<|x (ZR (us:=[q.vs,q.vx,q.vk]) gl.B O O O)<|Qa<|Qv<|hvo.S ?_;rintro r14 hg ⟨T,rfl⟩;refine Qa<|QJ O O<|QJ O O<|QJ O O<|QJ O O<|x Qe<|x Qe<|x Qe<|Qb<|QS<|Qy oh oh<|Qa<|xe ?_;have m3:=Qm kb.b T;refine KH O (λkc=>?_) (λkc=>?_)
  ·rw[OU kc]at hh;refine Qy oh oh<|Qa<|ZE (m2.I T) O O<|Qo<|Q9 [[sS k]] λb85 y1 hn hb85 hB85=>?_;have zy1:=hn.size;have hz14:=T.size;refine Qo<|Q8 (m:=1) (news:=[sS k]) (L:=[]) (Qm m3 hn) O O O (hB85.at od) om oa oa λz y2 gm hL ke=>Qb<|⟨z,⟨rfl,Z⟩,rfl,(T.D hn).any.V hL,by rw[hh];exact Qi.snoc gm,λx hx=>(ke x hx).imp id (λh=>oa)⟩
  rw[OT (by rw[kc];decide),LF]at hh;refine Yb ?_;exact⟨vb,La,O,T.any,by rw[hh];exact m3,λx hx=>.inl hx⟩
 rintro gj g h7 hg ⟨rfl,T,hbO,hbn⟩;have hI14:=kb.addB hA T hbO hbn;have hz14:=T.size;have kf:∀x∈ob vb,x∈E::av:=λx hx=>Lk _ (by rw[<-g7];exact Lh.2 (.inl hx));have m4:∀x∈E::ob ve,x∈E::av:=λx hx=>by
  rcases Ln.1 hx with rfl|hx
  ·exact Lm
  exact Lk _ (by rw[<-g7];exact Lh.2 (.inr hx))
 have kg:=mz.st (T.S kf);have hI9a:=ka.st (T.S kf);have m5:=my.st (T.S kf);have hH:O5 [E] G hg:=(hC.D hK.any).O T (λx hx=>.inr (hE x hx).1);have hs014:sW w hg:=(hz.D hP).Q hH oa;have hn7b:b7∉ob vb:=λI=>oo (hE b7 I).2
 have gb:b6∉[E]:=ol
 have hw:KI ↑G ↑h4 h7 hg:=(mc.I hK).J T (Go.Lg.Zb kb.b);refine QS<|V4 (sW hg) [oz 0,oz 1,oz 2,oz 3,oz 4,oA 5,oz 6,oz 7] mixed oh oh oc (O5.X _ _) ?_;refine p Qx<|p (YL O)<|p (QH O)<|pq (λ_ U=>Ql (kg.B.I U) O O)<|p Qx<|pk<|xg<|(Qbm (hI9a.I (O5.X _ _)) ((ko.I hs014).I (O5.X _ _)) m1 oa).S ?_;rintro r15 w15 ⟨rfl,hs15⟩;have kh:=(O5.X [] hg).D hs15;refine⟨kh,?_⟩;have m6:(match xd q.mm (KO tc) with|some u=>u|none=>sS 0)=sS (plx (q.qs.map (·.2)) tc):=by
  rw[S.m tc htcl2 (λx hx=>(m1 x hx).1)];unfold plx;by_cases I:tc∈q.qs.map (·.2)
  ·rw[OU I,OU I]
  rw[OT I,OT I]
 have hM:=Qb7 S.ok S.p;have m7:=Qio hM.2.2.1 tc;refine Zg (plx (q.qs.map (·.2)) tc) λpi hpi=>?_;rw[hpi]at m6 hy m7;rw[<-hM.2.1]at m7;have hckp:cks q.p.a pi=0:=by
  unfold cks;rw[OT (by rw[(ZC q.p.a).2 hM.1];decide),OT oa]
 refine pq (λ_ U=>(Ji (k:=KO tc) (kg.m.I U) O O).D (OV (λv=>Result.ok (Next.value v) _) m6))<|p ZN<|pe ?_;refine QS<|Qy oh oh<|Qa<|Qa<|Qa<|Qv<|(qC (b:=b) (st:=pi) (vr:=mw) m5.cells).S ?_;rintro r16 h8 ⟨hs16,c1,c2,c3,rfl,hc1,kv,hc3,hR1,hR2,hR3⟩;refine xe ?_;have hu:=kh.D hs16;have hz1415:=kh.size;have hz16:=hu.size;have ki:=hI14.I hu;have hD16:=hw.I hu;have hB716:=(m2.J T hn7b).I hu;have hB616:=(hR.J hH gb).I hu;have hs516:O5 [E] G h8:=hH.D hu.any;refine Zg (wrf q.c.C.rq tr (enb q.p.a pi)) λfl kj=>?_;rw[kj]at hy;have kk:∀x∈E::ob ve,x<hg.heap.size:=λx hx=>by
  rcases Ln.1 hx with rfl|hx
  ·omega
  have:=(hv x hx).2;omega
 have hSt16:JJ (E::ob ve) b ↑h8 q:=(kg.I hu).up (λx hx=>.inl (m4 x hx));have hIr16:Qu (E::ob ve) ↑h8 mw tr:=(m5.I hu).up (λx hx=>.inl (m4 x hx));have hEv:∀p∈fl,0<=p.1/\p.1<32:=λp hp=>by
  rw[<-kj]at hp;have g1:=(zc.1 hp).1;unfold enb at g1;obtain⟨e,he,g2⟩:=Ly.1 g1;have g3:=hM.1.al _ (hM.1.ed e (ZH he).1).2.2.1;rw[g2]at g3;exact g3
 have hn7L:b7∉E::ob ve:=λI=>by
  rcases Ln.1 I with g1|g1
  ·omega
  have:=(hv b7 g1).2;omega
 have hn6L:b6∉E::ob ve:=λI=>by
  rcases Ln.1 I with g1|g1
  ·omega
  have:=(hv b6 g1).1;omega
 have gx:E∉ob ve:=QK J.e hA;have hb016:G.heap.size<=h8.heap.size:=oa
 have hel2:es.length+1<=1099511627776:=oa
 have hkb2:(0:Int)<=(k:Int)/\(k:Int)<1099511627776:=oa
 refine ZO<|Qdb (α:={ x:Int×Int // x∈fl }) (E::ob ve) oa (capt:=[sP c1,sP c2,sP c3]) O (encs:=λx=>[sS x.1.1,sS x.1.2]) og (λ_=>O)
  (Ue hR1 hR2 hR3 (λI=>oo (kk _ I)) (λI=>oo (kk _ I)) (λx hx=>oo (kk _ hx)) hSt16 hIr16 (λx hx=>hok.rq x.it (LG hx)) hVr hckp O kj)
  (λpre W=>∃hs hj,O5 (E::ob ve) h8 W/\CmI E ↑G W xa (q.s.a.st+1) xm gj hs g8 hj/\(pre=[]->hs=ve/\hj=es)/\hj.length<=es.length+pre.length)
  (λpre=>Ye.ex λhs=>Ye.ex λhj=>(Ye.J (Lp _)).and (CmI.stb.and ((Ye.pure _).and (Ye.pure _))))
  (λ_ _ _=>False) (λ_ _=>Ye.pure _)
  ⟨ve,es,O5.Y _ _,ki,λ_=>⟨O,O⟩,Lp _⟩
  (λf x f' W=>f'=upd (upd (upd f 98 (sS x.1.1)) 99 (sS x.1.2)) 16 (sS x.1.1)) (λx f'=>Ye.pure _) ?_ ?_ ?_ ?_
 ·rintro l pre ⟨⟨e,i⟩,he⟩ W hW;refine Qy oh oh<|Qb<|⟨O,XX.refl _ _ _,Lg.JE.refl _ _,hW,O⟩
 ·rintro l pre ⟨⟨e,i⟩,he⟩ f' W ⟨hs,hj,hf,ho,m8,hlen⟩ rfl hN;have m9:pre=[]:=Lt (Nat.lt_one_iff.1 (LR hN hy));rw[((m8 m9).1),((m8 m9).2)]at ho;have pc:=hf.size;have hee:=hEv _ he;refine ZO<|Qy oh oh<|Qq O ho.B O O<|ZE (hB716.J hf hn7L) O O<|Qa<|ZE (hB616.J hf hn6L) O O<|x (QE ⟨O,O,O,Z⟩)<|Qo<|Q9 [Qp ((k:Int),e,q.s.a.st)] λb106 y1 hn hb106 hB106=>?_;have zy1:=hn.size;refine Qo<|Q8 (m:=1) (news:=Qp ((k:Int),e,q.s.a.st)) (L:=[]) (Qm ho.e hn) O O O (hB106.at od) (by simp[Qp,Value.oneCell']) hel2 oa λu y2 gm hL ke=>?_;refine Zc O<|Qo<|Qw (u:=u) ((ho.B.I hn).J hL gx) O O od (QC gm) λy3 pd hB3=>xe ?_;have kn:O5 (E::ob ve) W y3:=(hn.any.V (hL.S λx hx=>Lk _ hx)).V (pd.S od);have hnw:∀x∈ob u,x∈ob ve\/↑W<=x:=λx hx=>(ke x hx).imp id (λh=>oa);refine⟨XX.J kn pc (λx hx=>⟨.inl hx,?_⟩),Lg.JE.J kn,u,es++[((k:Int),e,q.s.a.st)],hf.V kn,ho.addE hA (hn.any.V hL) gm hnw pd hB3 ⟨hkb2,oe⟩,λh=>OW h od,by simp only[oM,oL];omega⟩;rcases Ln.1 hx with rfl|hx
  ·exact ho.B.cells
  exact Go.Lg.Zb ho.e x hx
 ·rintro D xs W hD hxs ⟨hs,hj,hf,ho,_,hlen⟩ hdD;have hxl:xs.length=fl.length:=by have g1:=OV oU hxs;rw[Ll]at g1;exact g1
  have pc:=hf.size;refine⟨(gj,hs,hj),ov,hs516.O hf (λx hx=>?_),((hD16.J hf (λx hx=>?_)).up oa).cons oa (show ↑h8<=D from hD) hdD,ho,oe⟩
  ·rcases Ln.1 hx with rfl|hx
   ·exact .inl Lm
   exact .inr (hv x hx).1
  rcases Ln.1 hx with rfl|hx
  ·exact ki.B.cells
  exact Go.Lg.Zb ki.e x hx
 rintro D e pre W hD hSp hF;exact hF.elim
instance ayZi1:Ay sV 29 3 28 27:=⟨oc,oc⟩
theorem Qfb (p:Int×Int):∀u∈Q5 p,u.oneCell'=true:=by
 intro y E;simp only[Q5,oK,oH,or_false]at E;rcases E with rfl|rfl <;> rfl
instance ayAv1:Ay sV 23 5 5 1:=⟨underlying23,oc⟩
def nm1 (c k:Nat):ByteArray:=⟨#[UInt8.ofNat (c+k)]⟩
def KA (k n:Nat):KN:=if 48<=n/\n<52 then⟨nm1 97 k,false,false,false,(n:Int) - 47⟩else
 ⟨nm1 97 k,decide (((n &&& 1:Nat):Int)=1),decide (((n &&& 2:Nat):Int)=2),decide (((n &&& 4:Nat):Int)=4),0⟩
def Jz (ns:LN)(i:Nat):List KN:=(oJ i).map λk=>KA k (ns.getD k 0)
theorem Qec (ns:LN)(i:Nat):Jz ns (i+1)=Jz ns i++[KA i (ns.getD i 0)]:=by
 unfold Jz;rw[Nf,Lv];rfl
theorem Vv (ns:LN)(i:Nat):(Jz ns i).length=i:=by unfold Jz;simp
theorem Qdd (hn:ns.length=5)(hb:∀n∈ns,n<256):
  QR sV 82 [sT (bys ns)] w λr w'=>sW w w'/\w'.ownsRow ↑w 94 5 r (Jz ns 5).length ((Jz ns 5).flatMap Zo):=by
 refine Zm func82 ?_;refine Qc<|Za (bys ns) λb1 w1 ho hK hp=>Qb<|Qc<|Qb<|Qd<|Qc<|Qb<|QW (α:=Nat×O2) [(3,53)] (λz=>[(3,z.2),(4,sS z.1)]) (λz w'=>z.1<=5/\sW w1 w'/\w'.ownsRow ↑w1 94 5 z.2 (Jz ns z.1).length ((Jz ns z.1).flatMap Zo)) (λz=>5 - z.1) (0,Zs) ov
  ⟨Lo _,O5.Y _ _,QM _ _ _ _⟩ ?_
 rintro⟨k,v⟩ g w2 ⟨hk,V,S⟩;simp only[]at hk S;refine Qd<|Qk<|ZX O O<|xe<|Zr rfl (λh7=>?_) (λh7=>?_)
 ·refine Qt ?_;have hu:k=5:=by have h8:¬(k:Int)<5:=h7;omega
  rw[hu]at S;refine Qk<|Qb<|Qh ⟨[v],La,ho.D V,Zf S ho.size⟩
 have G:k<5:=by have h8:(k:Int)<5:=h7;omega
 have q:=qu (ns:=ns) (j:=0+k*1) oa;have ql:=Je hb (0+k*1);have hv:ns.getD (0+k*1) 0=ns.getD k 0:=by rw[show 0+k*1=k by omega]
 rw[hv]at q ql;have hq:=Qec ns k;have hL:=Vv ns k;refine Zg (ns.getD k 0) λn hw=>?_;rw[hw]at q ql hq;have hy:=hp.I V;refine Qf<|Qd<|Qn<|Qk<|x (Yh (k':=.u8) O ⟨oa,oa⟩)<|QD O O<|Qo<|Q9 [[.int .u8 ((97:Int)+(k:Int))]] λh0 w3 he hM h1=>?_;have h2:((97:Int)+(k:Int))=((97+k:Nat):Int):=oa
 have h3:QL ↑w3 h0 5 [.int .u8 ((97+k:Nat):Int)]:=by rw[<-h2];exact h1
 refine x (Qoi (n:=97+k) h3 oa O)<|x (QE ⟨O,Z⟩)<|Qo<|YU (us:=[.string ⟨#[]⟩,.bool false,.bool false,.bool false,sS 0]) O λI w4 h4 hN h5=>Q2 (Zo ⟨nm1 97 k,false,false,false,0⟩) h5 ⟨O,O,O,O,O,Z⟩ λw5 h6 hr =>
  xe ?_
 have hf:sW w2 w5:=(he.D h4).Q h6 (oo he.size);have J:=hy.I hf;have hO:=hf.size;have hP:=he.size;have hQ:=hp.lt;have hR:=V.size;have hg:b1∉[I]:=ol
 refine QX (α:=Unit) [(16,49)] (λ_=>[]) (λ_ w'=>O5 [I] w5 w'/\QL ↑w' I 94 (Zo (KA k n))) oh ?_ ?_
 ·refine QX (α:=Bool) [(16,25)] (λz=>[(25,.bool z)]) (λz w'=>w'=w5/\(z=true↔48<=n/\n<52)) oh ?_ ?_
  ·refine Qs<|Qa<|x (ZV (i:=k) O O G)<|ZE J O q<|xb (Yl O O) (λhh=>?_) (λhh=>?_)
   ·have hs:(48:Int)<=(n:Int):=hh;refine Qa<|Qa<|x (ZV (i:=k) O O G)<|ZE J O q<|ZX O O<|QB O<|xe<|⟨decide ((n:Int)<52),La,O,?_⟩;rw[decide_eq_true_eq];omega
   have hs:¬(48:Int)<=(n:Int):=hh;refine Qa<|Zq<|Kt<|QB O<|xe ?_;exact⟨false,La,O,⟨λh=>(by cases h),λh=>OW oa hs⟩⟩
  rintro z g6 T ⟨rfl,hz⟩;refine Q6 O (λY=>?_) (λY=>?_)
  ·have E:=hz.1 Y;refine Qs<|Qa<|x (ZV (i:=k) O O G)<|ZE J O q<|x (Yh (k':=.i64) O ⟨oa,oa⟩)<|x (Jq O O ⟨oa,oa⟩)<|Zc O<|Qo<|Qw hr O O od rfl λw7 U hj =>
    xe ?_
   refine⟨(),Z,U,?_⟩;unfold KA;rw[OU E];exact hj
  have E:¬(48<=n/\n<52):=λh=>by have:=hz.2 h;rw[this]at Y;cases Y
  have ha:sW T { T with drawn:=T.drawn+1 }:=O5.X _ _
  refine ZL [I] (Xg 0 21 [16,18,20])<|p Qx<|p (λ_=>ZV (i:=k) O O G)<|pq (λ_ E=>Ql (J.J E hg) O q)<|p (λ_=>U4 (a:=n) (b:=1) O O ql og)<|p (λ_=>Zd O O) <|
   p Qx<|p (λ_=>ZV (i:=k) O O G)<|pq (λ_ E=>Ql (J.J E hg) O q)<|p (λ_=>U4 (a:=n) (b:=2) O O ql og)<|p (λ_=>Zd O O) <|
   p Qx<|p (λ_=>ZV (i:=k) O O G)<|pq (λ_ E=>Ql (J.J E hg) O q)<|p (λ_=>U4 (a:=n) (b:=4) O O ql og)<|p (λ_=>Zd O O)<|?_
  refine p (QH O)<|pk<|Qw (hr.I ha) O O od rfl λw7 U hj=>⟨(ha.any (L:=[I])).V U,?_⟩;refine p (QH O)<|pk<|Qw hj O O od rfl λw8 ht h9=>⟨((ha.any (L:=[I])).V U).V ht,?_⟩;refine p (QH O)<|pkk<|Qw h9 O O od rfl λw9 hA hB=>pe ?_;refine⟨(),Z,(((ha.any (L:=[I])).V U).V ht).V hA,?_⟩;unfold KA;rw[OT E];exact hB
 rintro _ g6 T ⟨hC,hD⟩;have hE:sW w2 T:=hf.Q hC oa;refine Qs<|Qa<|QV hD O O<|Qo<|Q9 [Zo (KA k n)] λhS hT hF hU hG=>?_;have hm:=hE.D hF;have hV:=hm.size;refine Qo<|Q8 (news:=Zo (KA k n)) (L:=[]) (Qm S hm) O O O (hG.at od) (Qcz _) oa oa λhH hW hI hJ hX =>
  Qb<|Qs<|Qa<|QD O O<|Qb<|⟨(k+1,hH),oe,ov,G,(V.D hm).O hJ (λc E=>.inr (Qj S c E).1),?_⟩
 simp only[];rw[hq,Lc,LD];simpa using hI
def XZ (n m:Nat):LI:=(oJ n).map λk:Nat=>if k<m then(k:Int) else -1
theorem jV {k:Nat}(h:k<m):Z9 (Yu m) (k:Int)=k:=by
 unfold Z9 Yu;simp[oO,h]
theorem QqJ {fd R:LI}{t:Int}(G:fd=out++R)(E:t∈out):qV fd t=(out.idxOf t:Nat):=by
 subst G;unfold qV;rw[OU (LM _ E),L7,OU E]
theorem QoX {fd R:LI}{t:Int}(E:fd=out++[t]++R)(G:t∉out):qV fd t=(out.length:Nat):=by
 subst E;unfold qV;rw[OU od,LA,L7,OT G];simp
theorem jU {k:Nat}(h:k<n):Z9 (XZ n m) (k:Int)=if k<m then(k:Int) else -1:=by
 unfold Z9 XZ;simp[oO,h]
theorem QiU :(XZ n m).set m (m:Int)=XZ n (m+1):=by
 apply LX
 ·simp[XZ]
 intro k I G;have J:k<n:=by simpa[XZ]using G
 rw[M2];by_cases e:m=k
 ·subst e;simp[XZ]
 rw[OT e];simp only[XZ,List.getElem_map,List.getElem_range];by_cases E:k<m
 ·rw[OU E,OU oa]
 rw[OT E,OT oa]
theorem jD {R:Nat->List Ed}(hR:∀i,∀e∈R i,e.1=(i:Int))(j:Nat):∀n,QQ ((oN 0 n).flatMap R) j=if j<n then R j else[]
 | 0=>by simp[QQ]
 | n+1=>by
  have E:QQ (R n) j=if n=j then R n else[]:=by
   unfold QQ;by_cases e:n=j
   ·rw[OU e];exact NA.2 λx hx=>OX (by rw[hR n x hx,e])
   rw[OT e];exact MH.2 λx hx=>by rw[decide_eq_true_eq,hR n x hx];omega
  rw[Mm,LD,LU];unfold QQ at E ⊢;rw[LT];have ih:=jD hR j n;unfold QQ at ih;rw[ih];simp only[oT,OJ,Oo];rw[E];by_cases G:j<n
  ·rw[OU G,OT oa,OU oa,LF]
  rw[OT G];by_cases I:n=j
  ·subst I;rw[OU rfl,OU oa,Mv]
  rw[OT I,OT oa];rfl
theorem zt {s:Int}:∀(vs:LI) (out:LI),∃r,vs.foldl (Vy a s) out=out++r
 | [],out=>⟨[],od⟩
 | v::vs,out=>by
  rw[LO];obtain⟨r,E⟩:=zt vs (Vy a s out v);rw[E];unfold Vy;split
  ·exact⟨[nxt a.ed s v]++r,by rw[LA]⟩
  exact⟨r,O⟩
theorem zq:∀(f i:Nat) (out:LI),∃r,zr a f i out=out++r
 | 0,i,out=>⟨[],by simp[zr]⟩
 | f+1,i,out=>by
  rw[zr];split
  ·obtain⟨r,E⟩:=zq f (i+1) (fdR a out (O6 out i));obtain⟨r',G⟩:=zt (a:=a) (s:=O6 out i) a.al out;refine⟨r'++r,?_⟩;rw[E];unfold fdR;rw[G,LA]
  exact⟨[],od⟩
theorem zf {fd:LI}{i:Nat}:∀(vs out:LI) (c:Cs),(∃r,fd=vs.foldl (Vy a (O6 fd i)) out++r)->c.ord=Yu out.length->c.num=XZ fd.length out.length ->
  (vs.filterMap (Km a fd i)).foldl (Zx i) c=⟨Yu (vs.foldl (Vy a (O6 fd i)) out).length,XZ fd.length (vs.foldl (Vy a (O6 fd i)) out).length,c.mk',c.ed++vs.filterMap (Km a fd i)⟩
 | [],out,c,_,J,G=>by
  obtain⟨o,n,m,e⟩:=c;subst J G;simp
 | v::vs,out,c,E,J,G=>by
  rw[LO]at E ⊢;obtain⟨r,E⟩:=E;obtain⟨r2,hc⟩:=zt (a:=a) (s:=O6 fd i) vs (Vy a (O6 fd i) out v);have I:fd=Vy a (O6 fd i) out v++(r2++r):=by rw[<-LA,<-hc];exact E
  by_cases U:0<=nxt a.ed (O6 fd i) v
  ·have V:Km a fd i v=some ((i:Int),v,qV fd (nxt a.ed (O6 fd i) v)):=by unfold Km;rw[OU U]
   rw[Mk,V];simp only[];rw[LO];by_cases S:nxt a.ed (O6 fd i) v∈out
   ·have T:Vy a (O6 fd i) out v=out:=by unfold Vy;rw[OT (λh=>h.2 S)]
    rw[T]at E I ⊢;have hix:qV fd (nxt a.ed (O6 fd i) v)=(out.idxOf (nxt a.ed (O6 fd i) v):Nat):=QqJ I S;have he:=Me S;have ha:out.length<=fd.length:=by rw[I];simp
    have Y:Zx i c ((i:Int),v,qV fd (nxt a.ed (O6 fd i) v))=⟨c.ord,c.num,c.mk',c.ed++[((i:Int),v,qV fd (nxt a.ed (O6 fd i) v))]⟩:=by
     unfold Zx;simp only[];rw[G,hix,jU oa,OU he,OT oa]
    rw[Y,zf vs out ⟨c.ord,c.num,c.mk',c.ed++[((i:Int),v,qV fd (nxt a.ed (O6 fd i) v))]⟩ ⟨r,E⟩ J G];simp only[Of,Ov]
   have T:Vy a (O6 fd i) out v=out++[nxt a.ed (O6 fd i) v]:=by unfold Vy;rw[OU ⟨U,S⟩]
   rw[T]at E I ⊢;have hix:qV fd (nxt a.ed (O6 fd i) v)=(out.length:Nat):=QoX I S;have ha:out.length<fd.length:=by rw[I];simp
   have Y:Zx i c ((i:Int),v,qV fd (nxt a.ed (O6 fd i) v))=⟨Yu (out.length+1),XZ fd.length (out.length+1),c.mk',c.ed++[((i:Int),v,qV fd (nxt a.ed (O6 fd i) v))]⟩:=by
    unfold Zx;simp only[];rw[J,G,hix,jU ha,OT (Nat.lt_irrefl _),OU oa,Jw,U9];simp only[Oy];rw[QiU]
   rw[Y,zf vs (out++[nxt a.ed (O6 fd i) v]) _ ⟨r,E⟩ od od];simp only[Of,Ov]
  have V:Km a fd i v=none:=by unfold Km;rw[OT U]
  have T:Vy a (O6 fd i) out v=out:=by unfold Vy;rw[OT (λh=>U h.1)]
  rw[T]at E ⊢;rw[Mk,V];exact zf vs out c ⟨r,E⟩ J G
theorem Qkv (fd:LI)(i:Nat):YW a fd (i+1)=YW a fd i++(if O6 fd i∈a.mr then[(i:Int)]else[]):=by
 unfold YW;rw[Mm,LT,Lv,LU];by_cases h:O6 fd i∈a.mr <;> simp[h]
theorem Qkx (fd:LI)(i:Nat):Xe a fd (i+1)=Xe a fd i++a.al.filterMap (Km a fd i):=by
 unfold Xe;rw[Mm,LD,LU];simp
theorem QcU {fd:LI}(h:i<n):(i:Int)∈YW a fd n↔O6 fd i∈a.mr:=by
 unfold YW;simp only[Ol,Oi,Oh,decide_eq_true_eq];constructor
 ·rintro⟨k,⟨_,E⟩,G⟩;have:k=i:=oa
  subst this;exact E
 intro E;exact⟨i,⟨oa,E⟩,O⟩
theorem Qkw {fd:LI}(V:fd=xp a)(hp:fd.length<=a.st.toNat):∀(f g i:Nat) (out:LI),i<=out.length->zr a g i out=fd->i+g=a.st.toNat->fd.length<=i+f ->
  Xd (Y6 a) f i ⟨Yu out.length,XZ fd.length out.length,YW a fd i,Xe a fd i⟩=⟨Yu fd.length,XZ fd.length fd.length,YW a fd fd.length,Xe a fd fd.length⟩:=by
 have hf:(Y6 a).ed=Xe a fd fd.length:=by rw[V];rfl
 have hg:(Y6 a).mr=YW a fd fd.length:=by rw[V];rfl
 have done:∀(i:Nat) (out:LI),i<=out.length->out=fd->¬i<out.length->(⟨Yu out.length,XZ fd.length out.length,YW a fd i,Xe a fd i⟩:Cs)=⟨Yu fd.length,XZ fd.length fd.length,YW a fd fd.length,Xe a fd fd.length⟩:=by
  intro i out I E Y;have:i=fd.length:=by rw[<-E];omega
  rw[this,E]
 intro f;induction f with
 | zero =>
  intro g i out I E Y h4;obtain⟨r,G⟩:=zq (a:=a) g i out;rw[E]at G;have hl:fd.length=out.length+r.length:=by rw[G,Lc]
  have hh:r=[]:=Lt oa;rw[Xd];exact done i out I (by rw[G,hh,LF]) oa
 | succ f ih =>
  intro g i out I E Y h4;obtain⟨r,G⟩:=zq (a:=a) g i out;rw[E]at G;have hl:fd.length=out.length+r.length:=by rw[G,Lc]
  rw[Xd];simp only[Jw];by_cases hi:i<out.length
  ·rw[OU hi];obtain⟨J,rfl⟩:∃J,g=J+1:=⟨g - 1,oa⟩;rw[zr,OU hi]at E;have hj:O6 out i=O6 fd i:=by
    rw[G];unfold O6;simp[oO,Oa hi]
   rw[hj]at E;have U:i<fd.length:=oa
   have hk:QQ (Y6 a).ed (i:Int)=a.al.filterMap (Km a fd i):=by
    rw[hf];unfold Xe;rw[jD (λj e he=>by
     obtain⟨v,_,S⟩:=MR.1 he;unfold Km at S;split at S
     ·cases S;rfl
     cases S),OU U]
   have hm:Ym (Y6 a) i ⟨Yu out.length,XZ fd.length out.length,YW a fd i,Xe a fd i⟩=⟨Yu out.length,XZ fd.length out.length,YW a fd (i+1),Xe a fd i⟩:=by
    unfold Ym;simp only[];rw[jV hi,hg,Qkv];by_cases T:O6 fd i∈a.mr
    ·rw[OU ((QcU U).2 T),OU T]
    rw[OT (λh=>T ((QcU U).1 h)),OT T];simp
   have hn:qS (Y6 a) i ⟨Yu out.length,XZ fd.length out.length,YW a fd i,Xe a fd i⟩=⟨Yu (fdR a out (O6 fd i)).length,XZ fd.length (fdR a out (O6 fd i)).length,YW a fd (i+1),Xe a fd (i+1)⟩:=by
    unfold qS;rw[hm];simp only[];rw[jV hi,hk];obtain⟨r3,ha⟩:=zq (a:=a) J (i+1) (fdR a out (O6 fd i));rw[E]at ha;rw[zf a.al out ⟨Yu out.length,XZ fd.length out.length,YW a fd (i+1),Xe a fd i⟩ ⟨r3,ha⟩ rfl rfl,Qkx];rfl
   rw[hn];obtain⟨r4,ho⟩:=zt (a:=a) (s:=O6 fd i) a.al out;exact ih J (i+1) _ (by unfold fdR;rw[ho,Lc];omega) E oa oa
  rw[OT hi];have h5:zr a g i out=out:=by
   cases g with
   | zero=>rfl
   | succ g=>rw[zr,OT hi]
  exact done i out I (h5.symm.D E) hi
theorem Qku (E:Q0 a)(G:0<a.st):Xw (Y6 a)=Y6 a:=by
 have U:=QcT E G;have V:(Y6 a).st=((xp a).length:Int):=rfl;have I:(Y6 a).st.toNat=(xp a).length:=oa
 have h:=Qkw (a:=a) O ((yl E).1.len E.st0) (xp a).length a.st.toNat 0 (fd0 a) (Lo _) O oa oa;have J:fd0 a=[0]:=by unfold fd0;rw[OU G]
 rw[J]at h;have S:Z3 (Y6 a)=⟨Yu 1,XZ (xp a).length 1,YW a (xp a) 0,Xe a (xp a) 0⟩:=by
  unfold Z3;rw[I];have e:(oG (xp a).length (-1:Int)).set 0 0=XZ (xp a).length 1:=by
   apply LX
   ·simp[XZ]
   intro k Y h2;rw[M2];simp only[XZ,List.getElem_map,List.getElem_range,Oq];by_cases e:k=0
   ·subst e;simp
   rw[OT oa,OT oa]
  rw[e];simp[Yu,YW,Xe]
 unfold Xw;rw[OT oa];simp only[];rw[S,I];have T:Xd (Y6 a) (xp a).length 0 ⟨Yu 1,XZ (xp a).length 1,YW a (xp a) 0,Xe a (xp a) 0⟩=⟨Yu (xp a).length,XZ (xp a).length (xp a).length,YW a (xp a) (xp a).length,Xe a (xp a) (xp a).length⟩:=h;rw[T];simp only[Jw];rfl
theorem yd (E:Q0 a)(G:0<a.st):Kh (Y6 a)=true:=by
 unfold Kh;rw[Qku E G];simp[(ZC _).2 (Qbl E).1]
theorem GdA.can (h:GdA a):Kh a=true:=by
 obtain⟨I,E,G,rfl⟩:=h.c;exact yd E G
structure D25 (c:Z2):Prop where
 ev:c.ev.length=5/\XK c.ev=0
 c0:c.co.length≠0
 c3:c.co.length<=3
 r2:c.rq.length<=2
 co:∀x∈c.co,Xl x.nm=true/\GdA x.a/\∀e∈x.a.al,e<5
 rq:∀x∈c.rq,Xl x.nm=true/\GdA x.a/\∀e∈x.a.al,∃y∈c.co,e∈y.a.al
 nd:(c.co.map (·.nm)++c.rq.map (·.nm)).Nodup
 x2:c.ex.length<=2
 ex:∀x∈c.ex,Xl x.nm=true/\x.ls≠[]/\XB (szs c.co) none x.ls=0
 xn:(c.ex.map (·.nm)).Nodup
 k1:c.cs.length<=1
 cs:∀x∈c.cs,Xl x.nm=true/\XC (szs c.co) x=0
theorem QeO (n:Nat)(x:Int):x∈VB n↔0<=x/\x<(n:Int):=Kf n x
theorem QeP (n:Nat):YA (VB n):=QiZ n
theorem QaR {a b:LI}(ia:YA a)(ib:YA b)(h:∀e∈a,e∈b):(mns a b).length=0:=by
 refine Nat.eq_zero_of_not_pos λG=>?_;obtain⟨x,hx⟩:=List.exists_mem_of_length_pos G;have:=(Up ia ib x).1 hx;by_cases E:x∈a
 ·simp[E,h x E]at this
 simp[E]at this
theorem QfQ {nev:Nat}{amg:LI}{seen:List ByteArray}{x:X5}(G:Xl x.nm=true)(I:x.nm∉seen)(E:GdA x.a)(J:∀e∈x.a.al,e<(nev:Int))(hi:YA amg)(S:∀e∈x.a.al,e∈amg):Yx nev amg seen x=0:=by
 have V:=E.p;unfold Yx;rw[OT (by rw[G];decide),OT I,OT (by simpa using(ZC _).2 E.ok),OT (by rw[E.can];decide),OT oa,OT,OT (ou (QaR E.ok.ali hi S))];intro h;obtain⟨e,T,U⟩:=Ni.1 h;have:=J e T;have:=OY U;omega
theorem QfR {nev:Nat}{al:LI}(Y:YA al):∀(l:List X5) (s:List ByteArray) (u:LI),YA u->(∀x∈l,Xl x.nm=true/\GdA x.a/\∀e∈x.a.al,e<(nev:Int)/\e∈al)->(s++l.map (·.nm)).Nodup ->
  ∃I,Yy nev al s u l=(0,s++l.map (·.nm),I)/\YA I/\∀e,e∈I↔e∈u\/∃y∈l,e∈y.a.al
 | [],s,u,S,_,_=>⟨u,by simp[Yy],S,od⟩
 | x::l,s,u,S,hx,T=>by
  obtain⟨h1,U,h3⟩:=hx x Lm;have ha:x.nm∉s:=by
   intro hm;rw[LS,Mb]at T;exact T.2.2 _ hm _ Lm O
  obtain⟨I,k1,k2,k3⟩:=QfR Y l (s++[x.nm]) (mrg (· || ·) u x.a.al) (QaQ _ _ _ _ (Lp _) S U.ok.ali) (λy E=>hx y (Lk _ E)) (ou T);refine⟨I,?_,k2,λe=>?_⟩
  ·rw[Yy,OT (by simpa using(QfQ h1 ha U (λe V=>(h3 e V).1) Y (λe V=>(h3 e V).2))),k1];simp
  rw[k3,Up S U.ok.ali];constructor
  ·rintro(⟨G|G,_⟩|⟨y,E,J⟩)
   ·exact .inl G
   ·exact .inr ⟨x,Lm,G⟩
   exact .inr ⟨y,Lk _ E,J⟩
  rintro(G|⟨y,E,J⟩)
  ·exact .inl ⟨.inl G,by simp[G]⟩
  rcases Ln.1 E with rfl|E
  ·exact .inl ⟨.inr J,by simp[J]⟩
  exact .inr ⟨y,E,J⟩
theorem Qbk {nev:Nat}{u:LI}(I:YA u):∀(l:List X5) (s:List ByteArray),(∀x∈l,Xl x.nm=true/\GdA x.a/\∀e∈x.a.al,e<(nev:Int)/\e∈u)->(s++l.map (·.nm)).Nodup->Kk nev u s l=0
 | [],s,_,_=>rfl
 | x::l,s,hx,E=>by
  obtain⟨S,T,J⟩:=hx x Lm;have U:x.nm∉s:=by
   intro V;rw[LS,Mb]at E;exact E.2.2 _ V _ Lm O
  rw[Kk,OT (by simpa using(QfQ S U T (λe G=>(J e G).1) I (λe G=>(J e G).2)))];exact Qbk I l (s++[x.nm]) (λy Y=>hx y (Lk _ Y)) (ou E)
theorem j6 {sz:LI}:∀(l:List Exc) (s:List ByteArray),(∀x∈l,Xl x.nm=true/\x.ls≠[]/\XB sz none x.ls=0)->(s++l.map (·.nm)).Nodup->YM sz s l=0
 | [],s,_,_=>rfl
 | x::l,s,hx,E=>by
  obtain⟨G,I,J⟩:=hx x Lm;have S:x.nm∉s:=by
   intro T;rw[LS,Mb]at E;exact E.2.2 _ T _ Lm O
  have U:Vf s x.nm=0:=by unfold Vf;rw[OT (by rw[G];decide),OT S]
  have hl:x.ls.length≠0:=λh=>I (Lt h);have V:JS sz x.ls=0:=by unfold JS;rw[OT hl];exact J
  rw[YM,OT (ou U),OT (ou V)];exact j6 l (s++[x.nm]) (λy Y=>hx y (Lk _ Y)) (ou E)
theorem QiW:∀{k:Nat},k<5->Xl (nm1 97 k)=true
 | 0,_=>og
 | 1,_=>og
 | 2,_=>og
 | 3,_=>og
 | 4,_=>og
theorem UC {seen:List ByteArray}{k:Nat}(E:k<5)(G:nm1 97 k∉seen):X7 seen (KA k n)=0:=by
 have I:(KA k n).nm=nm1 97 k:=by unfold KA;split <;> rfl
 unfold X7;rw[I,OT (by rw[QiW E];decide),OT G];unfold KA;by_cases h:48<=n/\n<52
 ·rw[OU h];simp only[];rw[OT oa,OT od]
 rw[OT h];simp only[];rw[OT oa,OT od]
theorem QjY (ns:LN):XK (Jz ns 5)=0:=by
 have e:Jz ns 5=[KA 0 (ns.getD 0 0),KA 1 (ns.getD 1 0),KA 2 (ns.getD 2 0),KA 3 (ns.getD 3 0),KA 4 (ns.getD 4 0)]:=rfl;have E:∀k n,(KA k n).nm=nm1 97 k:=λk n=>by unfold KA;split <;> rfl
 unfold XK;rw[OT (by rw[Vv];decide),e];simp only[qG,E];rw[UC og og,UC og og,UC og og,UC og og,UC og og];simp
theorem D25.ck {c:Z2}(h:D25 c):Z0 c=0:=by
 have hc:=h.c3;have hf:=h.r2;have V:c.ev.length=5:=h.ev.1;obtain⟨u',k1,k2,k3⟩:=QfR (nev:=c.ev.length) (al:=VB c.ev.length) (QeP _) c.co [] [] List.Pairwise.nil (λx hx=>by
  obtain⟨G,E,I⟩:=h.co x hx;refine⟨G,E,λe J=>?_⟩;have:=I e J;have:=(E.ok.al e J).1;rw[V,QeO];exact⟨oa,oa,oa⟩) (by
  have:=h.nd;rw[Mb]at this;simpa using this.1)
 have Y:=Qbk (nev:=c.ev.length) k2 c.rq (c.co.map (·.nm)) (λx hx=>by
  obtain⟨G,E,I⟩:=h.rq x hx;refine⟨G,E,λe J=>?_⟩;obtain⟨y,T,S⟩:=I e J;have:=(h.co y T).2.2 e S;exact⟨oa,(k3 e).2 (.inr ⟨y,T,S⟩)⟩) h.nd
 unfold Z0;rw[OT (not_not_intro h.ev.2),OT h.c0,OT oa,k1];simp only[On];rw[OT od,OT (ou Y)];unfold Y4;have hg:(szs c.co).length=c.co.length:=by unfold szs;simp
 have hh:=h.x2;have hk1:=h.k1;have ha:¬(szs c.co).any X8=true:=by
  intro hb;obtain⟨n,G,E⟩:=Ni.1 hb;unfold szs at G;obtain⟨x,hx,rfl⟩:=Ly.1 G;have:=(h.co x hx).2.1;have I:=this.p;have S:=this.s;unfold X8 at E;simp at E;omega
 rw[OT oa,OT ha,OT oa,OT (by simpa using j6 c.ex [] h.ex (ou h.xn))];rcases U:c.cs with _|⟨x,l⟩
 ·rfl
 have hl:l=[]:=Lt (by rw[U,LL]at hk1;omega);obtain⟨G,E⟩:=h.cs x (by rw[U];exact Lm);have hz:Vf [] x.nm=0:=by unfold Vf;rw[OT (by rw[G];decide),OT od]
 rw[hl,Xm,OT (ou hz),OT (ou E)];rfl
theorem U0 {k:IntKind}[h:Ik P t k][h':St P E]{x:O3}{G:IntKind}(hx:ev f x=.int G n)(I:n<128):
  (execOp (ev f) ⟨d,.convert t E x,ty,pS,af,gd⟩).run P w=.ok (.value (.string ⟨#[UInt8.ofNat n]⟩)) w:=by
 refine zi hx ?_;rw[run_convert_int_string w t E G n (by rw[h.u];rfl) h'.u];have J:Utf8.valid (n:Int)=true:=by
  unfold Utf8.valid;simp;omega
 unfold Utf8.encode;simp only[J,if_true,Oy,I]
theorem Qie {x:O3}{k:IntKind}{a b:Int}(hx:ev f x=.int k a)(G:ev f y=.int k b)(hb:b≠0):
  (execOp (ev f) ⟨d,.binOp .rem t x y E,ty,pS,af,gd⟩).run P w=.ok (.value (.int k (a.tmod b))) w:=by
 refine J7 hx G ?_;simp[binOp,Op.intDiv,hb]
theorem QlZ {e bys:Nat}[h:Sl P t e sz bys z](ha:∀u∈z.cells,u.oneCell'=true){s:O3}{b o c:Nat}(J:QL ↑w b T cs)(G:∃E,ev f s=.slice (some ⟨b,E,none⟩) m c/\(0<m->E=o/\o+m*sz<=cs.length))
  (hK:∀w' cs',O5 [b] w w'->QL ↑w' b T cs'->cs'.length=cs.length->cs'.take o=cs.take o->K (QP f d (.tuple #[])) w'):XO P ⟨d,.call ⟨.builtin .clear,#[s],#[t]⟩,ty,pS,af,gd⟩ f w K:=by
 obtain⟨E,G,hm⟩:=G;obtain⟨i,hi,hz,hf,_⟩:=Sl.info h;have hc:=h.zs;rcases Nat.eq_zero_or_pos m with rfl|hmp
 ·have S:(execOp (ev f) ⟨d,.call ⟨.builtin .clear,#[s],#[t]⟩,ty,pS,af,gd⟩).run P w=.ok (.value (.tuple #[])) w:=by
   simp[execOp,resolve,invoke,builtin,G,Builtin.clear_,run_underlying h.u]
  exact xv S (hK w cs (O5.Y _ _) J O O)
 obtain⟨rfl,hg⟩:=hm hmp;have he:(Builtin.zeroCells z.cells m).toList.length=m*sz:=by simp[Builtin.zeroCells,hc]
 have U:=run_storeCells_at P b E T (Builtin.zeroCells z.cells m).toList 0 cs.toArray w J (by simp only[Od];omega) (λu V=>by
  simp only[Builtin.zeroCells,Array.toList_map,Ol]at V;obtain⟨j,hj,rfl⟩:=V;have hh:=h.pos;have Y:j % z.cells.size<z.cells.size:=Nat.mod_lt _ oa;rw[getElem!_pos z.cells _ Y];exact ha _ (Array.getElem_mem Y))
 simp only[Ox]at U;obtain⟨I,rfl⟩:∃I,m=I+1:=⟨m - 1,oa⟩;have S:(execOp (ev f) ⟨d,.call ⟨.builtin .clear,#[s],#[t]⟩,ty,pS,af,gd⟩).run P w=.ok (.value (.tuple #[])) (w.setRow b ((cs.take E++(Builtin.zeroCells z.cells (I+1)).toList++cs.drop (E+(Builtin.zeroCells z.cells (I+1)).toList.length))).toArray):=by
  simp[execOp,resolve,invoke,builtin,G,Builtin.clear_,run_underlying h.u,zeroValue,typeInfo,hi,hz]at U ⊢;simp[U]
 refine xv S (hK _ _ (O5.setRow _ _ _) (Jp J) ?_ ?_)
 ·simp only[oM,OG,OF,he];omega
 rw[LA,List.take_append_of_le_length (by simp;omega),List.take_take,Nat.min_self]
theorem Vc {α:Type}{sz:Nat}{g:α->LV}(E:∀x,(g x).length=sz):∀(l:List α) (i:Nat) (u:α),i<l.length->(l.set i u).flatMap g=(l.flatMap g).take (i*sz)++g u++(l.flatMap g).drop (i*sz+sz)
 | [],i,u,h=>OW h od
 | a::l,0,u,h=>by
  rw[List.set_cons_zero,LK,LK,Nat.zero_mul,NB,Mv,LU,List.drop_append_of_le_length (by rw[E a];exact Lp _),Lr (by rw[E a];exact Lp _),Mv]
 | a::l,i+1,u,h=>by
  have G:(i+1)*sz=(g a).length+i*sz:=by rw[E a,OO];omega
  have I:(i+1)*sz+sz=(g a).length+(i*sz+sz):=oa
  have J:∀(F:LV) k,(g a++F).take ((g a).length+k)=g a++F.take k:=λF k=>by rw[NC,Lq (l:=g a) oa,M1]
  have S:∀(F:LV) k,(g a++F).drop ((g a).length+k)=F.drop k:=λF k=>by rw[List.drop_append,Lr (l:=g a) oa,Mv,M1]
  rw[List.set_cons_succ,LK,LK,I,G,J,S,Vc E l i u (ou h)];simp only[Of]
theorem Qgv [h1:Ag P t sz]{g:α->LV}(E:∀x,(g x).length=sz){x:O3}{e b cap:Nat}{l:List α}{u:α}(h:w.ownsRow base e sz (sL b l.length cap) l.length (l.flatMap g))(hx:ev f x=.pointer (some ⟨b,i*sz,none⟩))(J:ev f y=sT (g u))(hi:i<l.length)(S:Zv (g u))
  (hK:∀w',O5 [b] w w'->w'.ownsRow base e sz (sL b l.length cap) l.length ((l.set i u).flatMap g)->K (QP f d undef) w'):XO P ⟨d,.store t x y,ty,pS,af,gd⟩ f w K:=by
 rcases h.2 with⟨e1,_⟩|⟨g',cap',cur,e1,T,U,G,V,Y,ha⟩
 ·cases e1
 cases e1
 have hB:QL ↑w b e cur.toList:=U;have hf:l.length*sz<=cap*sz:=MQ _ G;have hc:(i+1)*sz<=l.length*sz:=MQ _ hi;rw[OO]at hc;have I:cur.toList.length=cap*sz:=by rw[Array.length_toList];exact Y
 refine J9 hB hx J (E u) oa S O λw' hs he=>hK w' hs ⟨?_,.inr ⟨b,cap,_,O,T,he,G,V,?_,?_⟩⟩
 ·rw[Vc E l i u hi];simp only[oM,OG,OF,E u,h.1];omega
 ·simp only[Od,oM,OG,OF,E u,I];omega
 have hX:(cur.toList.take (i*sz)++g u).length=i*sz+sz:=by simp only[oM,OG,E u,I];omega
 rw[Vc E l i u hi,<-ha];show(cur.toList.take (i*sz)++g u++cur.toList.drop (i*sz+sz)).take (l.length*sz)=_;rw[NC,Lq oa,hX,List.take_take,MZ oa,List.drop_take]
theorem Qi0 (p:Int×Int)(w:O1):QR sV 88 [sT (Q5 p)] w λr w'=>r=.bool (decide (p.2=0))/\sW w w':=by
 refine Zm func88 ?_;refine Qc<|Za (Q5 p) λI J E S G=>Qb<|Qc<|Qq O G O O<|x (Zd O O)<|Qb<|Qh ⟨[_],La,O,E⟩
theorem Qmt [Fu sV gp fn]{q:(Int×Int)->Bool}{v:O2}{l:xw}(h:Zt L ↑w v l.length 2 (l.flatMap Q5))
  (G:∀e∈l,∀(E:O1),sW w E->QR sV gp ([sT (Q5 e)]++cap) E λr w'=>r=.bool (q e)/\sW E w'):
  QR sV 163 [v,.func (.func gp) #[] cap.toArray] w λr w'=>r=sS (fix q 0 l)/\sW w w' :=
 ixG ⟨_,O,func163⟩ Xc (ldA Xc) h G
theorem Qgm {e bys:Nat}[h:Sl P t e sz bys z]{x E:O3}{b cap:Nat}{k:IntKind}(hx:ev f x=sL b n cap)(hl:ev f E=.int k lo)(J:lo<=n):
  (execOp (ev f) ⟨d,.slice t x (some E) none none,ty,pS,af,gd⟩).run P w=.ok (.value (.slice (some ⟨b,if cap=lo then 0 else lo*sz,none⟩) (n - lo) (cap - lo))) w:=by
 obtain⟨i,hi',_,G,_⟩:=Sl.info h;have e2:(Instr.sliceBound (.int k lo) n .sliceB).run P w=.ok lo w:=YB J;by_cases I:cap=lo
 ·simp[execOp,hx,hl,Instr.sliceAt,Instr.slice,run_underlying h.u,Instr.sliceBounds,e2,sizeOf,typeInfo,hi',G,I]
 simp[execOp,hx,hl,Instr.sliceAt,Instr.slice,run_underlying h.u,Instr.sliceBounds,e2,sizeOf,typeInfo,hi',G,I,Addr.add];exact λe=>e.symm
theorem Qgn {e bys:Nat}[h:Sl P t e sz bys z]{x E:O3}{b cap:Nat}{k:IntKind}{hi:Nat}(hx:ev f x=sL b n cap)(G:ev f E=.int k hi)(I:hi<=cap):
  (execOp (ev f) ⟨d,.slice t x none (some E) none,ty,pS,af,gd⟩).run P w=.ok (.value (sL b hi cap)) w:=by
 obtain⟨i,hi',_,J,_⟩:=Sl.info h;have e2:(Instr.sliceBound (.int k hi) cap .sliceAcap).run P w=.ok hi w:=YB I;simp[execOp,hx,G,Instr.sliceAt,Instr.slice,run_underlying h.u,Instr.sliceBounds,e2,sizeOf,typeInfo,hi',Addr.add]
theorem jY {α:Type}(q:α->Bool):∀(l:List α) (i:Nat),(fix q i l=-1/\∀x∈l,q x=false)\/∃k,k<l.length/\fix q i l=((i+k:Nat):Int)/\l.take k=(l.take (k+1)).filter λx=>!q x
 | [],i=>.inl ⟨O,λx h=>by cases h⟩
 | a::l,i=>by
  rw[YD];by_cases h:q a=true
  ·rw[OU h];exact .inr ⟨0,od,od,by simp[h]⟩
  rw[OT h];have I:q a=false:=by simpa using h
  rcases jY q l (i+1) with⟨E,G⟩|⟨k,E,G,J⟩
  ·exact .inl ⟨E,λx hx=>by rcases Ln.1 hx with rfl|hx;exact I;exact G x hx⟩
  exact .inr ⟨k+1,ou E,by rw[G];congr 1;omega,by rw[Nd,Nd,L5,OU (by simp[I]),<-J]⟩
theorem Qfc {e b cap:Nat}(h:w.ownsRow base e sz (sL b n cap) n cs):n<=cap/\∃cur:LV,QL ↑w b e cur/\cur.length=cap*sz/\cur.take (n*sz)=cs:=by
 rcases h.2 with⟨e1,_⟩|⟨g',cap',cur,e1,S,E,G,T,I,J⟩
 ·cases e1
 cases e1
 exact⟨G,cur.toList,E,by rw[Array.length_toList];exact I,J⟩
theorem QlP {e b cap k:Nat}{E cur:LV}(h:w.ownsRow base e sz (sL b n cap) n cs)(U:k<=n)(G:QL ↑w' b e cur)(hl:cur.length=cap*sz)(I:cur.take (k*sz)=E)(J:E.length=k*sz):
  w'.ownsRow base e sz (sL b k cap) k E:=by
 rcases h.2 with⟨e1,_⟩|⟨g',cap',cur',e1,S,V,Y,T,ha,he⟩
 ·cases e1
 cases e1
 exact⟨J,.inr ⟨b,cap,cur.toArray,O,S,G,oa,T,by rw[LW];exact hl,I⟩⟩
theorem xG {α:Type}{sz:Nat}{g:α->LV}(E:∀x,(g x).length=sz):∀l:List α,(l.flatMap g).length=l.length*sz
 | []=>od
 | a::l=>by rw[LK,Lc,xG E l,E a,LL,OO];omega
theorem Qfa:∀(l:xw) (k:Nat),(l.flatMap Q5).take (k*2)=(l.take k).flatMap Q5
 | [],k=>od
 | a::l,0=>od
 | a::l,k+1=>by
  rw[show(k+1)*2=k*2+2 by omega,LK,Nd,LK,<-Qfa l k];rfl
abbrev nzT (l:xw):xw:=l.filter λp=>!decide (p.2=0)
theorem QmY {v:O2}{l:xw}(h:w.ownsRow base 193 2 v l.length (l.flatMap Q5))(hl:l.length<=1000):
  QR sV 87 [v,.func (.func 88) #[] #[]] w λr w'=>O5 (ob v) w w'/\w'.ownsRow base 193 2 r (nzT l).length ((nzT l).flatMap Q5):=by
 have hix:=Qmt (cap:=[]) (q:=λp=>decide (p.2=0)) (QO (L:=[]) h oa od) (λe _ V _=>Qi0 e V);have hr:=jY (λp:Int×Int=>decide (p.2=0)) l 0;rcases h.2 with⟨rfl,Y⟩|⟨g,cap,cur,rfl,hR,_⟩
 ·have h7:l=[]:=Lt Y;subst h7;refine Zm func87 ?_;refine Qc<|Qb<|Qk<|Qa<|Qv<|hix.S ?_;rintro r1 V ⟨rfl,G⟩;refine Qb<|Qd<|Qk<|x (Zd O O)<|xe<|Zi O (λ_=>?_) (λh8=>OW O h8);refine Qk<|Qb<|Qh ⟨[nS],La,G,Qm h G⟩
 obtain⟨hS,_⟩:=Qfc h;refine Zm func87 ?_;refine Qc<|Qb<|Qk<|Qa<|Qv<|hix.S ?_;rintro r1 V ⟨rfl,G⟩;refine Qb<|Qd<|Qk<|x (Zd O O)<|xe<|Zi rfl (λha=>?_) (λha=>?_)
 ·have h9:nzT l=l:=NA.2 λp hp=>by
   rcases hr with⟨_,h2⟩|⟨k,_,h2,_⟩
   ·have:=h2 p hp;simpa using this
   have hT:fix (λp:Int×Int=>decide (p.2=0)) 0 l=-1:=ha;omega
  refine Qk<|Qb<|Qh ⟨[sL g l.length cap],La,G.any,?_⟩;rw[h9];exact Qm h G
 refine Exists.elim (hr.resolve_left λa=>ha a.1) λT hc=>?_;have hs:fix (λp:Int×Int=>decide (p.2=0)) 0 l=(T:Int):=by have:=hc.2.1;omega
 refine Qf<|Qd<|Qk<|x (Xp (a:=(T:Int)) (b:=1) (OV sS hs) O ⟨oa,oa⟩)<|Qb<|QW (α:=Nat×Nat×xw) [(5,7),(16,35)] (λz=>[(5,sS z.1),(6,sS z.2.1)])
  (λz w'=>z.1<z.2.1/\z.2.1<=l.length/\z.2.2.length=l.length/\z.2.2.take z.1=nzT (l.take z.2.1)/\z.2.2.drop z.2.1=l.drop z.2.1/\O5 [g] w w'/\w'.ownsRow base 193 2 (sL g z.2.2.length cap) z.2.2.length (z.2.2.flatMap Q5))
  (λz=>l.length - z.2.1) (T,T+1,l) ⟨OV sS hs,O,Z⟩
  ⟨Nat.lt_succ_self _,hc.1,O,hc.2.2,O,G.any,Qm h G⟩ ?_
 rintro⟨i,j,ts⟩ g2 w2 ⟨hB,hj,hf,I,hg,ht,J⟩;simp only[]at hB hj hf I hg J;refine Qd<|Qk<|Qa<|x (jA O)<|ZX O O<|xe<|Zr rfl (λhh=>?_) (λhh=>?_)
 ·refine Qt ?_;have hC:j=l.length:=by have hD:¬(j:Int)<(l.length:Int):=hh;omega
  rw[hC,OI]at I;have hv:(nzT l).length=i:=by rw[<-I,LC];omega
  refine Exists.elim (Qfc J).2 λhU hw=>?_;have hE:=hw.1;have hF:=hw.2.2;refine Qk<|Qa<|x (Qgm (lo:=i) O O oa)<|Qo<|QlZ (m:=l.length - i) (o:=i*2) (λu hu=>by simp[Value.cells]at hu;rw[hu];rfl) hE ⟨_,O,λh=>⟨by rw[OT oa],oa⟩⟩ λw3 hV hk hG hW hH=>xe ?_;refine Qk<|Qa<|x (Qgn (hi:=i) O O oa)<|Qb<|Qh ⟨[sL g i cap],La,ht.V hk,?_⟩;rw[hv];refine QlP J oa hG oa ?_ ?_
  ·rw[hH,<-I,<-Qfa,<-hF,List.take_take,MZ oa]
  rw[xG Xc,hv]
 have E:j<l.length:=by have hD:(j:Int)<(l.length:Int):=hh;omega
 have hm:j<ts.length:=oa
 have hI:ts[j]'hm=l[j]'E:=by
  have U:=OV (λz=>z[0]?) hg;simp only[List.getElem?_drop,Ox,oV hm,oV E]at U;exact Option.some.inj U
 have hy:ts.drop (j+1)=l.drop (j+1):=by
  have U:=OV (List.drop 1) hg
  rwa [List.drop_drop,List.drop_drop]at U
 have S:nzT (l.take (j+1))=nzT (l.take j)++(if(l[j]'E).2=0 then[]else[l[j]'E]):=by
  unfold nzT;rw[Lj E,LT];by_cases Y:(l[j]'E).2=0 <;> simp[Y]
 have hA:=QO (L:=[]) J oa od;rw[show sL g ts.length cap=sL g l.length cap from by rw[hf]]at hA;refine Qf<|Qd<|Qn<|Qk<|Qa<|O8 Xc hA O O hm λhX hn=>?_;rw[hI]at hn;refine Zg (l[j]'E) λe he=>?_;rw[he]at hn S;refine x (QA hn O O)<|QN [sS 0,sS 0] λb7 w3 hk hJ hK=>Q2 (Q5 e) hK ov λw4 hL hz=>xe ?_;have hM:sW w2 w4:=hk.Q hL hJ;refine Qk<|QV hz O O<|Qo<|xc (first:=[]) (capt:=[]) O<|(Qi0 e w4).S ?_;rintro r5 w5 ⟨rfl,h3⟩;refine x (Zl O)<|xe ?_;have h4:=hM.D h3;have h5:=Qm J h4;have h6:O5 [g] w w5:=ht.D h4.any;refine Q6 rfl (λho=>?_) (λho=>?_)
 ·have hq:¬e.2=0:=by simpa using ho
  rw[OT hq]at S;have hN:w5.ownsRow base 193 2 (sL g ts.length cap) ts.length (ts.flatMap Q5):=h5;refine Qk<|Qa<|QV (hz.I h3) O O<|x (QF (i:=i) O O oa)<|Qo<|Qgv (u:=e) Xc hN (OV (λn=>Value.pointer (some ⟨g,n,none⟩)) (LU (i*2))) O oa ov λw6 hO hP =>
   xe ?_
  refine Qs<|Qa<|QD O O<|Qb<|Qs<|Qa<|QD O O<|Qb ?_;have hQ:(ts.set i e).length=ts.length:=MX;refine⟨(i+1,j+1,ts.set i e),oe,ov,oe,E,oe,?_,?_,h6.V hO,?_⟩
  ·simp only[];rw[S,<-I,List.set_eq_take_append_cons_drop,OU oa,NC,Lq (by rw[LC];omega),LC,MZ oa,M1,Nd,NB]
  ·simp only[];rw[List.drop_set_of_lt oa,hy]
  simp only[];rw[hQ];exact hP
 have hq:e.2=0:=by simpa using ho
 rw[OU hq,LF]at S;refine Qf<|Qs<|Qa<|QD O O<|Qb<|⟨(i,j+1,ts),oe,ov,oe,E,hf,by rw[S];exact I,hy,h6,h5⟩
end Go.Lg
