/- Merged out of 68 texts. -/
import Derived.Test.YtleldcnoenokmaaGreatDoorNcc
import Derived.Shelf.SortM.Plain
import Derived.Shelf.SortM.SortNone
import Derived.Shelf.SlicesE.Compact
import Derived.Shelf.SlicesE.DeleteFunc
import Derived.Ground.SlgmProg
import Derived.Ground.SlgnProg
import Derived.Ground.SlgfProg
import Derived.ChangeSame
import Derived.Carry
import Derived.OpenShut
import Derived.RowKit
import Derived.ChangeSlices
import Derived.WideShapes
import Derived.ProofKit
import Derived.ChangeArms
import Derived.Lib.LaidTab
import Derived.Stop.LaidErr
import Derived.MakeChecks
set_option maxHeartbeats 40000000
set_option maxRecDepth 100000
set_option linter.all false
open Go Go.Lg
open Go.Value renaming int->oF
open Go.IntKind renaming i64->oG
open _root_.List renaming mem_singleton->oI,not_mem_nil->oJ,mem_cons->oK,length_append->oM,replicate->oN,length_singleton->oO,length->oP,getD->oQ,all_cons->oR,range'->oS,range->oT,map_cons->oX,append_assoc->o0,length_drop->o6,length_take->Oa,length_map->Oc,size_toArray->Od,getElem?_eq_getElem->Oe,map_append->Og,nil_append->Oj,flatMap_cons->Om,singleton_append->Ov,mem_map->OA,mem_range'_1->OE,take_append->OH,map_nil->OI
open _root_.Bool renaming and_eq_true->oL,false_eq_true->OC
open _root_.Nat renaming zero_add->oY,add_mul->Oo,add_zero->Oz,lt_or_ge->OF,sub_zero->OG,le_succ->OL,zero_mul->OM,mod_lt->OO,zero_le->OP
open _root_.Array renaming getElem?_eq_getElem->Oh,getElem?_mapIdx->Ow
open _root_.Int renaming toNat_natCast->Ot
open _root_.Option renaming map_some->Ox,isSome_none->OB
open Go renaming World->OZ,Value->O0,Operand->O1,Program->O2
open Go.Proofs Go.Proofs.Tryz
variable {w w' W':OZ}{L L' X ds ns:LN}{n t i sz b T j E N g o id ty cap b1 B kt lo hi b2 bp G M gf gp:Nat}{cs us news capt:LV}{H:xx}{a:Zd}{α β:Type}{y:O1}{z va ve vm vt v' vs vl vb vx vk:O0}{l u al ul out rs:LI}{f f1:Fr}{c:ZG}{P:O2}{fn:Func}{lf:Lf}{s:Int}{es:List Ed}{d:xC}{af:xz}{gd:xo}{K:xu}{k':IntKind}{qs:List IV}{ops:xA}{rest:xp}{qx:List XV}{ks:List KV}
namespace Go.Lg
structure Vj (base:Nat)(w:OZ)(n:Nat)(f:Nat->O0)(g:Nat->List Ed):Prop where
 own:∀i,i<n->YB 213 base w (f i) (g i)
 dj:∀i j,i<n->j<n->i≠j->Dj (f i) (f j)
theorem Vj.app {base:Nat}{f:Nat->O0}{g:Nat->List Ed}{l:List Ed}(h:Vj base w n f g)(hi:i<n)(O:YB 213 base w' v' l)(S:O3 (ob (f i)) w w')
  (T:∀b∈ob v',b∈ob (f i)\/w.heap.size<=b):Vj base w' n (VT f i v') (VT g i l):=by
 refine⟨λj E=>?_,λj k E H G=>?_⟩
 ·by_cases e:j=i
  ·subst e;rw[Yk,Yk];exact O
  rw[YP _ _ e,YP _ _ e];exact Qf (h.own j E) S (h.dj j i E hi e)
 have key:∀j,j<n->j≠i->Dj v' (f j):=λj E e b V I=>by
  rcases T b V with J|J
  ·exact h.dj i j hi E (Ne.symm e) b J I
  have:=Zb (h.own j E) b I;omega
 by_cases e1:j=i
 ·subst e1;rw[Yk,YP _ _ (Ne.symm G)];exact key k H (Ne.symm G)
 rw[YP _ _ e1];by_cases e2:k=i
 ·subst e2;rw[Yk];exact(key j E e1).symm
 rw[YP _ _ e2];exact h.dj j k E H G
theorem Vj.J {base:Nat}{f:Nat->O0}{g:Nat->List Ed}(h:Vj base w n f g)(E:O3 X w w')(G:∀i,i<n->∀b∈ob (f i),b∉X):Vj base w' n f g :=
 ⟨λi hi=>Qf (h.own i hi) E (G i hi),h.dj⟩
theorem Vj.I {base:Nat}{f:Nat->O0}{g:Nat->List Ed}(h:Vj base w n f g)(E:O3 [] w w'):Vj base w' n f g:=h.J E (λ_ _ _ _=>oe)
def yH (es:List Ed)(s:Nat):List Ed:=Yc es (s:Int)
theorem QfL (es:List Ed)(e:Ed)(E:0<=e.1):VT (yH es) e.1.toNat (yH es e.1.toNat++[e])=yH (es++[e]):=by
 funext s;unfold yH Yc;rw[LZ];by_cases h:s=e.1.toNat
 ·subst h;rw[Yk];have:e.1=(e.1.toNat:Int):=oa
  simp[<-this]
 rw[YP _ _ h];have:¬e.1=(s:Int):=oa
 simp[this]
theorem Qbv (es:List Ed)(s:Nat):(yH es s).length<=es.length:=K5 es _
def QdW (num:LI)(m:List (Int×O0)):Prop:=∀s:Nat,s<num.length->O8 m (s:Int)=if O4 num s<0 then none else some (oF oG (O4 num s))
theorem Vr (l:LI)(k:Int):Jk l k=O4 l k.toNat:=rfl
structure KU (b4 mb:Nat)(r2:O0)(wS:OZ)(c:Cs)(m:List (Int×O0))(vo vk ve:O0)(w:OZ):Prop where
 st:O3 [b4,mb] wS w
 B4:Q7 w.heap b4 61 [r2,oF oG 0,vk,ve]
 M:Yd VY w.heap mb m
 nm:QdW c.num m
 o:Qu 3 wS.heap.size w vo c.ord
 k:Qu 3 wS.heap.size w vk c.mk'
 e:YB 213 wS.heap.size w ve c.ed
 d1:Dj vo vk
 d2:Dj vo ve
 d3:Dj vk ve
section
variable {b4 mb:Nat}{r2:O0}{wS:OZ}{c:Cs}{m:List (Int×O0)}{vo:O0}{w'':OZ}
theorem KU.I (h:KU b4 mb r2 wS c m vo vk ve w)(E:O3 [] w w'):KU b4 mb r2 wS c m vo vk ve w' :=
 ⟨h.st.D E,h.B4.I E,h.M.I E,h.nm,Qp h.o E,Qp h.k E,Qp h.e E,h.d1,h.d2,h.d3⟩
theorem KU.setK (h:KU b4 mb r2 wS c m vo vk ve w)(T:b4<wS.heap.size)(lm:mb<wS.heap.size)(ne:mb≠b4){H:O0}(I:O3 (ob vk) w w')(J:Qu 3 wS.heap.size w' H l)
  (O:∀b∈ob H,b∈ob vk\/w.heap.size<=b) (G:O3 [b4] w' w'') (S:Q7 w''.heap b4 61 [r2,oF oG 0,H,ve]):KU b4 mb r2 wS ⟨c.ord,c.num,l,c.ed⟩ m vo H ve w'' :=
 ⟨(h.st.then I (λb E=>.inr (Qi h.k b E).1)).then G (λb E=>.inl (by simp at E;simp[E])),S,(h.M.J I (QT h.k lm)).J G (oz ne),h.nm,
  Qf (Qf h.o I h.d1) G (λb E=>by have:=(Qi h.o b E).1;simp;omega),Qf J G (λb E=>by have:=(Qi J b E).1;simp;omega),
  Qf (Qf h.e I h.d3.symm) G (λb E=>by have:=(Qi h.e b E).1;simp;omega),h.d1.grow O (Zb h.o),h.d2,(h.d3.symm.grow O (Zb h.e)).symm⟩
theorem KU.setE (h:KU b4 mb r2 wS c m vo vk ve w)(T:b4<wS.heap.size)(lm:mb<wS.heap.size)(ne:mb≠b4){H:O0}{l:List Ed}(I:O3 (ob ve) w w')(J:YB 213 wS.heap.size w' H l)
  (O:∀b∈ob H,b∈ob ve\/w.heap.size<=b) (G:O3 [b4] w' w'') (S:Q7 w''.heap b4 61 [r2,oF oG 0,vk,H]):KU b4 mb r2 wS ⟨c.ord,c.num,c.mk',l⟩ m vo vk H w'' :=
 ⟨(h.st.then I (λb E=>.inr (Qi h.e b E).1)).then G (λb E=>.inl (by simp at E;simp[E])),S,(h.M.J I (QT h.e lm)).J G (oz ne),h.nm,
  Qf (Qf h.o I h.d2) G (λb E=>by have:=(Qi h.o b E).1;simp;omega),Qf (Qf h.k I h.d3) G (λb E=>by have:=(Qi h.k b E).1;simp;omega),
  Qf J G (λb E=>by have:=(Qi J b E).1;simp;omega),h.d1,h.d2.grow O (Zb h.o),h.d3.grow O (Zb h.k)⟩
theorem KU.setN (h:KU b4 mb r2 wS c m vo vk ve w)(lm:mb<wS.heap.size)(ne:mb≠b4){H:List (Int×O0)}(G:O3 [mb] w w')(hM:Yd VY w'.heap mb H)(I:QdW l H):KU b4 mb r2 wS ⟨c.ord,l,c.mk',c.ed⟩ H vo vk ve w' :=
 ⟨h.st.then G (λb E=>.inl (by simp at E;simp[E])),h.B4.J G (oz ne.symm),hM,I,Qf h.o G (λb E=>by have:=(Qi h.o b E).1;simp;omega),
  Qf h.k G (λb E=>by have:=(Qi h.k b E).1;simp;omega),Qf h.e G (λb E=>by have:=(Qi h.e b E).1;simp;omega),h.d1,h.d2,h.d3⟩
theorem KU.setO (h:KU b4 mb r2 wS c m vo vk ve w)(I:b4<wS.heap.size)(lm:mb<wS.heap.size){G:O0}(E:O3 (ob vo) w w')(J:Qu 3 wS.heap.size w' G l)
  (H:∀b∈ob G,b∈ob vo\/w.heap.size<=b):KU b4 mb r2 wS ⟨l,c.num,c.mk',c.ed⟩ m G vk ve w' :=
 ⟨h.st.then E (λb O=>.inr (Qi h.o b O).1),h.B4.J E (QT h.o I),h.M.J E (QT h.o lm),h.nm,J,Qf h.k E h.d1.symm,Qf h.e E h.d2.symm,
  (h.d1.symm.grow H (Zb h.k)).symm,(h.d2.symm.grow H (Zb h.e)).symm,h.d3⟩
end
theorem QdW.set {num:LI}{m:List (Int×O0)}(h:QdW num m){k:Nat}(G:k<num.length){v:Int}(H:0<=v):QdW (num.set k v) (O9 m (k:Int) (oF oG v)):=by
 intro s E;rw[Mk]at E;rw[Xn];by_cases e:s=k
 ·subst e;have:O4 (num.set s v) s=v:=by unfold O4;simp[oQ,G]
  rw[OS rfl,this,OR oa]
 rw[OR oa];have:O4 (num.set k v) s=O4 num s:=by unfold O4;simp[oQ,List.getElem?_set_ne (Ne.symm e)]
 rw[this];exact h s E
theorem Qbi (i:Nat)(c:Cs)(m:LI)(e:Ed):ZQ i ⟨c.ord,c.num,m,c.ed⟩ e=⟨(ZQ i c e).ord,(ZQ i c e).num,m,(ZQ i c e).ed⟩/\(ZQ i c e).mk'=c.mk':=by
 unfold ZQ;split <;> exact⟨U,U⟩
theorem QaK (i:Nat):∀(l:List Ed) (c:Cs) (m:LI),l.foldl (ZQ i) ⟨c.ord,c.num,m,c.ed⟩=⟨(l.foldl (ZQ i) c).ord,(l.foldl (ZQ i) c).num,m,(l.foldl (ZQ i) c).ed⟩/\(l.foldl (ZQ i) c).mk'=c.mk'
 | [],c,m=>⟨U,U⟩
 | e::l,c,m=>by
  have E:=Qbi i c m e;have G:=QaK i l (ZQ i c e) m;rw[L4,L4,E.1,G.1];exact⟨U,G.2.D E.2⟩
theorem ja (i:Nat)(c:Cs)(e:Ed):∃r,(ZQ i c e).ord=c.ord++r:=by
 unfold ZQ;split
 ·exact⟨_,rfl⟩
 exact⟨[],oe⟩
theorem Qb0 (i:Nat):∀(l:List Ed) (c:Cs),∃r,(l.foldl (ZQ i) c).ord=c.ord++r
 | [],c=>⟨[],oe⟩
 | e::l,c=>by
  obtain⟨E,G⟩:=ja i c e;obtain⟨r2,H⟩:=Qb0 i l (ZQ i c e);exact⟨E++r2,by rw[L4,H,G,LB]⟩
theorem QfM {c:Cs}(hi:i<c.ord.length):yI a i c=YW a i ((Yc a.ed (O4 c.ord i)).foldl (ZQ i) c):=by
 unfold yI;rw[Vr,MO];obtain⟨r,E⟩:=Qb0 i (Yc a.ed (O4 c.ord i)) c;have G:=(QaK i (Yc a.ed (O4 c.ord i)) c c.mk').2;unfold YW;have H:Jk ((Yc a.ed (O4 c.ord i)).foldl (ZQ i) c).ord (i:Int)=Jk c.ord (i:Int):=by
  rw[Vr,Vr,E];simp only[Ot];exact yo hi
 rw[H];split
 ·rw[(QaK i _ c _).1,G]
 rfl
theorem zK {q:Pz}(hA:PzA [] w.heap bp q)(hq:PzQ q)(hB:Q7 w.heap q.bl 4 (lf.map Value.bool))(hl:lf.length=q.n):
  Q5 prog 187 [.pointer (some ⟨bp,0,none⟩)] w λr w'=>O3 [] w w'/\∃v o,r=.tuple #[v,o]/\Jo w.heap.size w'.heap v (Qho q.a lf)/\o.oneCell'=true:=by
 have hn:=hq.n;have hst1:=hq.ok.st1;have kf:=hq.ok.ed_le;have ph:=QfK hq.ok lf;have Y:Qho q.a lf=if q.a.st=0\/lft lf 0=false then⟨q.a.al,0,[],[]⟩else KT (rstr q.a lf):=rfl
 refine Zk (Qho q.a lf) λSA pj=>?_;rw[pj]at Y ⊢;refine Zs func187 ntmps187 results187 ?_;refine Qe<|Qa<|Qo (us:=[nS,oF oG 0,nS,nS]) U λb2 w1 kg hb2 h9=>Qc ?_;have hl2:=h9.lt;have kh:=hA.I kg;refine Qm<|Yb U<|Q0 U<|Qs U kh.B U U<|Qa<|xf<|(ZU kh.a.al).mono ?_;rintro r2 w2 ⟨hM,hw⟩;have hz2:=hM.size;have hN:=Qu.ints (L:=[]) hw hA.a.al.le oe;refine x (Qz ⟨hN.cells,Z⟩)<|Qa<|Qo (us:=[nS,oF oG 0,nS,nS]) U λb4 w3 pm pn hC =>
  Qa<|Qj (us:=[r2,oF oG 0,nS,nS]) hC U U U U ⟨hN.one,U,U,U,Z⟩ λw4 po hC=>xe ?_
 have T:O3 [] w2 w4:=pm.O po pn;have ha:=kg.D hM;have hD:=ha.D T;have hl4:=hC.lt;have hz24:=T.size;have gk:=hA.I hD;have pp:∀b∈ob r2,b<w2.heap.size:=Zb hw;refine Qd<|Q3 (α:=Bool) [(22,36)] (λz=>[(36,.bool z)]) (λz w'=>w'=w4/\(z=true↔(q.a.st=0\/lft lf 0=false))) ol ?_ ?_
 ·refine Qw<|Qb<|Yb U<|Q0 U<|Qs U gk.B U U<|xb (Q9 U U) (λgl=>?_) (λgl=>?_)
  ·refine Qb<|Qr<|Qr<|Qr<|Qr<|Qr<|Qr<|Qr<|QK U<|xe ?_;exact⟨_,La,U,by simp[gl]⟩
  have gm:(0:Int).toNat<lf.length:=by
   have:0<q.n:=oa
   simp;omega
  have gn:=qb (l:=lf) (s:=0) gm;refine Qb<|Qb<|Yb U<|Qs U gk.B U U<|x (ZB (i:=0) U U (by simp at gm;omega))<|x (v:=.bool (lft lf 0)) ((JS (i:=0) (hB.I hD) U gm).D (by rw[<-gn];rfl))<|x (Zz U)<|QK U<|xe ?_;exact⟨_,La,U,by simp[gl]⟩
 rintro z g w4 ⟨rfl,hz⟩;refine QW rfl (λhO=>?_) (λhO=>?_)
 ·rw[OS (hz.1 hO)]at Y;subst Y;refine Qe<|Q2 hC U U<|Qa<|Qj (us:=[r2,oF oG 0,nS,nS]) ((h9.I hM).I T) U U U U ⟨hN.one,U,U,U,Z⟩ λw6 hE h9=>Qc<|Ql ⟨[.agg #[r2,oF oG 0,nS,nS],nS],⟨⟨_,U,Qn U (h9.at (L:=[]) oe).cells⟩,rfl,Z⟩,hD.O hE oa,_,_,rfl,?_,rfl⟩;have pu:=Qf (Qp hw T) hE (λb E=>by have:=(Qi hw b E).1;simp;omega);exact⟨r2,_,_,U,λL' hF=>⟨Qu.ints pu hA.a.al.le (λb E=>ou (hF b E)),Zv.nil _ _ _,Zv.nil _ _ _⟩⟩
 have ki:¬(q.a.st=0\/lft lf 0=false):=λh=>by rw[hz.2 h]at hO;cases hO
 rw[OR ki]at Y;have pw:0<q.a.st:=by have:=hq.ok.st0;omega
 have kj:(rstr q.a lf).st.toNat=q.n:=by show q.a.st.toNat=q.n;omega
 unfold KT at Y;rw[OR (show ¬(rstr q.a lf).st=0 from λh=>ki (.inl h)),kj]at Y;simp only[]at Y;refine Qh<|Qm<|Yb U<|Q0 U<|Qs U gk.B U U<|Qa<|U6 (n:=q.n) (OT (Value.int .i64) hn) (OT (Value.int .i64) hn) oa λbE w6 hE pz go=>Qc ?_;rw[QhD]at go;have hlE:=go.lt;have p0:=hD.D hE;have kk:=hA.I p0;refine Qd<|Qm<|Yb U<|Q0 U<|Qs U kk.B U U<|QL kk.a.ed U<|Qb<|xe<|Qg<|QC (α:=Nat×(Nat->O0)) [(7,7),(50,74)] (λz=>[(50,oF oG z.1)]) (λz w'=>z.1<=q.a.ed.length/\O3 [bE] w6 w'/\Q7 w'.heap bE 59 ((oT q.n).map z.2)/\Vj w6.heap.size w' q.n z.2 (yH ((q.a.ed.take z.1).filter λe=>lft lf e.2.2))) (λz=>q.a.ed.length - z.1) ol (0,λ_=>nS) La
  ⟨Ln _,O3.Z _ _,go,⟨λi _=>QJ _ _ _ _,λi j _ _ _=>Dj.nil _⟩⟩ ?_
 rintro⟨k,rv⟩ g w7 ⟨hk,hP,gp,V⟩;simp only[]at hk gp V;have hG:O3 [] w4 w7:=hE.O hP pz;have gq:=hD.D hG;have hz7:=hP.size;have kn:=hA.I gq;refine Qe<|QX U U<|xe<|Qd<|QG U (λgr=>?_) (λgr=>?_)
 ·refine Qx ?_;have p1:q.a.ed.length<=k:=by have hQ:¬(k:Int)<(q.a.ed.length:Int):=gr;omega
  rw[Ls p1]at V;have V:Vj w6.heap.size w7 q.n rv (yH (rstr q.a lf).ed):=V;have ko:(rstr q.a lf).ed.length<=q.a.ed.length:=Ma _ _;refine Qe<|Qa<|Yw VY λmb w8 gs p2 p3=>Qa<|X0 (k:=(0:Int)) p3 U U λG gt kq=>Qb<|Qc ?_;have J:O3 [] w7 G:=gs.O gt p2;have p4:=J.size;have hS:=kq.lt;refine Qe<|Qa<|QB (us:=[[oF oG 0]]) U U og oe ⟨rfl,rfl,Z⟩ λkr gu hy hb77 p5=>Qc<|Qd<|Qe<|Qc ?_;have gv:mb≠b4:=oa
  have hH:b4<G.heap.size:=oa
  have p6:=gq.D J;have gw:∀b∈[b4,mb],w2.heap.size<=b:=λb E=>by simp only[oK,oJ,or_false]at E;omega
  have p7:PzA [b4,mb] G.heap bp q:=((hA.I ha).up (λb E=>.inr (gw b E))).I (T.D (hG.D J));have hlw:=hB.lt;have kt:∀s,s<q.n->qX [b4,mb] G.heap (rv s) (yH (rstr q.a lf).ed s):=λs hs=>QH (Qp (V.own s hs) J) (ou (Qbv (rstr q.a lf).ed s)) (λb E hm=>by
   have h1:=(Qi (V.own s hs) b E).1;have h2:=Zb (V.own s hs) b E;simp only[oK,oJ,or_false]at hm;omega)
  have hJ:=gp.I J;have ku:∀b,b<w2.heap.size->b∉[b4,mb]:=λb E hm=>ou (gw b hm)
  have p8:bE∉[b4,mb]:=oq
  have p9:Q7 G.heap b4 61 [r2,oF oG 0,nS,nS]:=((hC.I hG)).I J;have qc:Q7 G.heap b2 61 [nS,oF oG 0,nS,nS]:=((h9.I hM).I T).I (hG.D J);have qf:=Qp hw (T.D (hG.D J));have ql:Qu 3 G.heap.size gu (.slice (some ⟨kr,0,none⟩) 1 1) [0]:=p5.own (n:=1) (sz:=1) U oa oa;have kv:QdW (KH (rstr q.a lf)).num (O9 [] (0:Int) (oF oG 0)):=by
   have h0:QdW (oN q.n (-1)) ([]:List (Int×O0)):=λs hs=>by
    have qo:s<q.n:=by simpa using hs
    have:O4 (oN q.n (-1)) s=-1:=by unfold O4;simp[oQ,qo]
    rw[this];rfl
   have h1:=h0.set (k:=0) (by simp;omega) (v:=0) (NG _);unfold KH;rw[kj];exact h1
  have gx:∀e∈(rstr q.a lf).ed,0<=e.1/\e.1<q.a.st/\0<=e.2.2/\e.2.2<q.a.st:=λe he=>by have:=ph.ed e he;exact⟨this.1,this.2.1,this.2.2.2.1,this.2.2.2.2⟩
  have kw:Ud q.a.st (KH (rstr q.a lf)):=Qfk (a:=rstr q.a lf) pw;have kx:(rstr q.a lf).mr=q.a.mr:=rfl;refine Zk (rstr q.a lf) λR hR=>?_;rw[hR]at Y kt kv gx kw kx ko;have qr:R.al=q.a.al:=by rw[<-hR];rfl
  have hnN:q.a.st.toNat=q.n:=oa
  refine Qg<|QC (α:=Nat×Cs×List (Int×O0)×O0×O0×O0) [(9,10),(12,14),(78,142)] (λz=>[(9,z.2.2.2.1),(10,oF oG z.1)])
   (λz w'=>KU b4 mb r2 G z.2.1 z.2.2.1 z.2.2.2.1 z.2.2.2.2.1 z.2.2.2.2.2 w'/\z.1<=z.2.1.ord.length/\Ud q.a.st z.2.1/\z.2.1.mk'.length<=z.1/\z.2.1.ed.length<=z.1*131072/\KS R (q.n - z.1) z.1 z.2.1=KS R q.n 0 (KH R)) (λz=>q.n - z.1) ol
   (0,KH R,O9 [] (0:Int) (oF oG 0),.slice (some ⟨kr,0,none⟩) 1 1,nS,nS) oA
   ⟨⟨hy.any,p9.I hy,kq.I hy,kv,ql,QJ _ _ _ _,QJ _ _ _ _,Dj.nil' _,Dj.nil' _,Dj.nil' _⟩,Ln _,kw,Ln _,Ln _,U⟩ ?_
  rintro⟨i,c,m,vo,vk,ve⟩ g q0 ⟨O,hi,H,q1,q2,gy⟩;simp only[]at O hi H q1 q2 gy;have hcle:=H.le;have hT:=Qu.ints (L:=[]) O.o oa oe;refine Qd<|Qm<|Qb<|QL hT U<|QX U U<|xe<|QG U (λq3=>?_) (λq3=>?_)
  ·refine Qx ?_;have q4:c=KS R q.n 0 (KH R):=by rw[<-gy,jS oa]
   refine Qm<|QL hT U<|Q0 U<|Qa<|QA O.B4 U U oe rfl λho ha hg=>xe ?_;have q5:=Qu.ints (L:=[]) O.k oa oe;have j1:=YB.eds (L:=[]) O.e (ou H.el) oe;refine Qe<|Q2 hg U U<|Qb<|Qa<|Qj (us:=[r2,oF oG c.ord.length,vk,ve]) ((qc.J O.st (ku _ oa)).J ha (by simp;omega)) U U U U ⟨hN.one,U,q5.one,j1.one,Z⟩ λj2 hU j3=>Qc ?_;have kz:O3 [b4,mb] G ho:=O.st.then ha (λb E=>.inl (by simp at E;simp[E]));have za:O3 [] w j2:=(p6.then kz (λb E=>.inr (ou (gw b E)))).O hU oa;refine Ql ⟨[.agg #[r2,oF oG c.ord.length,vk,ve],vo],⟨⟨_,U,Qn U (j3.at (L:=[]) oe).cells⟩,rfl,Z⟩,za,_,_,rfl,?_,hT.one⟩;rw[<-q4]at Y;subst Y;have k1:=Qf (Qf O.k ha (λb E=>by have:=(Qi O.k b E).1;simp;omega)) hU (λb E=>by have:=(Qi O.k b E).1;simp;omega);have k2:=Qf (Qf O.e ha (λb E=>by have:=(Qi O.e b E).1;simp;omega)) hU (λb E=>by have:=(Qi O.e b E).1;simp;omega);have k3:=Qf (Qf qf kz (λb E=>ku b (pp b E))) hU (λb E=>by have:=(Qi hw b E).1;simp;omega);exact⟨r2,vk,ve,U,λL' hF=>⟨by rw[qr];exact Qu.ints k3 hA.a.al.le (λb E=>ou (hF b E)),Qu.ints k1 (by show c.mk'.length<=_;omega) (λb E=>ou (hF b E)),YB.eds k2 (by show c.ed.length<=_;have:=H.el;omega) (λb E=>ou (hF b E))⟩⟩
  have I:i<c.ord.length:=oa
  refine Qh ?_;have k0:=ZI I;have hsr:=H.ord _ (Kg I);have hj:=QfM (a:=R) I;refine Zk (O4 c.ord i) λs0 k5=>?_;rw[k5]at k0 hsr hj;have k6:s0=(s0.toNat:Int):=oa
  have gz:s0.toNat<q.n:=oa
  have zb:yH R.ed s0.toNat=Yc R.ed s0:=by unfold yH;rw[<-k6]
  have hV:=kt s0.toNat gz;rw[zb]at hV;have zv:=K5 R.ed s0;have k7:∀e∈Yc R.ed s0,0<=e.2.2/\e.2.2<q.a.st:=λe he=>⟨(gx e (Yf he).1).2.2.1,(gx e (Yf he).1).2.2.2⟩;refine Zk (Yc R.ed s0) λos z0=>?_;rw[z0]at hV zv k7 hj;refine Qd<|Qg<|Qd<|Qm<|Qb<|Qb<|xii (i:=i) hT U U I λa87 k8=>?_;rw[k0]at k8;refine x (QD k8 U)<|x (ZB (i:=s0.toNat) U (OT (Value.int .i64) k6) gz)<|Y2 (u:=rv s0.toNat) (hJ.J O.st p8) U (Qbu gz)<|QL (hV.st O.st) U<|Qb<|xe<|Qg<|QC (α:=Nat×Cs×List (Int×O0)×O0×O0) [(9,9),(12,14),(92,126)] (λz=>[(9,z.2.2.2.1),(92,oF oG z.1)])
   (λz w'=>KU b4 mb r2 G z.2.1 z.2.2.1 z.2.2.2.1 vk z.2.2.2.2 w'/\z.1<=os.length/\Ud q.a.st z.2.1/\z.2.1.mk'=c.mk'/\z.2.1.ed.length=c.ed.length+z.1/\(∃r,z.2.1.ord=c.ord++r)/\(os.drop z.1).foldl (ZQ i) z.2.1=os.foldl (ZQ i) c) (λz=>os.length - z.1) ol (0,c,m,vo,ve) oA
   ⟨O,Ln _,H,U,U,⟨[],oe⟩,rfl⟩ ?_
  rintro⟨k4,d,m4,hW,hX⟩ g ho ⟨hh,z1,S,g0,k9,hY,h3⟩;simp only[]at hh z1 S g0 k9 hY h3;have hcle4:=S.le;have z2:=Qu.ints (L:=[]) hh.o oa oe;have g2:i<d.ord.length:=by obtain⟨r,hr⟩:=hY;rw[hr,Lj];omega
  have ma:O4 d.ord i=s0:=by obtain⟨r,hr⟩:=hY;rw[hr,yo I];exact k5
  refine Qe<|QX U U<|xe<|Qd<|QG U (λz3=>?_) (λz3=>?_)
  ·refine Qx ?_;rw[Lr oa,NE]at h3;rw[<-h3]at hj;have mf:=p7.st hh.st;have z4:d.ord[i]'g2=s0:=by rw[ZI g2];exact ma
   have hmkC:YW R i d=if s0∈q.a.mr then⟨d.ord,d.num,d.mk'++[(i:Int)],d.ed⟩else d:=by
    unfold YW;rw[Vr,MO,ma,kx]
   rw[hmkC]at hj;have hZ:KS R (q.n - (i+1)) (i+1) (yI R i c)=KS R q.n 0 (KH R):=by
    rw[<-gy];obtain⟨t,ht⟩:∃t,q.n - i=t+1:=⟨q.n - i - 1,oa⟩;rw[ht,KS,OS I,show q.n - (i+1)=t by omega]
   have hm4l:=OT oP g0;refine Qd<|QR (O3 [] ho) [oD 0,oD 1,oD 2,oD 3,oD 4,oD 5,oD 6,oD 7,oD 8,oE 9] mixed ol od (O3.C _ _) ?_;refine p Qy<|p (YO U)<|p (QP U)<|p (QP U)<|pq (λ_ H=>Qq (mf.B.I H) U U)<|p Qy <|
    p Qy<|pii (i:=i) U z2 U U g2 λa134 mg=>?_
   rw[z4]at mg;refine pq (λ_ H=>QD (mg.I H) U)<|pk<|xf<|(Ya (mf.a.mr.I (O3.C _ _)) s0).mono ?_;rintro r16 w16 ⟨rfl,rfl⟩;refine⟨O3.C _ _,pe ?_⟩;have hf:=hh.I (O3.C [] ho);refine QG U (λg3=>?_) (λg3=>?_)
   ·rw[OR g3]at hj;refine Qh<|Qw<|Qb<|QN U U<|Qc ?_;rw[hj]at hZ;exact⟨(i+1,d,m4,hW,vk,hX),oh,oA,hf,oh,S,oh,oh,hZ⟩
   rw[OS g3]at hj;refine Qw<|Qs U hf.B4 U U<|Qb<|Qa<|QB (us:=[[oF oG i]]) U U og oe ⟨rfl,rfl,Z⟩ λb140 w17 hs17 hb140 hB140=>?_;have hK:=hf.I hs17;refine Qa<|Za (news:=[oF oG i]) (L:=[]) hK.k U U U (hB140.at oe) (by simp[Value.oneCell']) oa hK.st.size λmh w18 mj mo hn18=>?_;have hk18:Qu 3 G.heap.size w18 mh (d.mk'++[(i:Int)]):=Qu.snoc mj;refine Q0 U<|Qa<|QA (hK.B4.J mo (QT hK.k hH)) U U oe (Qt mj) λw19 hs19 hB19=>xe ?_;have hI19:=hK.setK hH hS gv mo hk18 hn18 hs19 hB19;refine Qw<|Qb<|QN U U<|Qc ?_;rw[hj]at hZ;exact⟨(i+1,⟨d.ord,d.num,d.mk'++[(i:Int)],d.ed⟩,m4,hW,mh,hX),oh,oA,hI19,oh,⟨S.nl,S.sum,S.ord,S.num,S.el⟩,by simp only[oM,oO];omega,oh,hZ⟩
  refine Qh ?_;have ga:k4<os.length:=oa
  have hdr:=Zf ga;rw[hdr,L4]at h3;have g4:=k7 _ (Lm ga);refine Zk (os[k4]'ga) λe he=>?_;rw[he]at h3 g4;have gb:e.2.2=(e.2.2.toNat:Int):=oa
  have gc:e.2.2.toNat<d.num.length:=by rw[S.nl];omega
  have mq:=hh.nm e.2.2.toNat gc;rw[<-gb]at mq;have ms:Jk d.num e.2.2=O4 d.num e.2.2.toNat:=rfl;refine Qd<|Qg<|Qe<|xie (hV.st hh.st) U U ga λa94 mt=>?_;rw[he]at mt;refine x (Qv mt U U)<|Qa<|Qo (us:=[oF oG 0,oF oG 0,oF oG 0]) U λb12 w20 hs20 g5 hg=>Qa<|Qj (us:=QF e) hg U U U U oB λgg hs21 hg=>xe ?_;have mu:O3 [] ho gg:=hs20.O hs21 g5;have hf:=hh.I mu;have hl12:=hg.lt;have hz21:=mu.size;have hIz:=hh.st.size;have hc5:Ud q.a.st (ZQ i d e):=Qbh S g4.1 g4.2 (ou S.el);have mv:ZQ i d e=⟨(Ym d e).ord,(Ym d e).num,(Ym d e).mk',(Ym d e).ed++[((i:Int),e.2.1,Jk (Ym d e).num e.2.2)]⟩:=zw gc;refine Q3 (α:=O0) [(13,14),(96,102)] (λz=>[(13,oF oG (if O4 d.num e.2.2.toNat<0 then 0 else O4 d.num e.2.2.toNat)),(14,.bool (!decide (O4 d.num e.2.2.toNat<0)))]) (λz w'=>w'=gg) ol ?_ ?_
  ·refine Qw<|Qb<|Qs U hg U U<|x (v:=.tuple #[oF oG (if O4 d.num e.2.2.toNat<0 then 0 else O4 d.num e.2.2.toNat),.bool (!decide (O4 d.num e.2.2.toNat<0))]) ((K3 (k:=e.2.2) hf.M U U).D (OT (λv=>Result.ok (Next.value v) _) ?_))<|Qb<|Q8 U U<|Q8 U U<|x Qk<|Qc ?_
   ·rw[mq];by_cases hp:O4 d.num e.2.2.toNat<0
    ·simp[hp]
    simp[hp]
   exact⟨.bool true,oA,U⟩
  rintro z5 g gg rfl;refine Q3 (α:=O0×List (Int×O0)×Int) [(9,9),(13,13),(103,115)] (λz=>[(9,z.1),(13,oF oG z.2.2)]) (λz w'=>O4 (Ym d e).num e.2.2.toNat=z.2.2/\KU b4 mb r2 G (Ym d e) z.2.1 z.1 vk hX w'/\Q7 w'.heap b12 213 (QF e)/\gg.heap.size<=w'.heap.size) ol ?_ ?_
  ·refine Qm<|x (Zz U)<|xe<|QW U (λg6=>?_) (λg6=>?_)
   ·have hp:O4 d.num e.2.2.toNat<0:=by simpa using g6
    have hL:Ym d e=⟨d.ord++[e.2.2],d.num.set e.2.2.toNat d.ord.length,d.mk',d.ed⟩:=by unfold Ym;rw[ms,OS hp]
    have hcg:O4 (Ym d e).num e.2.2.toNat=(d.ord.length:Int):=by rw[hL];unfold O4;simp[oQ,gc]
    refine Qm<|QL (Qu.ints (L:=[]) hf.o oa oe) rfl<|Qc<|Qm<|Qs rfl hg rfl rfl<|Qb<|Qa<|Xw (k:=e.2.2) hf.M rfl rfl λw22 g7 hM22=>xe ?_;have mw:=hf.nm.set gc (v:=(d.ord.length:Int)) oa;rw[<-gb]at mw;have hI6:=hf.setN hS gv g7 hM22 mw;have gh:=hg.J g7 (by simp;omega);refine Qw<|Qb<|Qs U gh U U<|Qa<|QB (us:=[[oF oG e.2.2]]) U U og oe ⟨rfl,rfl,Z⟩ λb114 w23 g8 hb114 hB114=>?_;have g9:=hI6.I g8;refine Qa<|Za (news:=[oF oG e.2.2]) (L:=[]) g9.o U U U (hB114.at oe) (by simp[Value.oneCell']) (by show d.ord.length+1<=_;omega) g9.st.size λv24 w24 ho24 T hn24=>Qc ?_;have hk24:Qu 3 G.heap.size w24 v24 (d.ord++[e.2.2]):=Qu.snoc ho24;have hb12o:b12∉ob hW:=λE=>ou (Zb hh.o b12 E)
    have h4:=g9.setO hH hS T hk24 hn24;have:=g7.size;have:=g8.size;have:=T.size;refine⟨(v24,O9 m4 e.2.2 (oF oG d.ord.length),(d.ord.length:Int)),oA,hcg,?_,(gh.I g8).J T hb12o,oa⟩;simp only[];rw[hL];exact h4
   have hp:¬O4 d.num e.2.2.toNat<0:=by simpa using g6
   have hL:Ym d e=d:=by unfold Ym;rw[ms,OR hp]
   have kf:(if O4 d.num e.2.2.toNat<0 then 0 else O4 d.num e.2.2.toNat)=O4 (Ym d e).num e.2.2.toNat:=by rw[hL,OR hp]
   refine Qh<|⟨(hW,m4,if O4 d.num e.2.2.toNat<0 then 0 else O4 d.num e.2.2.toNat),oA,kf.symm,?_,hg,Lx _⟩
   rw[hL];exact hf
  rintro⟨vo5,m5,tn⟩ g w25 ⟨my,h4,gh,hz25⟩;simp only[]at h4 my;have mz:(Ym d e).ed=d.ed:=by unfold Ym;split <;> rfl
  have hgN:Jk (Ym d e).num e.2.2=O4 (Ym d e).num e.2.2.toNat:=rfl;rw[hgN,mz,my]at mv;have heN:YB 213 G.heap.size w25 hX d.ed:=by have:=h4.e;rw[mz]at this;exact this
  refine Qw<|Qs U h4.B4 U U<|Qb<|Qs U gh U U<|Qb<|x (Qz ⟨U,U,U,Z⟩) <|
   Qa<|QB (us:=[QF ((i:Int),e.2.1,tn)]) U U og (by exact(by decide:1*3<=1000000)) oA λb123 w26 m2 hb123 hB123=>?_
  have gi:=h4.I m2;refine Qa<|Za (m:=1) (news:=QF ((i:Int),e.2.1,tn)) (L:=[]) (Qp heN m2) U U U (hB123.at oe) (λu hu=>by simp only[QF,oK,oJ,or_false]at hu;rcases hu with rfl|rfl|rfl <;> rfl) (ou S.el) gi.st.size λm3 w27 m6 m7 hn27=>?_
  have hk27:YB 213 G.heap.size w27 m3 (d.ed++[((i:Int),e.2.1,tn)]):=YB.snoc m6;refine Q0 U<|Qa<|QA (gi.B4.J m7 (QT gi.e hH)) U U oe (Qt m6) λw28 hs28 hB28=>xe ?_;have m8:=gi.setE hH hS gv m7 hk27 hn27 hs28 hB28;rw[<-mv]at m8;refine Qw<|QN U U<|Qb<|xe<|⟨(k4+1,ZQ i d e,m5,vo5,m3),oh,oA,m8,oh,hc5,?_,?_,?_,h3⟩
  ·simp only[];rw[<-g0];exact(Qbi i d [] e).2
  ·simp only[];rw[Qbj,k9];omega
  simp only[];obtain⟨r1,h1⟩:=ja i d e;obtain⟨r2',h2⟩:=hY;exact⟨r2'++r1,by rw[h1,h2,LB]⟩
 refine Qh ?_;have I:k<q.a.ed.length:=by have hQ:(k:Int)<(q.a.ed.length:Int):=gr;omega
 have m9:=hq.ok.ed _ (Lm I);have htk:q.a.ed.take (k+1)=q.a.ed.take k++[q.a.ed[k]'I]:=Ll I;have h5:(q.a.ed.take (k+1)).filter (λe=>lft lf e.2.2)=(q.a.ed.take k).filter (λe=>lft lf e.2.2)++if lft lf (q.a.ed[k]'I).2.2=true then[q.a.ed[k]'I]else[]:=by
  rw[htk,LZ];congr 1;by_cases h:lft lf (q.a.ed[k]'I).2.2=true
  ·simp[h]
  simp[h]
 have hfll:((q.a.ed.take k).filter (λe=>lft lf e.2.2)).length<=k:=LJ (Ma _ _) (by rw[Ly];omega);refine Zk ((q.a.ed.take k).filter (λe=>lft lf e.2.2)) λkept hkept=>?_;rw[hkept]at h5 V hfll;refine Zk (q.a.ed[k]'I) λe he=>?_;rw[he]at m9 h5;have pa:e.1=(e.1.toNat:Int):=oa
 have gb:e.2.2=(e.2.2.toNat:Int):=oa
 have gn:=qb (l:=lf) (s:=e.2.2) oa;have hv:e.1.toNat<q.n:=oa
 refine Qd<|Qg<|Qe<|xie kn.a.ed U U I λa52 hQ=>?_;rw[he]at hQ;refine x (Qv hQ U U)<|Qa<|Qo (us:=[oF oG 0,oF oG 0,oF oG 0]) U λb7 w8 gs hb7 h6=>Qa<|Qj (us:=QF e) h6 U U U U oB λG gt h6=>xe ?_;have J:O3 [] w7 G:=gs.O gt hb7;have p4:=J.size;have hA9:=kn.I J;have hB9:=hB.I (gq.D J);have ka:=V.I J;have hJ:=gp.I J;refine Qd<|QR (O3 [] G) [oD 0,oD 1,oD 2,oD 3,oD 4,oD 5,oD 6,oD 7] mixed ol od (O3.C _ _) ?_;refine p Qy<|p (YO U)<|p (QP U)<|pq (λ_ H=>Qq (hA9.B.I H) U U)<|p (QP U)<|pq (λ_ H=>Qq (h6.I H) U U) <|
  p (λ_=>ZB (i:=e.2.2.toNat) U (OT (Value.int .i64) gb) oa)<|pq (v:=.bool (lft lf e.2.2)) (λ_ H=>(JS (i:=e.2.2.toNat) (hB9.I H) U oa).D (by rw[gn]))<|pe ?_
 have h7:O3 [] G { G with drawn:=G.drawn+1 }:=O3.C _ _
 refine QW rfl (λkb=>?_) (λkb=>?_)
 ·rw[OS kb]at h5;have hrow:=ka.own _ hv;have kc:∀b∈ob (rv e.1.toNat),w6.heap.size<=b/\b<w7.heap.size:=λb E=>⟨(Qi (V.own _ hv) b E).1,Zb (V.own _ hv) b E⟩;have pc:bE∉ob (rv e.1.toNat):=λE=>ou (kc _ E)
  have ke:b7∉ob (rv e.1.toNat):=λE=>ou (kc _ E)
  have ko:=Qbv kept e.1.toNat;refine QR (O3 (ob (rv e.1.toNat)) G) [oD 0,oD 1,oD 2,oD 3,oD 4,oD 5,oD 6,oD 7,oD 8,oE 9,oE 10,oD 11,oE 12] mixed ol od (h7.any.Q (O3.C _ _)) ?_;refine p Qy<|p (QP U)<|pq (λ_ H=>Qq (h6.J H ke) U U)<|p Qy<|p (QP U) <|
   pq (λ_ H=>Qq (h6.J H ke) U U)<|p (λ_=>ZB (i:=e.1.toNat) U (OT (Value.int .i64) pa) hv)<|pq (λ_ H=>Qq (u:=rv e.1.toNat) (hJ.J H pc) U (Qbu hv)) <|
   pq (λ_ H=>Zx (h6.J H ke) U U)<|pk<|QB (us:=[QF e]) U U og (by exact(by decide:1*3<=1000000)) oA λb71 gu hy hb71 hB71=>⟨(h7.any.Q (O3.C _ _)).Q hy.any,?_⟩
  have h8:O3 [] G gu:=(h7.D (O3.C _ _)).D hy;have hz10:=h8.size;refine pk<|Za (m:=1) (news:=QF e) (L:=[]) (Qp hrow h8) U U U (hB71.at oe) (λu hu=>by simp only[QF,oK,oJ,or_false]at hu;rcases hu with rfl|rfl|rfl <;> rfl) oa oa λvr q0 pd gj hn11=>⟨h8.any.Q gj,?_⟩
  have hBE11:=(hJ.I h8).J gj pc;have hlen:((oT q.n).map rv).length=q.n:=oe
  refine p (λ_=>ZB (i:=e.1.toNat) U (OT (Value.int .i64) pa) hv)<|pkl (hl:=by kernel_rfl)<|QA (j:=0+e.1.toNat*1) (u:=vr) hBE11 U U (by rw[hlen];omega) (Qt pd) λho ha hBE12=>pe ?_;have g5:Q7 ho.heap bE 59 ((oT q.n).map (VT rv e.1.toNat vr)):=by
   have e1:=Qhb id q.n rv e.1.toNat vr;simp only[id]at e1;rw[<-e1];simpa using hBE12
  have hvn:∀b∈ob vr,b∈ob (rv e.1.toNat)\/G.heap.size<=b:=λb E=>(hn11 b E).imp id (λh=>oa);have pf:=ka.app hv (YB.snoc pd) (h8.any.Q gj) hvn;have pg:=pf.J ha (λi hi b E=>by have:=(Qi (pf.own i hi) b E).1;simp only[oI];omega);rw[QfL kept e m9.1,<-h5]at pg;refine Qw<|QN U U<|Qb<|xe ?_;exact⟨(k+1,VT rv e.1.toNat vr),oh,La,I,(((hP.D J).D h8).then gj (λb E=>.inr (kc b E).1)).Q ha,g5,pg⟩
 rw[OR (by rw[kb];decide),LS]at h5;refine Qh<|Qw<|QN U U<|Qb<|xe ?_;exact⟨(k+1,rv),oh,La,I,(hP.D J).D h7,(hJ.I h7),by simp only[];rw[h5];exact ka.I h7⟩
open Go.Sort
abbrev Rz:={ x:Int×Int×Int×Int // 0<=x.1/\x.1<4096 }
instance:Inhabited Rz:=⟨⟨(0,0,0,0),og⟩⟩
abbrev qM (x:Rz):LV:=[oF oG x.1.1,oF oG x.1.2.1,oF oG x.1.2.2.1,oF oG x.1.2.2.2]
abbrev RzO (base:Nat)(w:OZ)(v:O0)(l:List Rz):Prop:=w.ownsRow base 253 4 v l.length (l.flatMap qM)
theorem QpP (x y:Rz)(W:OZ):Calls prog 185 #[.agg (qM x).toArray,.agg (qM y).toArray] W λe w'=>e=.returned (oF oG (x.1.1 - y.1.1))/\∃q os',w'=grow (W.drewN q) os':=by
 have E:IntKind.i64.wrap (x.1.1 - y.1.1)=x.1.1 - y.1.1:=YD ⟨ov x.2 y.2,ov x.2 y.2⟩
 go_enter func185,ntmps185
 go_wp2
 go_ret;exact⟨by rw[<-E];rfl,0,_,by rw[alloc_eq_grow,alloc_eq_grow,grow_grow];rfl⟩
theorem Qai (x:Rz):(qM x).length=4:=rfl
theorem Qah:∀l:List Rz,(l.flatMap qM).length=l.length*4
 | []=>rfl
 | x::l=>by rw[LM,Lj,Qah l,Qai,LQ];omega
theorem Qei {l:List Rz}(I:j<l.length*4):(l.flatMap qM)[j]?=some ((flatK qM 4 l.toArray)[j]!):=by
 have E:j / 4<l.length:=Nat.div_lt_of_lt_mul oa;have G:j % 4<4:=OO _ og;rw[get_flatK _ _ _ _ (oz I)];have J:=Xx qM 4 Qai l (j / 4) E;have O:(l.flatMap qM)[j]?=(qM (l[j / 4]'E))[j % 4]?:=by
  rw[<-J,LT,OS G,MA];congr 1;omega
 rw[O];have S:(l.toArray)[j / 4]! = l[j / 4]'E:=by simp[E]
 rw[S];have H:j % 4<(qM (l[j / 4]'E)).length:=G;exact(LF H).D (OT some (getElem!_pos (qM (l[j / 4]'E)) (j % 4) H).symm)
theorem QhA:SWO (ltOf λx y:Rz=>x.1.1 - y.1.1) where
 irrefl x:=by unfold ltOf;simp
 trans x y z h1 h2:=by unfold ltOf at *;simp at *;omega
 ntrans x y z h1 h2:=by unfold ltOf at *;simp at *;omega
def qL (l:List Rz):List Rz:=(pdq (ltOf λx y:Rz=>x.1.1 - y.1.1) l.toArray 0 l.toArray.size (Go.Lib.bitLen l.toArray.size) true true).toList
theorem zx (l:List Rz):(qL l).length=l.length:=by
 have h:=(pdq_sorts (ltOf λx y:Rz=>x.1.1 - y.1.1) QhA l.toArray 0 l.toArray.size (Go.Lib.bitLen l.toArray.size) true true (Ln _) (Lx _) (Or.inl U)).1.1;unfold qL;simpa using h
theorem QfG {base:Nat}{v:O0}{l:List Rz}(h:RzO base w v l)(hl:l.length<=1099511627776):
  Q5 prog 184 [v,.func (.func 185) #[] #[]] w λ_ w'=>O3 (ob v) w w'/\RzO base w' v (qL l):=by
 unfold Q5;rcases h.2 with⟨rfl,h0⟩|⟨g,cap,cur,rfl,hb,I,hf,hh,hm,ho⟩
 ·have hp:l=[]:=Lq h0;subst hp;have H:=AnyF.slices_SortFunc_none Tryz.sortRm none 0 (.func (.func 185) #[] #[]) w;change Calls prog 184 _ _ _ at H;refine Calls.mono H λe w' J=>?_;obtain⟨rfl,rfl⟩:=J;rw[show qL []=[] from Lq (zx [])];exact⟨O3.Z _ _,h⟩
 have V:g<w.heap.size:=(LH.1 I).1;have hH:HoldsK qM 4 w g 0 l.toArray:=by
  intro j E;rw[size_flatK,LP]at E;have Y:=Qei E;rw[<-ho,LT,OS E]at Y;constructor
  ·show(match w.heap[g]? with|some (.cells c _ _)=>if(none:Option _).isSome then none else c[0+j]?|_=>none)=_
   rw[I];simp only[oY,OB,OC,if_false];rw[<-Mn,Y];rfl
  show(match w.heap[g]? with|some (.cells _ _ (lo,hi))=>decide (lo<=0+j) && decide (0+j<hi)|_=>false)=false
  rw[I];simp
 have eg:∀args w,(callFunc 185 args).run prog w=.ok (.enter 185 args) w:=enters_of func185 od U;have H:=AnyQ.slices_SortFunc_eq Tryz.sortRm 4 Tryz.isAgg253 Tryz.sizeOf253 qM Qai (λx v hv=>by simp at hv;rcases hv with rfl|rfl|rfl|rfl <;> rfl) (λx y=>x.1.1 - y.1.1) QhA 185 #[] g 0 cap l.toArray w eg (λm os dk _ x y=>QpP x y _) hH V (by simp;omega)
 change Calls prog 184 _ _ _ at H;rw[LP]at H;refine Calls.mono H λe w' J=>?_;obtain⟨rfl,n,os,rfl⟩:=J;refine Zk (qL l).toArray λG O=>?_;have S:G.size=l.length:=by rw[<-O];simpa using zx l
 have hq:qL l=G.toList:=by rw[<-O]
 have ha:pdq (ltOf λx y:Rz=>x.1.1 - y.1.1) l.toArray 0 l.toArray.size (Go.Lib.bitLen l.toArray.size) true true=G:=by rw[<-O];unfold qL;simp
 rw[LP]at ha;rw[ha,hq];have T:(sortWorldK qM 4 w g 0 n G os).heap=w.heap.modify g (onCells (putCells id 0 (flatK qM 4 G)))++os:=rfl;refine⟨⟨rfl,U,U,?_,λk hk hn=>?_⟩,?_⟩
 ·rw[T,MM,Mb];omega
 ·rw[T,Me,Mb,OS hk,Mv,OR (λe=>hn (by simp[ob,e]))]
 refine⟨Qah _,.inr ⟨g,cap,putCells id 0 (flatK qM 4 G) cur,by simp[S],hb,?_,by simp[S];exact hf,hh,by simp[putCells,hm],?_⟩⟩
 ·rw[T,Me,Mb,OS V,Mv,OS rfl,I];rfl
 apply M0;intro j;rw[LT];by_cases E:j<G.toList.length*4
 ·rw[OS E,Qei E,Mn];have hr:j<cur.size:=by simp[S]at E;omega
  have hs:j<(flatK qM 4 G).size:=by simpa using E
  simp only[putCells,Ow,Oh hr,Ox,OP,oY,true_and,OS hs,OG,id]
 rw[OR E,ML];rw[Qah];omega
theorem QnA (G:ZJ a)(J:a.st=(n:Int))(hl:lf.length=n):∀x∈nxs a ul lf,0<=x/\x<(n:Int):=λx hx=>by
 have E:=Qh8 x hx;have O:x.toNat<n:=by
  refine Decidable.byContradiction λh=>?_;unfold lft at E;simp[oQ,List.getElem?_eq_none (show lf.length<=x.toNat by omega)]at E
 unfold nxs at hx;split at hx
 ·obtain⟨p,H,rfl⟩:=LD.1 hx;obtain⟨_,e,I,S,_⟩:=(Qaz a ul lf).1 p H;have:=G.ed e I;omega
 have:=((UO lf (dsts a lf) 0).1 x hx).2;omega
abbrev Q4:=Int×Int×Int×Int
abbrev q4C (x:Q4):LV:=[oF oG x.1,oF oG x.2.1,oF oG x.2.2.1,oF oG x.2.2.2]
theorem QhS (x:Q4):(q4C x).length=4:=rfl
def Qnb (x:Q4):Rz:=if h:0<=x.1/\x.1<4096 then⟨x,h⟩else default
theorem Qbc:∀l:List Rz,(l.map (·.1)).map Qnb=l
 | []=>rfl
 | x::l=>by
  rw[LG,LG,Qbc l];congr 1;unfold Qnb;rw[dif_pos x.2]
theorem QlJ (l:List Rz):(l.map (·.1)).flatMap q4C=l.flatMap qM:=by rw[List.flatMap_map]
def rmR (rk:Int)(r:Int×xt):List Q4:=r.2.map λp=>(p.1,rk,r.1,p.2)
def rmL (a:Zd)(ul:LI):Nat->Int->Lf->List Q4
 | 0,_,_=>[]
 | f+1,rk,lf=>if(nxs a ul lf).length=0 then[]else rmR rk (nxR a ul lf)++rmL a ul f (rk+1) ((nxs a ul lf).foldl cut lf)
theorem QhG {f:Nat}{rk:Int}(h:(nxs a ul lf).length=0):rmL a ul f rk lf=[]:=by
 cases f with
 | zero=>rfl
 | succ f=>rw[rmL,OS h]
theorem QhF {f:Nat}{rk:Int}(h:(nxs a ul lf).length≠0):rmL a ul (f+1) rk lf=rmR rk (nxR a ul lf)++rmL a ul f (rk+1) ((nxs a ul lf).foldl cut lf):=by rw[rmL,OR h]
def rmF (fb:LI):List Q4:=fb.map λy=>(y,1,1,-1)
def rmA (a:Zd)(fb ul:LI):List Q4:=rmF fb++rmL a ul (a.st.toNat+1) 2 (lf0 a.st.toNat fb)
def rmS (a:Zd)(fb ul:LI):List Q4:=(qL ((rmA a fb ul).map Qnb)).map (·.1)
def kpI (lf:Lf)(n:Nat):LN:=(oT n).filter λi=>lf.getD i false
def kpK (lf:Lf)(n:Nat):LI:=(kpI lf n).map λi:Nat=>(i:Int)
def kpD (lf:Lf)(D:LI)(n:Nat):LI:=(kpI lf n).map λi=>O4 D i
theorem Qps (h:lf.getD n false=true):kpI lf (n+1)=kpI lf n++[n]:=by
 unfold kpI;rw[Nv,LZ,Mc,OS h];rfl
theorem Qpt (h:lf.getD n false=false):kpI lf (n+1)=kpI lf n:=by
 unfold kpI;rw[Nv,LZ,Mc,OR (by rw[h];decide)];exact LS _
structure yV (L:LN)(H:xx)(c0 c1 c2:O0)(a:Zd)(fb ul:LI):Prop where
 k:QQ L H c0 (kpK (Qal a fb ul) a.st.toNat)
 d:QQ L H c1 (kpD (Qal a fb ul) (dsts a (Qal a fb ul)) a.st.toNat)
 r:Zv L H c2 (rmS a fb ul).length 4 ((rmS a fb ul).flatMap q4C)
theorem yV.st {L:LN}{w w':OZ}{c0 c1 c2:O0}{a:Zd}{fb ul:LI}(h:yV L w.heap c0 c1 c2 a fb ul)(E:O3 L w w'):yV L w'.heap c0 c1 c2 a fb ul:=⟨h.k.st E,h.d.st E,h.r.st E⟩
theorem yV.up {L L':LN}{H:xx}{c0 c1 c2:O0}{a:Zd}{fb ul:LI}(h:yV L H c0 c1 c2 a fb ul)(E:∀b∈L',b∈L\/H.size<=b):yV L' H c0 c1 c2 a fb ul:=⟨h.k.up E,h.d.up E,h.r.up E⟩
theorem QmJ {rk rs:Int}:∀(l:xt),(∀x∈l.map (·.1),0<=x/\x<4096)->∃lz:List Rz,lz.flatMap qM=l.flatMap (rmC rk rs)/\lz.length=l.length/\lz.map (·.1)=rmR rk (rs,l)
 | [],_=>⟨[],U,U,U⟩
 | x::l,h=>by
  obtain⟨lz,E,G,H⟩:=QmJ (rk:=rk) (rs:=rs) l (λy I=>h y (Lk _ I));exact⟨⟨(x.1,rk,rs,x.2),h x.1 Lt⟩::lz,by rw[LM,LM,E],by simp[G],by rw[LG,H];rfl⟩
theorem Qeq:∀l:List Rz,∀u∈l.flatMap qM,u.oneCell'=true
 | [],u,h=>by cases h
 | x::l,u,h=>by
  rw[LM,Lc]at h;rcases h with h|h
  ·simp only[qM,oK,oJ,or_false]at h;rcases h with rfl|rfl|rfl|rfl <;> rfl
  exact Qeq l u h
theorem RzO.snoc {base:Nat}{v:O0}{l m:List Rz}(h:w.ownsRow base 253 4 v (l.length+m.length) (l.flatMap qM++m.flatMap qM)):RzO base w v (l++m):=by
 unfold RzO;rw[Lj,LA];exact h
abbrev K1 (k d r:O0)(n:Int):LV:=[k,d,r,oF oG n,nS,oF oG 0,nS,nS,nS]
structure ReI (b10:Nat)(q:Pz)(wB:OZ)(lf:Lf)(rn:Int)(vr:O0)(lz:List Rz)(w:OZ):Prop where
 st:O3 [b10,q.bl] wB w
 B10:Q7 w.heap b10 182 (K1 (nS) (nS) vr rn)
 R:RzO wB.heap.size w vr lz
 F:Q7 w.heap q.bl 4 (lf.map Value.bool)
 n:lf.length=q.n
section
variable {b10:Nat}{q:Pz}{wB w'':OZ}{rn:Int}{vr:O0}{lz:List Rz}
theorem ReI.I (h:ReI b10 q wB lf rn vr lz w)(E:O3 [] w w'):ReI b10 q wB lf rn vr lz w':=⟨h.st.D E,h.B10.I E,Qp h.R E,h.F.I E,h.n⟩
theorem ReI.cut (h:ReI b10 q wB lf rn vr lz w)(l:q.bl<wB.heap.size)(ne:b10≠q.bl)(G:O3 [q.bl] w w'){H:Lf}(I:Q7 w'.heap q.bl 4 (H.map Value.bool))(J:H.length=q.n):ReI b10 q wB H rn vr lz w' :=
 ⟨h.st.then G (λb E=>.inl (by simp only[oI]at E;simp[E])),h.B10.J G (oz ne),Qf h.R G (λb E=>by have:=(Qi h.R b E).1;simp only[oI];omega),I,J⟩
theorem ReI.app (h:ReI b10 q wB lf rn vr lz w)(l:q.bl<wB.heap.size)(T:b10<wB.heap.size)(ne:b10≠q.bl){G:O0}{I:List Rz}{J:Int}(O:O3 (ob vr) w w')(hR:RzO wB.heap.size w' G I)(H:O3 [b10] w' w'')
  (S:Q7 w''.heap b10 182 (K1 (nS) (nS) G J)):ReI b10 q wB lf J G I w'':=by
 have hge:=Qi h.R;exact⟨(h.st.then O (λb E=>.inr (hge b E).1)).then H (λb E=>.inl (by simp only[oI]at E;simp[E])),S,Qf hR H (λb E=>by have:=(Qi hR b E).1;simp only[oI];omega),
  (h.F.J O (λE=>ou (hge _ E).1)).J H (oz ne.symm),h.n⟩
theorem ReI.rounds (h:ReI b10 q wB lf rn vr lz w)(J:b10<wB.heap.size)(ne:b10≠q.bl){H:Int}(G:O3 [b10] w w')(I:Q7 w'.heap b10 182 (K1 (nS) (nS) vr H)):ReI b10 q wB lf H vr lz w' :=
 ⟨h.st.then G (λb E=>.inl (by simp only[oI]at E;simp[E])),I,Qf h.R G (λb E=>by have:=(Qi h.R b E).1;simp only[oI];omega),h.F.J G (oz ne.symm),h.n⟩
end
theorem QfN {vf vu:O0}{forb unc:LI}(h:ZK [] w.heap va vm ve a)(h8:ZJ a)(hf:QQ [] w.heap vf forb)(ke:∀x∈forb,0<=x/\x<a.st)(hfl:forb.length<=4096)(hu:QQ [] w.heap vu unc):
  Q5 prog 118 [.agg #[va,oF oG a.st,vm,ve],vf,vu,.bool true] w λr w'=>O3 [] w w'/\∃c0 c1 c2 c3 sa sm se o,r=.agg #[c0,c1,c2,c3,sa,oF oG (j9 a forb unc).st,sm,se,o] /\
   Zj [c0,c1,c2,c3,o]/\∀L:LN,(∀b∈L,b<w.heap.size)->ZK L w'.heap sa sm se (j9 a forb unc)/\yV L w'.heap c0 c1 c2 a forb unc:=by
 have hst0:=h8.st0;have hst1:=h8.st1;obtain⟨n,hn⟩:∃n:Nat,a.st=n:=⟨a.st.toNat,oa⟩;have h9:a.st.toNat=n:=oa
 have hS:j9 a forb unc=Qho a (zF a unc (n+1) (lf0 n forb)):=by unfold j9 Qal;rw[h9]
 have mu:rmA a forb unc=rmF forb++rmL a unc (n+1) 2 (lf0 n forb):=by unfold rmA;rw[h9]
 have gm:Qal a forb unc=zF a unc (n+1) (lf0 n forb):=by unfold Qal;rw[h9]
 refine Zk (j9 a forb unc) λSA mv=>?_;rw[mv]at hS ⊢;refine Zs func118 ntmps118 results118 ?_;refine Qe<|Qa<|QS (us:=[va,oF oG a.st,vm,ve]) U λb4 w1 kf hb4 mw=>Qa<|Qo (us:=K1 (nS) (nS) (nS) 0) U λb8 w2 kg hb8 kh=>xe ?_;have hT:=kf.D kg;have hl8:=kh.lt;have hz1:=kf.size;refine Qe<|Q2 (mw.I kg) U U<|Qb<|Qb<|Qa<|xf<|(Qhp (h.I hT) h8 hn (hf.I hT) ke (hu.I hT)).mono ?_;rintro r3 w3 ⟨ki,bp,q,rfl,my,mz,m2,hbl,hP,hF⟩;refine Qc ?_;subst my mz m2;have hq:PzQ q:=⟨h8,hn⟩;have m3:=hT.D ki;have hlF:=hF.lt;refine Qe<|Qa<|Qo (us:=K1 (nS) (nS) (nS) 0) U λb10 O hA m4 kj=>xe ?_;have gn:=m3.D hA;have hz4:=hA.size;have hU:=kj.lt;have ht:b10≠q.bl:=oa
 have go:q.bl<O.heap.size:=oa
 have m5:PzA [b10,q.bl] O.heap bp q:=(hP.up (λb E=>by
  simp only[oK,oJ,or_false]at E;rcases E with rfl|rfl
  ·exact .inr m4
  exact .inl oe)).I hA
 have m6:=Qln q.n forb;have hB:∀{w'},O3 [b10,q.bl] O w'->PzA [] w'.heap bp q:=λhs=>(m5.st hs).up oe;refine Qd<|Qm<|QL (hf.I gn) U<|Qb<|xe<|Qg<|QC (α:=Nat×Int×O0×List Rz) [(12,12),(25,39)] (λz=>[(25,oF oG z.1)]) (λz w'=>z.1<=forb.length/\ReI b10 q O (lf0 q.n forb) z.2.1 z.2.2.1 z.2.2.2 w'/\z.2.2.2.length=z.1/\(z.2.1=0\/z.2.1=1)/\z.2.2.2.map (·.1)=rmF (forb.take z.1)) (λz=>forb.length - z.1) ol (0,0,nS,[]) La
  ⟨Ln _,⟨O3.Z _ _,kj,QJ _ _ _ _,hF.I hA,m6⟩,U,.inl U,U⟩ ?_
 rintro⟨k,rn,vr,lz⟩ g w5 ⟨hk,I,gp,hV,hW⟩;simp only[]at hk I gp hV hW;have m7:QQ [] w5.heap vf forb:=((hf.up (L':=[b10,q.bl]) (λb E=>by
  simp only[oK,oJ,or_false]at E;exact .inr oa)).I gn |>.st I.st).up oe
 refine Qe<|QX U U<|xe<|Qd<|QG U (λgq=>?_) (λgq=>?_)
 ·refine Qx ?_;have hcl:=Qmd (lf0 q.n forb);have m8:forb.length<=k:=by have hX:¬(k:Int)<(forb.length:Int):=gq;omega
  rw[Ls m8]at hW;refine Qd<|Qe<|Qc<|Qg<|QC (α:=Nat×Nat×Int×O0×List Rz×Lf) [(13,14),(16,16),(40,71)] (λz=>[(13,oF oG z.2.1)])
   (λz w'=>ReI b10 q O z.2.2.2.2.2 z.2.2.1 z.2.2.2.1 z.2.2.2.2.1 w'/\z.2.1+z.1=q.n+3/\z.2.2.2.2.1.length<=4096+z.2.1*1000000/\zF q.a q.unc z.1 z.2.2.2.2.2=zF q.a q.unc (q.n+1) (lf0 q.n forb)/\V2 z.2.2.2.2.2+1<=z.1/\z.2.2.2.2.1.map (·.1)++rmL q.a q.unc z.1 (z.2.1:Int) z.2.2.2.2.2=rmA q.a forb q.unc) (λz=>z.1) ol
   (q.n+1,2,rn,vr,lz,lf0 q.n forb) La ⟨I,oh,oh,U,oh,by rw[mu];simp only[hW];rfl⟩ ?_
  rintro⟨f,rank,rn,vr,lz,lf⟩ g w6 ⟨I,m9,gp,hC,pa,hE⟩;simp only[]at I m9 gp hC pa hE;refine Qd<|Qg<|Qm<|Qb<|Qb<|Qa<|xf<|(QhX (hB I.st) hq I.F I.n rank).mono ?_;rintro r7 w7 ⟨hY,hG,kk⟩;have hh:=Qlb q.a q.unc lf;have kn:=λ(f:Nat) (h:(nxs q.a q.unc lf).length≠0)=>QhF (a:=q.a) (ul:=q.unc) (f:=f) (rk:=(rank:Int)) (lf:=lf) h;refine Zk (nxR q.a q.unc lf) λNR pc=>?_;rw[pc]at hG kk hh kn;obtain⟨rs,l⟩:=NR;simp only[]at hG kk hh;refine Qc ?_;have T:=I.I hY;have ko:Zv [] w7.heap r7 l.length 4 (l.flatMap (rmC rank rs)):=QH hG oa oe;have gr:(nxs q.a q.unc lf).length=l.length:=by rw[<-hh,Lh]
  have gs:=QnA (ul:=q.unc) h8 hn I.n;rw[<-hh]at gs;refine Qd<|Qm<|QL ko U<|x (Q9 U U)<|xe<|QZ U (λgt=>?_) (λgt=>?_)
  ·refine Qx ?_;have hH:l.length=0:=by have h49:(l.length:Int)=0:=gt;omega
   rw[QfP (by rw[gr];exact hH)]at hC;rw[QhG (by rw[gr];exact hH),LS]at hE;rw[<-hC]at hS gm;refine Qe<|Q0 U<|Qs U T.B10 U U<|Qa<|xf<|(QfG T.R oa).mono ?_;rintro r8 V ⟨he,gu⟩;have pd:rmS q.a forb q.unc=(qL lz).map (·.1):=by unfold rmS;rw[<-hE,Qbc]
   refine xe ?_;have hge:=Qi T.R;have gv:O3 [b10,q.bl] O V:=T.st.then he (λb E=>.inr (hge b E).1);have gw:Q7 V.heap b10 182 (K1 (nS) (nS) vr rn):=T.B10.J he (λE=>ou (hge _ E).1);have kq:Q7 V.heap q.bl 4 (lf.map Value.bool):=T.F.J he (λE=>ou (hge _ E).1);have kr:=Qt gu;have hz8:=gv.size;refine Qd<|Qm<|Qa<|xf<|(UG (hB gv) hq kq T.n).mono ?_;rintro r9 H ⟨Y,bD,rfl,hbD,kt,hZ⟩;refine Zk (dsts q.a lf) λD hD=>?_;rw[hD]at kt hZ;have ku:QQ [b10] H.heap (.slice (some ⟨bD,0,none⟩) q.n q.n) D:=by
    have S:=kt.arr (L:=[b10]) om (n:=q.n) (cap:=q.n) (sz:=1) (by simp[hZ]) oa (Lx _);unfold QQ;rw[hZ];exact S
   have pf:=gv.D Y;have hz9:=Y.size;have pg:=kq.I Y;refine QL ku U<|Qb<|xe<|Qg<|QC (α:=Nat×O0×O0×LI×LI) [(17,18),(79,107)] (λz=>[(79,oF oG z.1)])
    (λz w'=>z.1<=D.length/\O3 [b10] H w'/\Q7 w'.heap b10 182 (K1 z.2.1 z.2.2.1 vr rn)/\Qu 3 H.heap.size w' z.2.1 z.2.2.2.1/\Qu 3 H.heap.size w' z.2.2.1 z.2.2.2.2/\Dj z.2.1 z.2.2.1/\z.2.2.2.1.length<=z.1/\z.2.2.2.2.length<=z.1/\z.2.2.2.1=kpK lf z.1/\z.2.2.2.2=kpD lf D z.1) (λz=>D.length - z.1) ol (0,nS,nS,[],[]) La
    ⟨Ln _,O3.Z _ _,gw.I Y,QJ _ _ _ _,QJ _ _ _ _,Dj.nil' _,Lx _,Lx _,U,U⟩ ?_
   rintro⟨i,vk,vd,lk,ld⟩ g hv ⟨hi,ha,hJ,hK,hp,ga,ph,pj,gb,gc⟩;simp only[]at hi hJ hK hp ga ph pj gb gc;have hz10:=ha.size;have gg:O3 [b10,q.bl] O hv:=pf.then ha (λb E=>.inl (by simp only[oI]at E;simp[E]));have kv:Q7 hv.heap q.bl 4 (lf.map Value.bool):=pg.J ha (oz ht.symm);refine Qe<|QX U U<|xe<|Qd<|QG U (λgx=>?_) (λgx=>?_)
   ·refine Qx<|Qm<|Qa<|xf<|(zK (hB gg) hq kv T.n).mono ?_;rintro r11 pm ⟨hr,_,o,rfl,⟨sa,sm,se,rfl,gy⟩,gz⟩;rw[<-hS]at gy;have hw:=gy [] oe;refine Qb<|Q8 U U<|Q8 U U<|Q0 U<|Qa<|YM (us:=[sa,oF oG SA.st,sm,se]) (hJ.I hr) U (by rw[<-hS];rfl) U oe ⟨hw.al.one,rfl,hw.mr.one,hw.ed.one,Z⟩ rfl λw12 gh pn =>
     Q0 rfl<|Qa<|QA (j:=8) (u:=o) pn U U oe gz λw13 gi po=>xe ?_
    have pp:b8∉[b10,q.bl]:=oq
    have kw:b8∉[b10]:=om
    have pu:=(((((kh.I (ki.D hA)).J gg pp).I hr).J gh kw).J gi kw);refine Qe<|Q2 po U U<|Qa<|Qj (us:=[vk,vd,vr,oF oG rn,sa,oF oG SA.st,sm,se,o]) pu U U U U ⟨Qt hK,Qt hp,kr,U,hw.al.one,U,hw.mr.one,hw.ed.one,gz,Z⟩ λpw g0 pz=>xe ?_;have p0:∀b∈[b10,q.bl],w.heap.size<=b:=λb E=>by simp only[oK,oJ,or_false]at E;omega
    have p1:O3 [] w pw:=((((gn.then gg (λb E=>.inr (p0 b E))).D hr).O gh oa).O gi oa).O g0 oa;refine Ql ⟨[.agg #[vk,vd,vr,oF oG rn,sa,oF oG SA.st,sm,se,o]],⟨⟨_,U,Qn U (pz.at (L:=[]) oe).cells⟩,Z⟩,p1,vk,vd,vr,oF oG rn,sa,sm,se,o,rfl,⟨Qt hK,Qt hp,kr,rfl,gz,Z⟩,λL hL=>?_⟩;have gj:∀N,O.heap.size<=N->∀b∈b10::b8::L,b<N:=λN hN b E=>by
     simp only[oK]at E;rcases E with rfl|rfl|E
     ·omega
     ·omega
     have:=hL b E;omega
    have S:=gy (b10::b8::L) (gj _ oa);have h2:=((S.st (gh.mono oe)).st (gi.mono oe)).st (g0.mono oe);have p2:i=q.n:=by have p3:¬(i:Int)<(D.length:Int):=gx;omega
    subst p2;have hrl:(qL lz).length=lz.length:=zx lz;have h3:yV (b10::b8::L) hv.heap vk vd vr q.a forb q.unc:=by
     refine⟨?_,?_,?_⟩
     ·rw[gm,h9,<-gb];exact Qu.ints hK oa (gj _ oa)
     ·rw[gm,h9,hD,<-gc];exact Qu.ints hp oa (gj _ oa)
     rw[pd,Lh,QlJ];have p4:=Qi gu;refine(((QH gu oa (λb E hbL=>ov (p4 b E).1 (gj _ (Lx _) b hbL)):Zv (b10::b8::L) V.heap vr (qL lz).length 4 ((qL lz).flatMap qM)).I Y).st (ha.mono oe))
    have h4:=((((h3.st (hr.any)).st (gh.mono oe)).st (gi.mono oe)).st (g0.mono oe)).up (L':=L) (λb E=>.inl (by simp[E]));exact⟨h2.up (λb E=>.inl (by simp[E])),h4⟩
   refine Qh ?_;have hz:i<D.length:=by have p3:(i:Int)<(D.length:Int):=gx;omega
   have g2:i<lf.length:=by rw[T.n,<-hZ];exact hz
   have p5:lf[i]'g2=lf.getD i false:=by simp[oQ,g2]
   refine Qd<|Qg<|Qm<|xii (i:=i) (ku.st ha) U U hz λa82 kx=>?_;refine Zk (D[i]'hz) λd hd=>?_;rw[hd]at kx;refine x (QD kx U)<|x Qk<|Qc<|Qm<|Yb U<|Qs U (hB gg).B U U<|Qb<|x (ZB (i:=i) U U oa)<|x (v:=.bool (lf.getD i false)) ((JS (i:=i) kv U g2).D (by rw[p5]))<|xe<|QW U (λg3=>?_) (λg3=>?_)
   ·have hM:∀{v:O0} {l:LI} {w':OZ},Qu 3 H.heap.size w' v l->b10∉ob v:=λho G=>ou (Qi ho b10 G).1
    refine Qe<|Q0 U<|Qs U hJ U U<|Qb<|Qa<|QB (us:=[[oF oG i]]) U U og oe ⟨rfl,rfl,Z⟩ λb95 y1 h5 hb95 p6=>Qa<|Za (m:=1) (news:=[oF oG i]) (L:=[]) (Qp hK h5) rfl rfl rfl (p6.at oe) (by simp[Value.oneCell']) oa (ou h5.size) λhO y2 kz gk p7 =>
     Q0 rfl<|Q0 U<|Qa<|QA (j:=0) (u:=hO) ((hJ.I h5).J gk (hM hK)) U U oe (Qt kz) λy3 g4 k0=>xe ?_
    have p8:Qu 3 H.heap.size y2 hO (lk++[(i:Int)]):=Qu.snoc kz;have hzy1:=h5.size;have hzy2:=gk.size;have hzy3:=g4.size;have p9:Qu 3 H.heap.size y2 vd ld:=Qf (Qp hp h5) gk (λb E G=>ga b G E);have k4:Dj hO vd:=λb E G=>by
     rcases p7 b E with S|S
     ·exact ga b S G
     have:=Zb hp b G;omega
    have k5:∀{v:O0} {l:LI},Qu 3 H.heap.size y2 v l->Qu 3 H.heap.size y3 v l:=λho=>Qf ho g4 (λb E G=>by simp only[oI]at G;subst G;exact hM ho E);have k6:=k5 p8;have hD3:=k5 p9;have qc:O3 [b10] H y3:=(((ha.D h5).then gk (λb E=>.inr (Qi hK b E).1))).Q g4;refine Qw<|Q0 U<|Qs U k0 U U<|Qb<|Qa<|QB (us:=[[oF oG d]]) U U og oe ⟨rfl,rfl,Z⟩ λb103 y4 h6 hb103 qf=>Qa<|Za (m:=1) (news:=[oF oG d]) (L:=[]) (Qp hD3 h6) rfl rfl rfl (qf.at oe) (by simp[Value.oneCell']) oa (ou h6.size) λg5 y5 k7 g6 ql =>
     Q0 rfl<|Q0 U<|Qa<|QA (j:=1) (u:=g5) ((k0.I h6).J g6 (hM hD3)) U U oe (Qt k7) λy6 g7 qo=>xe ?_
    have k8:Qu 3 H.heap.size y5 g5 (ld++[d]):=Qu.snoc k7;have k9:=Qps (lf:=lf) (n:=i) g3;have qr:O4 D i=d:=by unfold O4;simp[oQ,hz,hd]
    have ma:Qu 3 H.heap.size y5 hO (lk++[(i:Int)]):=Qf (Qp k6 h6) g6 (λb E G=>k4 b E G);have hzy4:=h6.size;refine Qw<|QN U U<|Qb<|xe<|⟨(i+1,hO,g5,_,_),oh,La,hz,(((qc.D h6).then g6 (λb E=>.inr (Qi hD3 b E).1))).Q g7,qo,Qf ma g7 (λb E G=>by simp only[oI]at G;subst G;exact hM ma E),Qf k8 g7 (λb E G=>by simp only[oI]at G;subst G;exact hM k8 E),λb E G=>?_,by simp only[oM,oO];omega,by simp only[oM,oO];omega,by simp only[];unfold kpK;rw[k9,Lp,gb];rfl,by simp only[];unfold kpD;rw[k9,Lp,gc,<-qr];rfl⟩;rcases ql b G with S|S
    ·exact k4 b E S
    have:=Zb k6 b E;omega
   refine Qh<|Qw<|QN U U<|Qb<|xe ?_;have mf:=Qpt (lf:=lf) (n:=i) g3;exact⟨(i+1,vk,vd,lk,ld),oh,La,hz,ha,hJ,hK,hp,ga,oh,oh,by unfold kpK;rw[mf];exact gb,by unfold kpD;rw[mf];exact gc⟩
  refine Qh ?_;have hH:¬l.length=0:=λe=>gt (by show(l.length:Int)=0;omega);have g8:(nxs q.a q.unc lf).length≠0:=by rw[gr];exact hH
  have q0:=Qh9 g8;refine Exists.elim (Nat.exists_eq_succ_of_ne_zero (show f≠0 by omega)) λf' q1=>?_;subst q1;rw[QfO g8,<-hh]at hC;rw[kn f' g8,<-hh]at hE;rw[<-hh]at q0;refine Exists.elim (QmJ (rk:=(rank:Int)) (rs:=rs) l (λx hx=>ou (gs x hx))) λln h7=>?_;refine Qd<|Qm<|QL ko U<|Qb<|xe<|Qg<|QC (α:=Nat) [(16,16),(51,62)] (λz=>[(51,oF oG z)]) (λz w'=>z<=l.length/\O3 [q.bl] w7 w'/\ReI b10 q O (((l.take z).map (·.1)).foldl cut lf) rn vr lz w') (λz=>l.length - z) ol 0 La ⟨Ln _,O3.Z _ _,T⟩ ?_;rintro j g V ⟨hj,he,J⟩;have hV:∀b∈ob r7,b≠q.bl:=λb E e=>ov (Qi hG b E).1 I.st.size
  have q2:RmO w6.heap.size V r7 rank rs l:=Qf hG he (λb E G=>hV b E (oz G));have mg:Zv [q.bl] V.heap r7 l.length 4 (l.flatMap (rmC rank rs)):=QH q2 oa (λb E G=>hV b E (oz G));refine Qe<|QX U U<|xe<|Qd<|QG U (λg9=>?_) (λg9=>?_)
  ·refine Qx ?_;have q3:l.length<=j:=by have gl:¬(j:Int)<(l.length:Int):=g9;omega
   rw[Ls q3]at J;obtain⟨ad,cap7,q4,_,q5⟩:∃ad cap,r7=.slice (some ad) l.length cap/\l.length<=cap/\At [q.bl] V.heap ad (l.flatMap (rmC rank rs)):=by
    rcases mg.2.2 with⟨_,h0⟩|S
    ·exact OU h0 hH
    exact S
   refine Qe<|Q0 U<|Qs U J.B10 U U<|Qb<|Qa<|Za (m:=l.length) (news:=l.flatMap (rmC rank rs)) (L:=[q.bl]) J.R U q4 (by rw[<-h7.1,Qah,h7.2.1]) q5 (by rw[<-h7.1];exact Qeq ln) oa J.st.size λka j1 mh mj hn22 =>
    Q0 rfl<|Q0 U<|Qa<|QA (j:=2) (u:=ka) (J.B10.J mj (λE=>ou (Qi J.R _ E).1)) U U oe (Qt mh) λw23 j2 j3=>xe ?_
   have za:RzO O.heap.size j1 ka (lz++ln):=RzO.snoc (by rw[h7.1,h7.2.1];exact mh);have mo:=J.app go hU ht mj za j2 j3;refine Qw<|Qb<|Q0 U<|Qa<|QA (j:=3) (u:=oF oG rank) mo.B10 U U oe rfl λw24 zb zv=>xe ?_;have z0:=mo.rounds hU ht zb zv;have z1:(-9223372036854775808:Int)<=(rank:Int)+1:=oa
   have z2:(rank:Int)+1<=9223372036854775807:=oa
   refine Qw<|Qb<|x (XI U U ⟨z1,z2⟩)<|Qc ?_;exact⟨(f',rank+1,(rank:Int),ka,lz++ln,(l.map (·.1)).foldl cut lf),oh,La,z0,oh,by simp only[oM];omega,hC,oh,by simp only[Og,h7.2.2];rw[LB];exact hE⟩
  refine Qh ?_;have hg:j<l.length:=by have gl:(j:Int)<(l.length:Int):=g9;omega
  have z3:l.take (j+1)=l.take j++[l[j]'hg]:=Ll hg;have mq:((l.take (j+1)).map (·.1)).foldl cut lf=cut (((l.take j).map (·.1)).foldl cut lf) (l[j]'hg).1:=by rw[z3,Lp,Mz];rfl
  have z4:=gs (l[j]'hg).1 (LK (Lm hg));refine Zk (l[j]'hg) λy hy=>?_;rw[hy]at mq z4;have z5:y.1=(y.1.toNat:Int):=oa
  refine Qd<|Qg<|Qe<|O6 (g:=rmC rank rs) (i:=j) (Qej rank rs) mg U U hg λa53 gl=>?_;rw[hy]at gl;refine x (Qv gl U U)<|Qa<|Qo (us:=[oF oG 0,oF oG 0,oF oG 0,oF oG 0]) U λb16 H Y hb16 kb=>Qa<|Qj (us:=rmC rank rs y) kb U U U U oC λhv ha kb=>xe ?_;have ms:O3 [] V hv:=Y.O ha hb16;have kc:=J.I ms;have hnn:=J.n;refine QR (O3 [] hv) [oD 0,oD 1,oD 2,oD 3,oD 4,oD 5,oD 6,oE 7] mixed ol od (O3.C _ _) ?_;refine p Qy<|p (YO U)<|p (QP U)<|pq (λ_ hc=>Qq ((hB kc.st).B.I hc) U U)<|p (QP U)<|pq (λ_ hc=>Qq (kb.I hc) U U) <|
   p (λ_=>ZB (i:=y.1.toNat) U (OT (Value.int .i64) z5) oa)<|pkl (hl:=by kernel_rfl)<|zO (i:=y.1.toNat) (kc.F.I (O3.C _ _)) U U oa λpm hr hF11=>pe ?_
  refine Qw<|QN U U<|Qb<|xe<|⟨j+1,oa,La,hg,((he.D ms).D (O3.C _ _)).Q hr,?_⟩;rw[mq];exact(kc.I (O3.C _ _)).cut go ht hr hF11 (by rw[Qe6];exact hnn)
 refine Qh ?_;have hQ:k<forb.length:=by have hX:(k:Int)<(forb.length:Int):=gq;omega
 have hxk:=ke _ (Lm hQ);refine Zk (forb[k]'hQ) λy hy=>?_;rw[hy]at hxk;refine Qd<|Qg<|Qe<|xii (i:=k) m7 U U hQ λa27 hX=>?_;rw[hy]at hX;refine x (QD hX U)<|Qc<|Qe<|Q0 U<|Qs U I.B10 U U<|Qb<|x (Qz ⟨U,U,U,U,Z⟩)<|Qa<|QB (us:=[[oF oG y,oF oG 1,oF oG 1,oF oG (-1)]]) U U og oe ⟨rfl,rfl,Z⟩ λb34 w6 hs6 hb34 hB34=>?_;have hR:=I.I hs6;refine Qa<|Za (m:=1) (news:=[oF oG y,oF oG 1,oF oG 1,oF oG (-1)]) (L:=[]) hR.R U U U (hB34.at oe) (by simp[Value.oneCell']) oa hR.st.size λv7 w7 mt hY hn7 =>
  Q0 rfl<|Q0 U<|Qa<|QA (j:=2) (u:=v7) (hR.B10.J hY (λE=>ou (Qi hR.R _ E).1)) U U oe (Qt mt) λV he gw=>xe ?_
 have hR7:RzO O.heap.size w7 v7 (lz++[⟨(y,1,1,-1),oh⟩]):=RzO.snoc mt;have hfk:rmF (forb.take (k+1))=rmF (forb.take k)++[(y,1,1,-1)]:=by unfold rmF;rw[Ll hQ,Lp,hy];rfl
 have J:=hR.app go hU ht hY hR7 he gw;refine Qw<|Q0 U<|Qa<|QA (j:=3) (u:=oF oG 1) J.B10 U U oe rfl λH Y hB9=>xe ?_;have hI9:=J.rounds hU ht Y hB9;refine Qw<|QN U U<|Qb<|xe ?_;exact⟨(k+1,1,v7,_),oh,La,hQ,hI9,by simp only[oM,oO];omega,.inr U,by simp only[Og,hW,hfk];rfl⟩
instance:Bw prog 182 (K1 (nS) (nS) (nS) 0) [(0,3),(3,1),(4,4),(8,1)]:=⟨od,og⟩
theorem Qnh {pl:Zd}{ps:List (LI)}{l:List (LI)}:∀r∈spF c pl ps l,0<=r.st/\r.st<(l.length:Int):=λr G=>by
 unfold spF at G;obtain⟨⟨t,i⟩,H,E⟩:=MR.1 G;have hi:=List.snd_lt_add_of_mem_zipIdx H;simp only[oY]at hi;have I:r.st=(i:Int):=by
  simp only[]at E;unfold rsn at E;split at E
  ·cases E;rfl
  split at E
  ·cases E;rfl
  cases E
 omega
theorem Qnf (h:YN c=0):ZJ (spc c).a/\(∀x∈fbs (spc c),0<=x/\x<(spc c).a.st)/\(fbs (spc c)).length<=4096/\(spc c).fb.length<=4096/\J2 c.ev=0:=by
 unfold YN at h;by_cases G:Zm c≠0
 ·rw[OS G]at h;exact OU h G
 rw[OR G]at h;have V:Zm c=0:=Lo.1 G;have H:=Z5 V;by_cases I:UT (O5 c.co)≠0
 ·rw[OS I]at h;exact OU h I
 rw[OR I]at h;cases J:xh (O5 c.co)with
 | none=>rw[J]at h;cases h
 | some z =>
  rw[J]at h;simp only[]at h;by_cases O:UT (O5 c.co++O5 c.rq)≠0
  ·rw[OS O]at h;exact OU h O
  rw[OR O]at h;cases S:xh (O5 c.co++O5 c.rq)with
  | none=>rw[S]at h;cases h
  | some y =>
   have T:∀a∈O5 c.co++O5 c.rq,ZJ a:=λa E=>by
    rcases Lc.1 E with E|E
    ·exact YR H.co a E
    exact YR H.rq a E
   have hsp:=(Jp T (A:=y.1) (Q:=y.2) S).1;have Y:=Qc3 (c:=c) (pl:=z.1) (ps:=z.2) (sa:=y.1) (ts:=y.2) J S;have hl:=Qee c z.1 z.2 y.2;have hb:=hsp.le;rw[Y];unfold fbs;refine⟨hsp.okay T,λx hx=>?_,by rw[Lh];simp only[];omega,oh,H.e0⟩;obtain⟨r,hr,rfl⟩:=LD.1 hx;have:=Qnh r hr;rw[hsp.st];exact this
theorem st4 (r:Rsn):(ZT r).length=4:=rfl
theorem QcY {c:CL}(h0:ZF L w.heap c)(hN:Kb w 4096):
  Q5 prog 65 [c.val] w λr w'=>O3 [] w w'/\∃us c0 c1 c2 c3 sa sm se o,r=.tuple #[.agg us.toArray,.agg #[c0,c1,c2,c3,sa,oF oG (if YN c.V=0 then(suA c.V).st else 0),sm,se,o],oF oG (YN c.V)]/\us.length=8/\Zj us/\Zj [c0,c1,c2,c3,sa,sm,se,o] /\
   (YN c.V≠0->sa=nS/\sm=nS/\se=nS)/\(YN c.V=0->∀L:LN,(∀b∈L,b<w.heap.size)->ZK L w'.heap sa sm se (suA c.V)/\yV L w'.heap c0 c1 c2 (spc c.V).a (fbs (spc c.V)) (unc c.V.ev)):=by
 have h:=h0.up (L':=[]) oe;have hj:suA c.V=j9 (spc c.V).a (fbs (spc c.V)) (unc c.V.ev):=rfl;have hO:c.V.ev=c.ev:=rfl;have hm:=Qnf (c:=c.V);refine Zk (suA c.V) λSA hP=>?_;rw[hP]at hj ⊢;refine Zk (YN c.V) λE hE=>?_;rw[hE]at hm ⊢;refine Zk (spc c.V) λS hS=>?_;rw[hS]at hm hj ⊢;rw[hO]at hm hj ⊢;refine Zs func65 ntmps65 results65 ?_;refine Qe<|Qa<|QS (us:=c.cells) U λb1 w1 h9 gu hA=>Qa<|Qo (us:=[nS,oF oG 0,nS,nS,nS,nS,nS,nS]) U λb2 w2 hy gv hn=>Qa<|Qo (us:=K1 (nS) (nS) (nS) 0) U λb3 w3 ho gw hp=>Qc ?_;have hz:=(h9.D hy).D ho;have gx:=h9.size;have gy:=hn.lt;have gz:=hp.lt;have hsp:=yw (h.I hz) (hN.I hz);rw[hE,hS]at hsp;refine Qe<|Q2 ((hA.I hy).I ho) U U<|Qa<|xf<|hsp.mono ?_;rintro r4 w4 ⟨he,v,rfl,⟨us,rfl,h2,h3⟩,hF⟩;have g0:=he.size;refine Qb<|Q8 U U<|Q8 U U<|Qa<|Qo (us:=[nS,oF oG 0,nS,nS,nS,nS,nS,nS]) U λb5 w5 hQ hR hf=>Qa<|Qj (us:=us) hf U U h2 U h3 λw6 hT hf=>Qc ?_;have T:O3 [] w4 w6:=hQ.O hT hR;have h4:=(hz.D he).D T;have hB:=(hn.I (ho.D he)).I T;have hC:=(hp.I he).I T;have g2:=hf.lt;refine Qd<|Qm<|ZA U U<|xe<|QZ rfl (λhq=>?_) (λhq=>?_)
 ·refine Qe<|x (Zt [] Z)<|x (Zt [] Z)<|Qb<|Qa<|Qj (us:=[nS,oF oG 0,nS,nS,nS,nS,nS,nS]) hB U U U U ⟨U,U,U,U,U,U,U,U,Z⟩ λw7 G hV =>
   Qa<|Qj (us:=K1 (nS) (nS) (nS) 0) (hC.J G om) U U U U ⟨U,U,U,U,U,U,U,U,U,Z⟩ λw8 hs hW=>Qc<|Ql ⟨[.agg #[nS,oF oG 0,nS,nS,nS,nS,nS,nS],.agg (K1 (nS) (nS) (nS) 0).toArray,oF oG E],⟨⟨_,U,Qn U ((hV.J hs om).at (L:=[]) oe).cells⟩,⟨_,rfl,Qn rfl (hW.at (L:=[]) oe).cells⟩,rfl,Z⟩,(h4.O G oa).O hs oa,[nS,oF oG 0,nS,nS,nS,nS,nS,nS],nS,nS,nS,oF oG 0,nS,nS,nS,nS,by rw[OR hq];rfl,U,⟨U,U,U,U,U,U,U,U,Z⟩,⟨U,U,U,U,U,U,U,U,Z⟩,λ_=>⟨U,U,U⟩,λe=>OU e hq⟩
 have ht:E=0:=Lo.1 hq;obtain⟨hX,hY,hZ,g3,hD⟩:=hm ht;obtain⟨va,vm,ve,v1,v2,v3,v4,cos,rqs,ga,_,_,gb⟩:=hF ht;have gc:us=[va,oF oG S.a.st,vm,ve,v1,v2,v3,v4]:=by
  have h1:=OT (λv=>match v with|Value.agg a=>a.toList|_=>[]) ga
  simpa using h1
 subst gc;have hG:=(gb [] oe);have gg:=hG.1.I T;have hH:=hG.2.2.2.2.I T;refine Qh<|Qe<|Qc<|Qd<|Qe<|Qs U hf U U<|QL hH U<|Qb<|xe<|Qg<|QC (α:=Nat×O0) [(7,7),(9,9),(24,33)] (λz=>[(7,z.2),(24,oF oG z.1)]) (λz w'=>z.1<=S.fb.length/\O3 [] w6 w'/\Qu 3 w6.heap.size w' z.2 ((S.fb.take z.1).map (·.st))) (λz=>S.fb.length - z.1) ol (0,nS) oA ⟨Ln _,O3.Z _ _,QJ _ _ _ _⟩ ?_;rintro⟨k,vf⟩ g w7 ⟨hk,G,O⟩;simp only[]at hk O;refine Qe<|QX U U<|xe<|Qd<|QG U (λh5=>?_) (λh5=>?_)
 ·refine Qx ?_;have gh:S.fb.length<=k:=by have hu:¬(k:Int)<(S.fb.length:Int):=h5;omega
  rw[Ls gh]at O;have O:Qu 3 w6.heap.size w7 vf (fbs S):=O;have gi:=h4.D G;have gj:=G.size;refine Qe<|Q0 U<|x (Qq ((hA.I (hy.D ho)).I ((he.D T).D G)) U U)<|Qa<|xf<|(QgM (h.ev.I gi)).mono ?_;rintro g4 J ⟨V,vu,rfl,hU⟩;rw[OS hD]at hU;refine Qb<|Q8 U U<|Q8 U U<|x Qk<|Qc<|Qd<|Qm<|ZA U U<|xe<|QZ U (λgk=>OU hD gk) (λ_=>?_);refine Qh ?_;have h2:(unc c.ev).length<=1099511627776:=LJ (QaG _ c.ev 0) h.ev.arr.le;have Y:=G.D V;have gl:=gg.I Y;have hv:O3 [] J { J with drawn:=J.drawn+1 }:=O3.C _ _
  have hI:=hf.I Y;have hJ:b5∉[b2]:=om
  have g5:=Y.size;refine Qd<|QR (O3 [b2] J) [oD 0,oD 1,oD 2,oD 3,oD 4,oE 5,oE 6,oE 7,oD 8] mixed ol od (O3.C _ _) ?_;refine pq (λ_ hc=>Zx (hI.J hc hJ) U U)<|p (QP U)<|pq (λ_ hc=>Zl (us:=[va,oF oG S.a.st,vm,ve]) (hI.J hc hJ) U U U) <|
   p Qy<|p Qy<|pk<|xf<|(QfN (gl.I hv) hX (((Qu.ints (L:=[]) O oa oe).I V).I hv) hY hZ ((Qu.ints (L:=[]) hU h2 oe).I hv)).mono ?_
  rintro g6 g7 ⟨gm,c0,c1,c2,c3,sa,sm,se,o,rfl,H,h6⟩;have hg:=hv.D gm;refine⟨hg.any,?_⟩;have hK:j9 S.a (fbs S) (unc c.ev)=SA:=hj.symm;rw[hK]at h6;have ha:=(h6 [] oe).1;refine pk<|Qj (us:=[va,oF oG S.a.st,vm,ve,v1,v2,v3,v4]) ((hB.I Y).I hg) U U U U h3 λg8 hh hn=>⟨hg.any.Q hh,?_⟩;refine pkl (hl:=by kernel_rfl)<|Qj (us:=[c0,c1,c2,c3,sa,oF oG SA.st,sm,se,o]) (((hC.I Y).I hg).J hh om) U (by rw[<-hK];rfl) U U ⟨H.1,H.2.1,H.2.2.1,H.2.2.2.1,ha.al.one,U,ha.mr.one,ha.ed.one,H.2.2.2.2.1,Z⟩ λg9 hw hp=>p ZH<|pe ?_;have gn:b2∉[b3]:=om
  refine Ql ⟨[.agg #[va,oF oG S.a.st,vm,ve,v1,v2,v3,v4],.agg #[c0,c1,c2,c3,sa,oF oG SA.st,sm,se,o],oF oG 0],⟨⟨_,U,Qn U ((hn.J hw gn).at (L:=[]) oe).cells⟩,⟨_,rfl,Qn rfl (hp.at (L:=[]) oe).cells⟩,rfl,Z⟩,
   (((h4.D Y).D hg).O hh oa).O hw oa,_,c0,c1,c2,c3,sa,sm,se,o,by rw[ht,OS rfl];rfl,U,h3,⟨H.1,H.2.1,H.2.2.1,H.2.2.2.1,ha.al.one,ha.mr.one,ha.ed.one,H.2.2.2.2.1,Z⟩,λe=>OU ht e,λ_ L hL=>?_⟩
  have h1:=h6 (b2::b3::L) (λb I=>by
   have ka:({ J with drawn:=J.drawn+1 }:OZ).heap.size=J.heap.size:=rfl
   simp only[oK]at I;rcases I with rfl|rfl|I
   ·omega
   ·omega
   have:=hL b I;omega)
  exact⟨((h1.1.st (hh.mono oe)).st (hw.mono oe)).up (λb I=>.inl (by simp[I])),((h1.2.st (hh.mono oe)).st (hw.mono oe)).up (λb I=>.inl (by simp[I]))⟩
 refine Qh ?_;have hi:k<S.fb.length:=by have hu:(k:Int)<(S.fb.length:Int):=h5;omega
 have hM:S.fb.take (k+1)=S.fb.take k++[S.fb[k]'hi]:=Ll hi;have kb:((S.fb.take k).map (·.st)).length=k:=by rw[Lh,Ly];omega
 refine Zk (S.fb[k]'hi) λr hr=>?_;rw[hr]at hM;refine Qd<|Qg<|Qe<|O6 (g:=ZT) (i:=k) st4 (hH.I G) U U hi λkc hu=>?_;rw[hr]at hu;refine x (Qv hu U U)<|Qa<|Qo (us:=[oF oG 0,oF oG 0,oF oG 0,oF oG 0]) U λb9 w8 hs go h7=>Qa<|Qj (us:=ZT r) h7 U U U U oC λw9 gp h7=>xe ?_;have h8:O3 [] w7 w9:=hs.O gp go;have ke:=h8.size;have gj:=G.size;refine Qw<|Qb<|Qs U h7 U U<|Qa<|QB (us:=[[oF oG r.st]]) U U og oe ⟨rfl,rfl,Z⟩ λkf J V kg gq =>
  Qa<|Za (m:=1) (news:=[oF oG r.st]) (L:=[]) (Qp O (h8.D V)) U U U (gq.at oe) (by simp[Value.oneCell']) oa (ou V.size) λgr kh gs gt ki=>Qc<|Qw<|QN U U<|Qb<|xe ?_
 refine⟨(k+1,gr),oh,oA,hi,((G.D h8).D V).then gt (λb I=>.inr (Qi O b I).1),?_⟩;simp only[];rw[hM,Lp];exact Qu.snoc gs
theorem Qlm {n:Int}(h:Q7 H b T [oF oG n])(E:b∉L):QQ L H (.slice (some ⟨b,0,none⟩) 1 1) [n]:=
 h.arr E (n:=1) (cap:=1) (sz:=1) U oa (Lx _)
theorem Qij {c:CL}{q:MV}(h0:ZF L w.heap c)(h9:QQ L w.heap q.v q.co):
  Q5 prog 64 [c.val,.agg #[oF oG q.kd,oF oG q.ix,q.v]] w λr w'=>O3 [] w w'/\∃us,r=.tuple #[.agg us.toArray,oF oG (zi c.V q.m)]/\us.length=5/\Zj us/\(zi c.V q.m≠0->us=ZY)/\(zi c.V q.m=0->Qd5 w.heap.size w'.heap (.agg us.toArray) (X8 c.V q.m)):=by
 have h:=h0.up (L':=[]) oe;have Y:=h9.up (L':=[]) oe;have O:zi c.V q.m=if mdE c.V q.m≠0 then mdE c.V q.m else Qaf c.V (prt q.m):=rfl
 have hA:X8 c.V q.m=QfJ c.V (prt q.m):=rfl;rw[hA];refine Zk (zi c.V q.m) λE hE=>?_;rw[hE]at O ⊢;refine Zs func64 ntmps64 results64 ?_;refine Qe<|Qa<|QS (us:=c.cells) U λb2 w1 ht hS hh=>Qa<|QS (us:=Yh q) U λb3 w2 ha hT hu=>Qa<|Qo (us:=ZY) U λb4 w3 S hU hv=>Qc ?_;have hi:=(ht.D ha).D S;have hV:=ht.size;have hW:=ha.size;have hX:=hv.lt;refine Qd<|Qe<|Q2 ((hh.I ha).I S) U U<|Q2 (hu.I S) U U<|Qa<|xf<|(Qf6 (h.I hi) (Y.I hi)).mono ?_;rintro r4 w4 ⟨rfl,T⟩;refine Qc ?_;have hw:=hi.D T;have hY:=T.size;have hB:=((hh.I ha).I S).I T;have hj:=(hu.I S).I T;have hy:=hv.I T;refine Qm<|ZA U U<|xe<|QZ rfl (λhc=>?_) (λhc=>?_)
 ·rw[OS hc]at O;subst O;refine Qe<|x (Qz Z)<|Qb<|Qa<|Qj (us:=ZY) hy U U U U ⟨U,U,U,U,U,Z⟩ λw5 hC hD=>Qc ?_;exact Ql ⟨[.agg ZY.toArray,oF oG (mdE c.V q.m)],⟨⟨_,U,Qn U (hD.at (L:=[]) oe).cells⟩,rfl,Z⟩,hw.O hC oa,ZY,rfl,rfl,⟨rfl,rfl,rfl,rfl,rfl,Z⟩,λ_=>rfl,λh0=>OU h0 hc⟩
 rw[OR hc]at O;subst O;refine Qh<|Qe<|Qs U hj U U<|x (Qz ⟨Y.cells,Z⟩)<|Qa<|Qo (us:=[nS,nS,nS,nS]) U λb7 w6 hF hG hH=>Qa<|Qj (us:=[q.v,nS,nS,nS]) hH U U U U ⟨Y.one,U,U,U,Z⟩ λw7 hI hz =>
  xe ?_
 have h2:O3 [] w4 w7:=hF.O hI hG;have hZ:=hz.lt;refine Qe<|Qs U (hj.I h2) U U<|Qa<|QB (us:=[[oF oG q.ix]]) U U og oe ⟨rfl,rfl,Z⟩ λI w8 hk ga hJ =>
  Qc ?_
 have he:=h2.D hk;have hK:=hw.D he;have gb:=hk.size;have hl:=hz.I hk;have hM:w.heap.size<=b7:=oa
 refine Q3 (α:=O0×O0×O0) [(22,33)] (λ_=>[]) (λz w'=>O3 [b7] w8 w'/\Q7 w'.heap b7 246 [q.v,z.1,z.2.1,z.2.2]/\QQ [] w'.heap z.1 (prt q.m).rq/\QQ [] w'.heap z.2.1 (prt q.m).ex/\QQ [] w'.heap z.2.2 (prt q.m).cs) ol ?_ ?_
 ·have hn:∀{w':OZ},O3 [b7] w8 w'->QQ [] w'.heap (.slice (some ⟨I,0,none⟩) 1 1) [q.ix]:=λhs=>Qlm (hJ.J hs om) oe;refine Qe<|Qs U (hj.I he) U U<|xe<|Qg<|Qe<|x (Q9 U U)<|Qc<|QZ U (λho=>?_) (λho=>?_)
  ·have hk1:q.kd=1:=ho;refine Qw<|Qb<|Q0 U<|Qa<|QA (j:=1) (u:=.slice (some ⟨I,0,none⟩) 1 1) hl U U oe rfl λJ G H=>xe ?_;refine⟨(.slice (some ⟨I,0,none⟩) 1 1,nS,nS),Z,G,H,?_,?_,?_⟩
   ·show QQ _ _ _ (if q.kd=1 then[q.ix]else[]);rw[OS hk1];exact hn G
   ·show QQ _ _ _ (if q.kd=2 then[q.ix]else[]);rw[OR oa];exact Kv _ _
   show QQ _ _ _ (if q.kd≠1/\q.kd≠2 then[q.ix]else[]);rw[OR oa];exact Kv _ _
  have hk1:¬q.kd=1:=ho;refine Qe<|x (Q9 U U)<|Qc<|QZ U (λhp=>?_) (λhp=>?_)
  ·have hf:q.kd=2:=hp;refine Qw<|Qb<|Q0 U<|Qa<|QA (j:=2) (u:=.slice (some ⟨I,0,none⟩) 1 1) hl U U oe rfl λJ G H=>xe ?_;refine⟨(nS,.slice (some ⟨I,0,none⟩) 1 1,nS),Z,G,H,?_,?_,?_⟩
   ·show QQ _ _ _ (if q.kd=1 then[q.ix]else[]);rw[OR hk1];exact Kv _ _
   ·show QQ _ _ _ (if q.kd=2 then[q.ix]else[]);rw[OS hf];exact hn G
   show QQ _ _ _ (if q.kd≠1/\q.kd≠2 then[q.ix]else[]);rw[OR oa];exact Kv _ _
  have hf:¬q.kd=2:=hp;refine Qw<|Qb<|Q0 U<|Qa<|QA (j:=3) (u:=.slice (some ⟨I,0,none⟩) 1 1) hl U U oe rfl λJ G H=>xe ?_;refine⟨(nS,nS,.slice (some ⟨I,0,none⟩) 1 1),Z,G,H,?_,?_,?_⟩
  ·show QQ _ _ _ (if q.kd=1 then[q.ix]else[]);rw[OR hk1];exact Kv _ _
  ·show QQ _ _ _ (if q.kd=2 then[q.ix]else[]);rw[OR hf];exact Kv _ _
  show QQ _ _ _ (if q.kd≠1/\q.kd≠2 then[q.ix]else[]);rw[OS ⟨hk1,hf⟩];exact hn G
 rintro⟨v1,v2,v3⟩ g J ⟨G,H,h3,h4,h5⟩;simp only[]at H h3 h4 h5;have hg:O3 [] w J:=hK.O G hM;have gc:=G.size;have hN:Q7 J.heap b2 44 c.cells:=(hB.I he).J G (by have:=hh.lt;simp only[oI];omega);have hO:Q7 J.heap b4 44 ZY:=(hy.I he).J G om;refine Qe<|Q2 hN U U<|Q2 H U U<|Qa<|xf<|(QdK (p:=prt q.m) (h.I hg) (Y.I hg) h3 h4 h5).mono ?_;rintro gg gh ⟨h6,us,rfl,hq,h7,hP,hQ⟩;refine Q8 rfl U<|Q8 U U<|Qa<|Qj (us:=us) (hO.I h6) U U hq U h7 λgi h8 hR=>Qc<|Ql ⟨[.agg us.toArray,oF oG (Qaf c.V (prt q.m))],⟨⟨_,U,Qn hq (hR.at (L:=[]) oe).cells⟩,rfl,Z⟩,(hg.D h6).O h8 oa,us,rfl,hq,h7,hP,λe=>?_⟩;obtain⟨cl,e1,e2,e3⟩:=hQ e;refine⟨cl,e1,e2,λL hL=>?_⟩;have h1:=e3 (b4::L) (λb V=>by
  rcases Li.1 V with rfl|V
  ·omega
  have:=hL b V;have:=hg.size;omega)
 exact(h1.st (h8.mono oe)).up (λb V=>.inl (by simp[V]))
theorem Uu (h:yS c):(O7 c).length<=96:=by have:=Qay h 3 oa;rw[QbQ]at this;omega
instance ayZi1:Ay prog 29 3 28 27:=⟨od,od⟩
theorem Qeo (p:Int×Int):∀u∈QI p,u.oneCell'=true:=by
 intro y E;simp only[QI,oK,oJ,or_false]at E;rcases E with rfl|rfl <;> rfl
instance ayAv1:Ay prog 23 5 5 1:=⟨underlying23,od⟩
def nm1 (c k:Nat):ByteArray:=⟨#[UInt8.ofNat (c+k)]⟩
def Kx (k n:Nat):JY:=if 48<=n/\n<52 then⟨nm1 97 k,false,false,false,(n:Int) - 47⟩else
 ⟨nm1 97 k,decide (((n &&& 1:Nat):Int)=1),decide (((n &&& 2:Nat):Int)=2),decide (((n &&& 4:Nat):Int)=4),0⟩
def JD (ns:LN)(i:Nat):List JY:=(oT i).map λk=>Kx k (ns.getD k 0)
theorem Qdz (ns:LN)(i:Nat):JD ns (i+1)=JD ns i++[Kx i (ns.getD i 0)]:=by
 unfold JD;rw[Nv,Lp];rfl
theorem Vu (ns:LN)(i:Nat):(JD ns i).length=i:=by unfold JD;simp
theorem QcJ (hn:ns.length=5)(hb:∀n∈ns,n<256):
  Q5 prog 13 [.agg (bys ns).toArray] w λr w'=>O3 [] w w'/\w'.ownsRow w.heap.size 146 5 r (JD ns 5).length ((JD ns 5).flatMap Zu):=by
 refine Zs func13 ntmps13 results13 ?_;refine Qe<|Qa<|QS (us:=bys ns) U λb1 w1 hj hI hm=>Qc ?_;have hs:=hj.size;refine Qe<|Qc<|Qd<|Qe<|Qc<|Qg<|QC (α:=Nat×O0) [(3,53)] (λz=>[(3,z.2),(4,oF oG z.1)]) (λz w'=>z.1<=5/\O3 [] w1 w'/\w'.ownsRow w1.heap.size 146 5 z.2 (JD ns z.1).length ((JD ns z.1).flatMap Zu)) (λz=>5 - z.1) ol (0,ZD) oA
  ⟨Ln _,O3.Z _ _,QJ _ _ _ _⟩ ?_
 rintro⟨k,v⟩ g w2 ⟨hk,T,O⟩;simp only[]at hk O;refine Qd<|Qm<|QX U U<|xe<|QG rfl (λh7=>?_) (λh7=>?_)
 ·refine Qx ?_;have ht:k=5:=by have h8:¬(k:Int)<5:=h7;omega
  rw[ht]at O;refine Qm<|Qc ?_;exact Ql ⟨[v],La,hj.D T,Zy O hs⟩
 have G:k<5:=by have h8:(k:Int)<5:=h7;omega
 have q:=qp (ns:=ns) (j:=0+k*1) oa;have ql:=Jl hb (0+k*1);have hu:ns.getD (0+k*1) 0=ns.getD k 0:=by rw[show 0+k*1=k by omega]
 rw[hu]at q ql;have ho:=Qdz ns k;have hJ:=Vu ns k;refine Zk (ns.getD k 0) λn hv=>?_;rw[hv]at q ql ho;have hw:=hm.I T;refine Qh<|Qd<|Qg<|Qm<|x (Ye (k':=.u8) U ⟨oa,oa⟩)<|QN U U<|Qa<|QB (us:=[[.int .u8 ((97:Int)+(k:Int))]]) U U og oe ⟨rfl,rfl,Z⟩ λb13 w3 ha hK hy=>?_;have h0:((97:Int)+(k:Int))=((97+k:Nat):Int):=oa
 have h1:Q7 w3.heap b13 5 [.int .u8 ((97+k:Nat):Int)]:=by rw[<-h0];exact hy
 refine x (Qnp (n:=97+k) h1 oa U)<|x (Qz ⟨U,Z⟩)<|Qa<|Qo (us:=[.string ⟨#[]⟩,.bool false,.bool false,.bool false,oF oG 0]) U λH w4 h2 hL h3=>Qa<|Qj (us:=Zu ⟨nm1 97 k,false,false,false,0⟩) h3 U U U U ⟨U,U,U,U,U,Z⟩ λw5 h4 hp =>
  xe ?_
 have he:O3 [] w2 w5:=(ha.D h2).O h4 (ou ha.size);have I:=hw.I he;have hM:=he.size;have hN:=ha.size;have hO:=hm.lt;have hP:=T.size;have hf:b1∉[H]:=om
 refine Q3 (α:=Unit) [(16,49)] (λ_=>[]) (λ_ w'=>O3 [H] w5 w'/\Q7 w'.heap H 146 (Zu (Kx k n))) ol ?_ ?_
 ·refine Q3 (α:=Bool) [(16,25)] (λz=>[(25,.bool z)]) (λz w'=>w'=w5/\(z=true↔48<=n/\n<52)) ol ?_ ?_
  ·refine Qw<|Qb<|x (Z3 (i:=k) U U G)<|Y2 I U q<|xb (Yl U U) (λhg=>?_) (λhg=>?_)
   ·have hq:(48:Int)<=(n:Int):=hg;refine Qb<|Qb<|x (Z3 (i:=k) U U G)<|Y2 I U q<|QX U U<|QK U<|xe<|⟨decide ((n:Int)<52),La,U,?_⟩;rw[decide_eq_true_eq];omega
   have hq:¬(48:Int)<=(n:Int):=hg;refine Qb<|Qr<|Qr<|Qr<|Qr<|QK U<|xe ?_;exact⟨false,La,U,⟨λh=>(by cases h),λh=>OU oa hq⟩⟩
  rintro z g6 J ⟨rfl,hz⟩;refine QW U (λV=>?_) (λV=>?_)
  ·have E:=hz.1 V;refine Qw<|Qb<|x (Z3 (i:=k) U U G)<|Y2 I U q<|x (Ye (k':=.i64) U ⟨oa,oa⟩)<|x (Jb U U ⟨oa,oa⟩)<|Q0 U<|Qa<|QA hp U U oe rfl λw7 S hh =>
    xe ?_
   refine⟨(),Z,S,?_⟩;unfold Kx;rw[OS E];exact hh
  have E:¬(48<=n/\n<52):=λh=>by have:=hz.2 h;rw[this]at V;cases V
  have Y:O3 [] J { J with drawn:=J.drawn+1 }:=O3.C _ _
  refine QR (O3 [H] J) [oD 0,oD 1,oD 2,oD 3,oD 4,oD 5,oD 6,oD 7,oD 8,oD 9,oD 10,oD 11,oD 12,oD 13,oD 14,oD 15,oE 16,oD 17,oE 18,oD 19,oE 20] mixed ol od (O3.C _ _) ?_;refine p Qy<|p (λ_=>Z3 (i:=k) U U G)<|pq (λ_ E=>Qq (I.J E hf) U q)<|p (λ_=>zJ (a:=n) (b:=1) U U ql og)<|p (λ_=>Q9 U U) <|
   p Qy<|p (λ_=>Z3 (i:=k) U U G)<|pq (λ_ E=>Qq (I.J E hf) U q)<|p (λ_=>zJ (a:=n) (b:=2) U U ql og)<|p (λ_=>Q9 U U) <|
   p Qy<|p (λ_=>Z3 (i:=k) U U G)<|pq (λ_ E=>Qq (I.J E hf) U q)<|p (λ_=>zJ (a:=n) (b:=4) U U ql og)<|p (λ_=>Q9 U U)<|?_
  refine p (QP U)<|pk<|QA (hp.I Y) U U oe rfl λw7 S hh=>⟨(Y.any (L:=[H])).Q S,?_⟩;refine p (QP U)<|pk<|QA hh U U oe rfl λw8 hr h5=>⟨((Y.any (L:=[H])).Q S).Q hr,?_⟩;refine p (QP U)<|pkl (hl:=by kernel_rfl)<|QA h5 U U oe rfl λw9 h6 h9=>pe ?_;refine⟨(),Z,(((Y.any (L:=[H])).Q S).Q hr).Q h6,?_⟩;unfold Kx;rw[OR E];exact h9
 rintro _ g6 J ⟨hA,hB⟩;have hC:O3 [] w2 J:=he.O hA oa;refine Qw<|Qb<|Q2 hB U U<|Qa<|QB (us:=[Zu (Kx k n)]) U U og (show 1*5<=1000000 by omega) oA λhQ hR hD hS hE=>?_;have hi:=hC.D hD;have hT:=hi.size;refine Qa<|Za (news:=Zu (Kx k n)) (L:=[]) (Qp O hi) U U U (hE.at oe) (Qb4 _) oa oa λhF hU hG hH hV =>
  Qc<|Qw<|Qb<|QN U U<|Qc<|⟨(k+1,hF),oh,oA,G,(T.D hi).then hH (λc E=>.inr (Qi O c E).1),?_⟩
 simp only[];rw[ho,Lj,LA];simpa using hG
def X1 (n m:Nat):LI:=(oT n).map λk:Nat=>if k<m then(k:Int)else -1
theorem jB {m k:Nat}(h:k<m):Jk (X2 m) (k:Int)=k:=by
 unfold Jk X2;simp[oQ,h]
theorem QpC {fd R:LI}{t:Int}(G:fd=out++R)(E:t∈out):zX fd t=(out.idxOf t:Nat):=by
 subst G;unfold zX;rw[OS (Mr _ E),MU,OS E]
theorem Qn0 {fd R:LI}{t:Int}(E:fd=out++[t]++R)(G:t∉out):zX fd t=(out.length:Nat):=by
 subst E;unfold zX;rw[OS oe,LB,MU,OR G];simp
theorem jA {m k:Nat}(h:k<n):Jk (X1 n m) (k:Int)=if k<m then(k:Int)else -1:=by
 unfold Jk X1;simp[oQ,h]
theorem Qia {m:Nat}:(X1 n m).set m (m:Int)=X1 n (m+1):=by
 apply Mt
 ·simp[X1]
 intro k H G;have I:k<n:=by simpa[X1]using G
 rw[M6];by_cases e:m=k
 ·subst e;simp[X1]
 rw[OR e];simp only[X1,List.getElem_map,List.getElem_range];by_cases E:k<m
 ·rw[OS E,OS oa]
 rw[OR E,OR oa]
theorem jm {R:Nat->List Ed}(hR:∀i,∀e∈R i,e.1=(i:Int))(j:Nat):∀n,Yc ((oS 0 n).flatMap R) j=if j<n then R j else[]
 | 0=>by simp[Yc]
 | n+1=>by
  have E:Yc (R n) j=if n=j then R n else[]:=by
   unfold Yc;by_cases e:n=j
   ·rw[OS e];exact NA.2 λx hx=>OV (by rw[hR n x hx,e])
   rw[OR e];exact Nj.2 λx hx=>by rw[decide_eq_true_eq,hR n x hx];omega
  rw[MQ,LA,LX];unfold Yc at E ⊢;rw[LZ];have ih:=jm hR j n;unfold Yc at ih;rw[ih];simp only[Om,List.flatMap_nil,List.append_nil];rw[E];by_cases G:j<n
  ·rw[OS G,OR oa,OS oa,LS]
  rw[OR G];by_cases H:n=j
  ·subst H;rw[OS rfl,OS oa,L8]
  rw[OR H,OR oa];rfl
theorem zm {s:Int}:∀(vs:LI) (out:LI),∃r,vs.foldl (Ue a s) out=out++r
 | [],out=>⟨[],oe⟩
 | v::vs,out=>by
  rw[L4];obtain⟨r,E⟩:=zm vs (Ue a s out v);rw[E];unfold Ue;split
  ·exact⟨[xd a.ed s v]++r,by rw[LB]⟩
  exact⟨r,U⟩
theorem zl:∀(f i:Nat) (out:LI),∃r,jG a f i out=out++r
 | 0,i,out=>⟨[],by simp[jG]⟩
 | f+1,i,out=>by
  rw[jG];split
  ·obtain⟨r,E⟩:=zl f (i+1) (fdR a out (O4 out i));obtain⟨G,H⟩:=zm (a:=a) (s:=O4 out i) a.al out;refine⟨G++r,?_⟩;rw[E];unfold fdR;rw[H,LB]
  exact⟨[],oe⟩
theorem q6 {fd:LI}{i:Nat}:∀(vs out:LI) (c:Cs),(∃r,fd=vs.foldl (Ue a (O4 fd i)) out++r)->c.ord=X2 out.length->c.num=X1 fd.length out.length ->
  (vs.filterMap (KG a fd i)).foldl (ZQ i) c=⟨X2 (vs.foldl (Ue a (O4 fd i)) out).length,X1 fd.length (vs.foldl (Ue a (O4 fd i)) out).length,c.mk',c.ed++vs.filterMap (KG a fd i)⟩
 | [],out,c,_,H,G=>by
  obtain⟨o,n,m,e⟩:=c;simp only[]at H G;subst H G;simp
 | v::vs,out,c,E,H,G=>by
  rw[L4]at E ⊢;obtain⟨r,E⟩:=E;obtain⟨r2,ha⟩:=zm (a:=a) (s:=O4 fd i) vs (Ue a (O4 fd i) out v);have I:fd=Ue a (O4 fd i) out v++(r2++r):=by rw[<-LB,<-ha];exact E
  by_cases S:0<=xd a.ed (O4 fd i) v
  ·have T:KG a fd i v=some ((i:Int),v,zX fd (xd a.ed (O4 fd i) v)):=by unfold KG;rw[OS S]
   rw[Mx,T];simp only[];rw[L4];by_cases J:xd a.ed (O4 fd i) v∈out
   ·have O:Ue a (O4 fd i) out v=out:=by unfold Ue;rw[OR (λh=>h.2 J)]
    rw[O]at E I ⊢;have hix:zX fd (xd a.ed (O4 fd i) v)=(out.idxOf (xd a.ed (O4 fd i) v):Nat):=QpC I J;have hb:=MN J;have Y:out.length<=fd.length:=by rw[I];simp
    have V:ZQ i c ((i:Int),v,zX fd (xd a.ed (O4 fd i) v))=⟨c.ord,c.num,c.mk',c.ed++[((i:Int),v,zX fd (xd a.ed (O4 fd i) v))]⟩:=by
     unfold ZQ;simp only[];rw[G,hix,jA oa,OS hb,OR oa]
    rw[V,q6 vs out ⟨c.ord,c.num,c.mk',c.ed++[((i:Int),v,zX fd (xd a.ed (O4 fd i) v))]⟩ ⟨r,E⟩ H G];simp only[o0,Ov]
   have O:Ue a (O4 fd i) out v=out++[xd a.ed (O4 fd i) v]:=by unfold Ue;rw[OS ⟨S,J⟩]
   rw[O]at E I ⊢;have hix:zX fd (xd a.ed (O4 fd i) v)=(out.length:Nat):=Qn0 I J;have Y:out.length<fd.length:=by rw[I];simp
   have V:ZQ i c ((i:Int),v,zX fd (xd a.ed (O4 fd i) v))=⟨X2 (out.length+1),X1 fd.length (out.length+1),c.mk',c.ed++[((i:Int),v,zX fd (xd a.ed (O4 fd i) v))]⟩:=by
    unfold ZQ;simp only[];rw[H,G,hix,jA Y,OR (Nl _),OS oa,zP,jq];simp only[Ot];rw[Qia]
   rw[V,q6 vs (out++[xd a.ed (O4 fd i) v]) _ ⟨r,E⟩ oe oe];simp only[o0,Ov]
  have T:KG a fd i v=none:=by unfold KG;rw[OR S]
  have O:Ue a (O4 fd i) out v=out:=by unfold Ue;rw[OR (λh=>S h.1)]
  rw[O]at E ⊢;rw[Mx,T];exact q6 vs out c ⟨r,E⟩ H G
theorem QjI (fd:LI)(i:Nat):Y6 a fd (i+1)=Y6 a fd i++(if O4 fd i∈a.mr then[(i:Int)]else[]):=by
 unfold Y6;rw[MQ,LZ,Lp,LX];by_cases h:O4 fd i∈a.mr <;> simp[h]
theorem QjK (fd:LI)(i:Nat):Xk a fd (i+1)=Xk a fd i++a.al.filterMap (KG a fd i):=by
 unfold Xk;rw[MQ,LA,LX];simp
theorem Qcv {fd:LI}(h:i<n):(i:Int)∈Y6 a fd n↔O4 fd i∈a.mr:=by
 unfold Y6;simp only[OA,List.mem_filter,OE,decide_eq_true_eq];constructor
 ·rintro⟨k,⟨_,E⟩,G⟩;have:k=i:=oa
  subst this;exact E
 intro E;exact⟨i,⟨oa,E⟩,U⟩
theorem QjJ {fd:LI}(T:fd=xj a)(hn:fd.length<=a.st.toNat):∀(f g i:Nat) (out:LI),i<=out.length->jG a g i out=fd->i+g=a.st.toNat->fd.length<=i+f ->
  KS (Xc a) f i ⟨X2 out.length,X1 fd.length out.length,Y6 a fd i,Xk a fd i⟩=⟨X2 fd.length,X1 fd.length fd.length,Y6 a fd fd.length,Xk a fd fd.length⟩:=by
 have ha:(Xc a).ed=Xk a fd fd.length:=by rw[T];rfl
 have hb:(Xc a).mr=Y6 a fd fd.length:=by rw[T];rfl
 have done:∀(i:Nat) (out:LI),i<=out.length->out=fd->¬i<out.length->(⟨X2 out.length,X1 fd.length out.length,Y6 a fd i,Xk a fd i⟩:Cs)=⟨X2 fd.length,X1 fd.length fd.length,Y6 a fd fd.length,Xk a fd fd.length⟩:=by
  intro i out H E V;have:i=fd.length:=by rw[<-E];omega
  rw[this,E]
 intro f;induction f with
 | zero =>
  intro g i out H E V h4;obtain⟨r,G⟩:=zl (a:=a) g i out;rw[E]at G;have hl:fd.length=out.length+r.length:=by rw[G,Lj]
  have hf:r=[]:=Lq oa;rw[KS];exact done i out H (by rw[G,hf,LS]) oa
 | succ f ih =>
  intro g i out H E V h4;obtain⟨r,G⟩:=zl (a:=a) g i out;rw[E]at G;have hl:fd.length=out.length+r.length:=by rw[G,Lj]
  rw[KS];simp only[zP];by_cases hi:i<out.length
  ·rw[OS hi];obtain⟨I,rfl⟩:∃I,g=I+1:=⟨g - 1,oa⟩;rw[jG,OS hi]at E;have hg:O4 out i=O4 fd i:=by
    rw[G];unfold O4;simp[oQ,List.getElem?_append_left hi]
   rw[hg]at E;have S:i<fd.length:=oa
   have hh:Yc (Xc a).ed (i:Int)=a.al.filterMap (KG a fd i):=by
    rw[ha];unfold Xk;rw[jm (λj e he=>by
     obtain⟨v,_,J⟩:=MR.1 he;unfold KG at J;split at J
     ·cases J;rfl
     cases J),OS S]
   have hj:YW (Xc a) i ⟨X2 out.length,X1 fd.length out.length,Y6 a fd i,Xk a fd i⟩=⟨X2 out.length,X1 fd.length out.length,Y6 a fd (i+1),Xk a fd i⟩:=by
    unfold YW;simp only[];rw[jB hi,hb,QjI];by_cases O:O4 fd i∈a.mr
    ·rw[OS ((Qcv S).2 O),OS O]
    rw[OR (λh=>O ((Qcv S).1 h)),OR O];simp
   have hk:yI (Xc a) i ⟨X2 out.length,X1 fd.length out.length,Y6 a fd i,Xk a fd i⟩=⟨X2 (fdR a out (O4 fd i)).length,X1 fd.length (fdR a out (O4 fd i)).length,Y6 a fd (i+1),Xk a fd (i+1)⟩:=by
    unfold yI;rw[hj];simp only[];rw[jB hi,hh];obtain⟨r3,Y⟩:=zl (a:=a) I (i+1) (fdR a out (O4 fd i));rw[E]at Y;rw[q6 a.al out ⟨X2 out.length,X1 fd.length out.length,Y6 a fd (i+1),Xk a fd i⟩ ⟨r3,Y⟩ rfl rfl,QjK];rfl
   rw[hk];obtain⟨r4,hm⟩:=zm (a:=a) (s:=O4 fd i) a.al out;exact ih I (i+1) _ (by unfold fdR;rw[hm,Lj];omega) E oa oa
  rw[OR hi];have h5:jG a g i out=out:=by
   cases g with
   | zero=>rfl
   | succ g=>rw[jG,OR hi]
  exact done i out H (h5.symm.D E) hi
theorem QjH (E:ZJ a)(G:0<a.st):KT (Xc a)=Xc a:=by
 have T:=Qcu E G;have I:=(ya E).1.len E.st0;have V:(Xc a).st=((xj a).length:Int):=rfl;have H:(Xc a).st.toNat=(xj a).length:=oa
 have h:=QjJ (a:=a) U I (xj a).length a.st.toNat 0 (fd0 a) (Ln _) U oa oa;have J:fd0 a=[0]:=by unfold fd0;rw[OS G]
 rw[J]at h;have O:KH (Xc a)=⟨X2 1,X1 (xj a).length 1,Y6 a (xj a) 0,Xk a (xj a) 0⟩:=by
  unfold KH;rw[H];have e:(oN (xj a).length (-1:Int)).set 0 0=X1 (xj a).length 1:=by
   apply Mt
   ·simp[X1]
   intro k Y h2;rw[M6];simp only[X1,List.getElem_map,List.getElem_range,List.getElem_replicate];by_cases e:k=0
   ·subst e;simp
   rw[OR oa,OR oa]
  rw[e];simp[X2,Y6,Xk]
 unfold KT;rw[OR oa];simp only[];rw[O,H];have S:KS (Xc a) (xj a).length 0 ⟨X2 1,X1 (xj a).length 1,Y6 a (xj a) 0,Xk a (xj a) 0⟩=⟨X2 (xj a).length,X1 (xj a).length (xj a).length,Y6 a (xj a) (xj a).length,Xk a (xj a) (xj a).length⟩:=h;rw[S];simp only[zP];rfl
theorem Qdr (E:ZJ a)(G:0<a.st):K9 (Xc a)=true:=by
 unfold K9;rw[QjH E G];simp[(Z6 _).2 (QaU E).1]
theorem GdA.can (h:GdA a):K9 a=true:=by
 obtain⟨H,E,G,rfl⟩:=h.c;exact Qdr E G
structure D25 (c:ZG):Prop where
 ev:c.ev.length=5/\J2 c.ev=0
 c0:c.co.length≠0
 c3:c.co.length<=3
 r2:c.rq.length<=2
 co:∀x∈c.co,YX x.nm=true/\GdA x.a/\∀e∈x.a.al,e<5
 rq:∀x∈c.rq,YX x.nm=true/\GdA x.a/\∀e∈x.a.al,∃y∈c.co,e∈y.a.al
 nd:(c.co.map (·.nm)++c.rq.map (·.nm)).Nodup
 x2:c.ex.length<=2
 ex:∀x∈c.ex,YX x.nm=true/\x.ls≠[]/\XJ (szs c.co) none x.ls=0
 xn:(c.ex.map (·.nm)).Nodup
 k1:c.cs.length<=1
 cs:∀x∈c.cs,YX x.nm=true/\Xp (szs c.co) x=0
theorem Qkz (n:Nat)(x:Int):x∈VJ n↔0<=x/\x<(n:Int):=QbL n x
theorem QkB (n:Nat):Y1 (VJ n):=Qie n
theorem Qlj {a b:LI}(ia:Y1 a)(ib:Y1 b)(h:∀e∈a,e∈b):(mns a b).length=0:=by
 refine Nat.eq_zero_of_not_pos λG=>?_;obtain⟨x,hx⟩:=List.exists_mem_of_length_pos G;have:=(zf ia ib x).1 hx;by_cases E:x∈a
 ·simp[E,h x E]at this
 simp[E]at this
theorem Qfh {nev:Nat}{amg:LI}{seen:List ByteArray}{x:XG}(G:YX x.nm=true)(H:x.nm∉seen)(E:GdA x.a)(I:∀e∈x.a.al,e<(nev:Int))(hi:Y1 amg)(J:∀e∈x.a.al,e∈amg):Yi nev amg seen x=0:=by
 have T:=E.p;unfold Yi;rw[OR (by rw[G];decide),OR H,OR (by simpa using(Z6 _).2 E.ok),OR (by rw[E.can];decide),OR oa,OR,OR (oz (Qlj E.ok.ali hi J))];intro h;obtain⟨e,O,S⟩:=Nm.1 h;have:=I e O;have:=OW S;omega
theorem Qfi {nev:Nat}{al:LI}(V:Y1 al):∀(l:List XG) (s:List ByteArray) (u:LI),Y1 u->(∀x∈l,YX x.nm=true/\GdA x.a/\∀e∈x.a.al,e<(nev:Int)/\e∈al)->(s++l.map (·.nm)).Nodup ->
  ∃H,Yn nev al s u l=(0,s++l.map (·.nm),H)/\Y1 H/\∀e,e∈H↔e∈u\/∃y∈l,e∈y.a.al
 | [],s,u,J,_,_=>⟨u,by simp[Yn],J,oe⟩
 | x::l,s,u,J,hx,O=>by
  obtain⟨h1,S,Y⟩:=hx x Lt;have ha:x.nm∉s:=by
   intro hm;rw[LG,My]at O;exact O.2.2 _ hm _ Lt U
  have hz:=Qfh h1 ha S (λe T=>(Y e T).1) V (λe T=>(Y e T).2);obtain⟨H,k1,k2,k3⟩:=Qfi V l (s++[x.nm]) (mrg (· || ·) u x.a.al) (Qey _ _ _ _ (Lx _) J S.ok.ali) (λy E=>hx y (Lk _ E)) (oz O);refine⟨H,?_,k2,λe=>?_⟩
  ·rw[Yn,OR (oz hz),k1];simp
  rw[k3,zf J S.ok.ali];constructor
  ·rintro(⟨G|G,_⟩|⟨y,E,I⟩)
   ·exact .inl G
   ·exact .inr ⟨x,Lt,G⟩
   exact .inr ⟨y,Lk _ E,I⟩
  rintro(G|⟨y,E,I⟩)
  ·exact .inl ⟨.inl G,by simp[G]⟩
  rcases Li.1 E with rfl|E
  ·exact .inl ⟨.inr I,by simp[I]⟩
  exact .inr ⟨y,E,I⟩
theorem Qfe {nev:Nat}{u:LI}(H:Y1 u):∀(l:List XG) (s:List ByteArray),(∀x∈l,YX x.nm=true/\GdA x.a/\∀e∈x.a.al,e<(nev:Int)/\e∈u)->(s++l.map (·.nm)).Nodup->JE nev u s l=0
 | [],s,_,_=>rfl
 | x::l,s,hx,E=>by
  obtain⟨J,O,I⟩:=hx x Lt;have S:x.nm∉s:=by
   intro T;rw[LG,My]at E;exact E.2.2 _ T _ Lt U
  have V:=Qfh J S O (λe G=>(I e G).1) H (λe G=>(I e G).2);rw[JE,OR (oz V)];exact Qfe H l (s++[x.nm]) (λy Y=>hx y (Lk _ Y)) (oz E)
theorem jN {sz:LI}:∀(l:List qz) (s:List ByteArray),(∀x∈l,YX x.nm=true/\x.ls≠[]/\XJ sz none x.ls=0)->(s++l.map (·.nm)).Nodup->Yq sz s l=0
 | [],s,_,_=>rfl
 | x::l,s,hx,E=>by
  obtain⟨G,H,I⟩:=hx x Lt;have J:x.nm∉s:=by
   intro O;rw[LG,My]at E;exact E.2.2 _ O _ Lt U
  have S:J1 s x.nm=0:=by unfold J1;rw[OR (by rw[G];decide),OR J]
  have hl:x.ls.length≠0:=λh=>H (Lq h);have T:Jf sz x.ls=0:=by unfold Jf;rw[OR hl];exact I
  rw[Yq,OR (oz S),OR (oz T)];exact jN l (s++[x.nm]) (λy V=>hx y (Lk _ V)) (oz E)
theorem Qic:∀{k:Nat},k<5->YX (nm1 97 k)=true
 | 0,_=>og
 | 1,_=>og
 | 2,_=>og
 | 3,_=>og
 | 4,_=>og
theorem UF {seen:List ByteArray}{k:Nat}(E:k<5)(G:nm1 97 k∉seen):Jg seen (Kx k n)=0:=by
 have H:(Kx k n).nm=nm1 97 k:=by unfold Kx;split <;> rfl
 unfold Jg;rw[H,OR (by rw[Qic E];decide),OR G];unfold Kx;by_cases h:48<=n/\n<52
 ·rw[OS h];simp only[];rw[OR oa,OR oe]
 rw[OR h];simp only[];rw[OR oa,OR oe]
theorem Qi8 (ns:LN):J2 (JD ns 5)=0:=by
 have e:JD ns 5=[Kx 0 (ns.getD 0 0),Kx 1 (ns.getD 1 0),Kx 2 (ns.getD 2 0),Kx 3 (ns.getD 3 0),Kx 4 (ns.getD 4 0)]:=rfl;have E:∀k n,(Kx k n).nm=nm1 97 k:=λk n=>by unfold Kx;split <;> rfl
 unfold J2;rw[OR (by rw[Vu];decide),e];simp only[qG,E];rw[UF og og,UF og og,UF og og,UF og og,UF og og];simp
theorem D25.ck (h:D25 c):Zm c=0:=by
 have ha:=h.c3;have hc:=h.r2;have T:c.ev.length=5:=h.ev.1;obtain⟨u',k1,k2,k3⟩:=Qfi (nev:=c.ev.length) (al:=VJ c.ev.length) (QkB _) c.co [] [] List.Pairwise.nil (λx hx=>by
  obtain⟨G,E,H⟩:=h.co x hx;refine⟨G,E,λe I=>?_⟩;have:=H e I;have:=(E.ok.al e I).1;rw[T,Qkz];exact⟨oa,oa,oa⟩) (by
  have:=h.nd;rw[My]at this;simpa using this.1)
 have V:=Qfe (nev:=c.ev.length) k2 c.rq (c.co.map (·.nm)) (λx hx=>by
  obtain⟨G,E,H⟩:=h.rq x hx;refine⟨G,E,λe I=>?_⟩;obtain⟨y,O,J⟩:=H e I;have:=(h.co y O).2.2 e J;exact⟨oa,(k3 e).2 (.inr ⟨y,O,J⟩)⟩) h.nd
 unfold Zm;rw[OR (not_not_intro h.ev.2),OR h.c0,OR oa,k1];simp only[Oj];rw[OR oe,OR (oz V)];unfold Yy;have hf:(szs c.co).length=c.co.length:=by unfold szs;simp
 have hg:=h.x2;have hk1:=h.k1;have Y:¬(szs c.co).any KN=true:=by
  intro hb;obtain⟨n,G,E⟩:=Nm.1 hb;unfold szs at G;obtain⟨x,hx,rfl⟩:=LD.1 G;have:=(h.co x hx).2.1;have H:=this.p;have J:=this.s;unfold KN at E;simp at E;omega
 rw[OR oa,OR Y,OR oa,OR (by simpa using jN c.ex [] h.ex (oz h.xn))];rcases S:c.cs with _|⟨x,l⟩
 ·rfl
 have hl:l=[]:=Lq (by rw[S,LQ]at hk1;omega);obtain⟨G,E⟩:=h.cs x (by rw[S];exact Lt);have hz:J1 [] x.nm=0:=by unfold J1;rw[OR (by rw[G];decide),OR oe]
 rw[hl,Y0,OR (oz hz),OR (oz E)];rfl
end Go.Lg
namespace Go.Proofs
open Go.Proofs.Tryz
open Go.Shelf
def Tryz.sortI_ren:Go.Shelf.Ren:=⟨λ|5=>46|8=>104|7=>103|19=>157|20=>158|10=>148|11=>149|12=>150|13=>151|14=>152|15=>153|16=>154|17=>155|18=>156|30=>217|31=>218|32=>219|33=>220|34=>221|35=>222|40=>261|n=>n,λ|23=>56|25=>3|3=>3|32=>226|22=>56|0=>0|44=>298|46=>300|4=>4|36=>291|35=>290|41=>235|5=>5|9=>9|53=>367|57=>371|63=>405|64=>357|n=>n,λ|n=>n⟩
theorem Tryz.sortI:Go.Proofs.SlLaysM.n5 prog Tryz.sortI_ren:={
 mixed:=od
 f5:=⟨Tryz.f46.name,og,func46.D (OT some od)⟩
 f7:=⟨Tryz.f103.name,og,func103.D (OT some od)⟩
 f8:=func104.D (OT some od)
 f10:=⟨Tryz.f148.name,og,func148.D (OT some od)⟩
 f11:=⟨Tryz.f149.name,og,func149.D (OT some od)⟩
 f12:=⟨Tryz.f150.name,og,func150.D (OT some od)⟩
 f13:=⟨Tryz.f151.name,og,func151.D (OT some od)⟩
 f14:=⟨Tryz.f152.name,og,func152.D (OT some od)⟩
 f15:=⟨Tryz.f153.name,og,func153.D (OT some od)⟩
 f16:=⟨Tryz.f154.name,og,func154.D (OT some od)⟩
 f17:=⟨Tryz.f155.name,og,func155.D (OT some od)⟩
 f18:=⟨Tryz.f156.name,og,func156.D (OT some od)⟩
 f19:=func157.D (OT some od)
 f20:=func158.D (OT some od)
 f30:=⟨Tryz.f217.name,og,func217.D (OT some od)⟩
 f31:=func218.D (OT some od)
 f32:=func219.D (OT some od)
 f33:=⟨Tryz.f220.name,og,func220.D (OT some od)⟩
 f34:=⟨Tryz.f221.name,og,func221.D (OT some od)⟩
 f35:=⟨Tryz.f222.name,og,func222.D (OT some od)⟩
 f40:=⟨Tryz.f261.name,og,func261.D (OT some od)⟩
 t0:=underlying0
 a0:=Tryz.isAgg0
 z0:=Tryz.sizeOf0
 v0:=Tryz.zeroValue0
 t3:=underlying3
 a3:=Tryz.isAgg3
 z3:=Tryz.sizeOf3
 v3:=Tryz.zeroValue3
 t4:=underlying4
 a4:=Tryz.isAgg4
 z4:=Tryz.sizeOf4
 v4:=Tryz.zeroValue4
 t5:=underlying5
 a5:=Tryz.isAgg5
 z5:=Tryz.sizeOf5
 v5:=Tryz.zeroValue5
 t9:=underlying9
 a9:=Tryz.isAgg9
 z9:=Tryz.sizeOf9
 v9:=Tryz.zeroValue9
 t22:=underlying56
 a22:=Tryz.isAgg56
 z22:=Tryz.sizeOf56
 v22:=Tryz.zeroValue56
 t23:=underlying56
 a23:=Tryz.isAgg56
 z23:=Tryz.sizeOf56
 v23:=Tryz.zeroValue56
 t25:=underlying3
 a25:=Tryz.isAgg3
 z25:=Tryz.sizeOf3
 v25:=Tryz.zeroValue3
 t32:=underlying226
 a32:=Tryz.isAgg226
 z32:=Tryz.sizeOf226
 v32:=Tryz.zeroValue226
 t35:=underlying290
 a35:=Tryz.isAgg290
 z35:=Tryz.sizeOf290
 v35:=Tryz.zeroValue290
 t36:=underlying291
 a36:=Tryz.isAgg291
 z36:=Tryz.sizeOf291
 v36:=Tryz.zeroValue291
 t41:=underlying235
 a41:=Tryz.isAgg235
 z41:=Tryz.sizeOf235
 v41:=Tryz.zeroValue235
 t44:=underlying298
 a44:=Tryz.isAgg298
 z44:=Tryz.sizeOf298
 v44:=Tryz.zeroValue298
 t46:=underlying300
 a46:=Tryz.isAgg300
 z46:=Tryz.sizeOf300
 v46:=Tryz.zeroValue300
 t53:=underlying367
 a53:=Tryz.isAgg367
 z53:=Tryz.sizeOf367
 v53:=Tryz.zeroValue367
 t57:=underlying371
 a57:=Tryz.isAgg371
 z57:=Tryz.sizeOf371
 v57:=Tryz.zeroValue371
 t63:=underlying405
 a63:=Tryz.isAgg405
 z63:=Tryz.sizeOf405
 v63:=Tryz.zeroValue405
 t64:=underlying357
 a64:=Tryz.isAgg357
 z64:=Tryz.sizeOf357
 v64:=Tryz.zeroValue357 }
def Tryz.cmpI_ren:Go.Shelf.Ren:=⟨λ|43=>47|n=>n,λ|22=>56|23=>3|3=>3|4=>4|0=>0|n=>n,λ|n=>n⟩
theorem Tryz.cmpI:Go.Proofs.SlLaysE.n43 prog Tryz.cmpI_ren:={
 mixed:=od
 f43:=⟨Tryz.f47.name,og,func47.D (OT some od)⟩
 t0:=underlying0
 a0:=Tryz.isAgg0
 z0:=Tryz.sizeOf0
 v0:=Tryz.zeroValue0
 t3:=underlying3
 a3:=Tryz.isAgg3
 z3:=Tryz.sizeOf3
 v3:=Tryz.zeroValue3
 t4:=underlying4
 a4:=Tryz.isAgg4
 z4:=Tryz.sizeOf4
 v4:=Tryz.zeroValue4
 t22:=underlying56
 a22:=Tryz.isAgg56
 z22:=Tryz.sizeOf56
 v22:=Tryz.zeroValue56
 a23:=Tryz.isAgg3
 z23:=Tryz.sizeOf3 }
def Tryz.delI_ren:Go.Shelf.Ren:=⟨λ|10=>17|6=>49|n=>n,λ|22=>56|23=>3|25=>67|3=>3|4=>4|0=>0|n=>n,λ|n=>n⟩
theorem Tryz.delI:Go.Proofs.SlLaysH.n10 prog Tryz.delI_ren:={
 mixed:=od
 f6:=⟨Tryz.f49.name,og,func49.D (OT some od)⟩
 f10:=⟨Tryz.f17.name,og,func17.D (OT some od)⟩
 t0:=underlying0
 a0:=Tryz.isAgg0
 z0:=Tryz.sizeOf0
 v0:=Tryz.zeroValue0
 t3:=underlying3
 a3:=Tryz.isAgg3
 z3:=Tryz.sizeOf3
 v3:=Tryz.zeroValue3
 t4:=underlying4
 a4:=Tryz.isAgg4
 z4:=Tryz.sizeOf4
 v4:=Tryz.zeroValue4
 t22:=underlying56
 a22:=Tryz.isAgg56
 z22:=Tryz.sizeOf56
 v22:=Tryz.zeroValue56
 a23:=Tryz.isAgg3
 z23:=Tryz.sizeOf3
 t25:=underlying67
 a25:=Tryz.isAgg67
 z25:=Tryz.sizeOf67
 v25:=Tryz.zeroValue67 }
end Go.Proofs
namespace Go.Lg
open Go.Lg Go.Sort Go.Lib
abbrev iC:Int->O0:=Value.int .i64
theorem U5 {e:Nat}{cur:Array O0}(G:w.heap[g]?=some (.cells cur e (0,0)))(I:cur.toList.take (l.length*1)=l.map iC):Holds iC w g 0 l.toArray:=by
 intro j E;rw[LP]at E;have J:cur.toList[j]?=some (iC l[j]):=by
  have H:(cur.toList.take (l.length*1))[j]?=(l.map iC)[j]?:=by rw[I]
  rw[LT,OS oa,Nc,LF E]at H;exact H
 have O:l.toArray[j]! = l[j]:=by simp[E]
 constructor
 ·show(match w.heap[g]? with|some (.cells c _ _)=>if(none:Option _).isSome then none else c[0+j]?|_=>none)=_
  rw[G,O];simp only[oY,OB,OC,if_false];rw[<-Mn,J]
 show(match w.heap[g]? with|some (.cells _ _ (lo,hi))=>decide (lo<=0+j) && decide (0+j<hi)|_=>false)=false
 rw[G];simp
theorem Qan {e base:Nat}{k:Nat}{cur:Array O0}{os:xx}{d:Array Int}(J:base<=g)(H:w.heap[g]?=some (.cells cur e (0,0)))(hb:d.size<=cap)(O:cap<=maxLen)(S:cur.size=cap*1)(hk:k<=d.size):
  O3 [g] w (grow (putRow iC (Sort.ahead w n) g 0 d) os)/\Qu e base (grow (putRow iC (Sort.ahead w n) g 0 d) os) (.slice (some ⟨g,0,none⟩) k cap) (d.toList.take k):=by
 have T:g<w.heap.size:=(LH.1 H).1;have E:(grow (putRow iC (Sort.ahead w n) g 0 d) os).heap=w.heap.modify g (onCells (putCells iC 0 d))++os:=rfl;have V:(d.toList.take k).length=k:=by simp;omega
 refine⟨⟨U,U,U,?_,λi hi Y=>?_⟩,?_⟩
 ·rw[E,MM,Mb];omega
 ·rw[E,Me,Mb,OS hi,Mv,OR (λe=>Y (by simp[e]))]
 unfold Qu;rw[V];refine⟨by simp;omega,.inr ⟨g,cap,putCells iC 0 d cur,U,J,?_,oa,O,by simp[putCells,S],?_⟩⟩
 ·rw[E,Me,Mb,OS T,Mv,OS rfl,H];rfl
 apply M0;intro j;rw[LT,Nc,LT];by_cases I:j<k
 ·rw[OS oa,OS I];have ha:j<cur.size:=oa
  have G:j<d.size:=oa
  rw[Mn,Mn,Mw G];simp only[putCells,Ow,Oh ha,Ox,OP,oY,true_and,OS G,OG];rw[getElem!_pos d j G]
 rw[OR oa,OR I];rfl
theorem jc {base:Nat}{v:O0}(h:Qu 3 base w v l)(hl:l.length<=1099511627776):
  Q5 prog 46 [v] w λ_ w'=>O3 (ob v) w w'/\Qu 3 base w' v (l.mergeSort λx y=>decide (x<=y)):=by
 unfold Q5;rcases h.2 with⟨rfl,O⟩|⟨g,cap,cur,rfl,S,H,hf,T,V,Y⟩
 ·have ha:l=[]:=Lq O;subst ha;have E:=AnyM.slices_Sort_int_none Tryz.sortI none 0 w;change Calls prog 46 _ _ _ at E;refine Calls.mono E λe w' I=>?_;obtain⟨rfl,rfl⟩:=I;exact⟨O3.Z _ _,by rw[List.mergeSort_nil];exact h⟩
 have hb:g<w.heap.size:=(LH.1 H).1;have E:=AnyM.slices_Sort_int Tryz.sortI g 0 cap l w (U5 H Y) hb oa;change Calls prog 46 _ _ _ at E;refine Calls.mono E λe w' I=>?_;obtain⟨rfl,n,os,rfl⟩:=I;have hp:=Nz l (λx y=>decide (x<=y));have J:=hp.length_eq;have:=Qan (e:=3) (n:=n) (k:=l.length) (os:=os) (d:=(l.mergeSort λx y=>decide (x<=y)).toArray) S H (by simp;omega) T V oe;refine⟨this.1,?_⟩;have G:=this.2;simp only[List.take_of_length_le (Nat.le_of_eq J)]at G;unfold Qu at G ⊢;rw[J]at G ⊢;exact G
theorem Qhu {base:Nat}{v:O0}(h:Qu 3 base w v l)(hl:l.length<=1099511627776):
  Q5 prog 46 [v] w λ_ w'=>O3 (ob v) w w'/\∃l',l'.length=l.length/\(∀x,x∈l'↔x∈l)/\Qu 3 base w' v l' :=
 (jc h hl).mono λ_ _ ⟨E,G⟩=>⟨E,_,(Nz l _).length_eq,λ_=>(Nz l _).mem_iff,G⟩
theorem Qfb (l:LI):∀m,m<=l.length->∀x,x∈compactUpTo l.toArray m↔x∈l.take m
 | 0,_,x=>by simp[compactUpTo]
 | m+1,h,x=>by
  have ih:=Qfb l m oa x;have G:m<l.length:=oa
  have hx:l.toArray[m]! = l[m]:=by simp[G]
  rw[compactUpTo_succ,Lc,ih,Ll G,Lc,hx,Lb];by_cases E:keeps l.toArray m=true
  ·rw[OS E,Lb]
  rw[OR E];refine⟨λh=>.inl (h.resolve_right oe),λh=>.inl (h.elim id λe=>?_)⟩;simp only[keeps,decide_eq_true_eq,not_or]at E;have J:m≠0:=by simpa using E.1
  have H:l.toArray[m]! = l.toArray[m - 1]!:=by simpa using E.2
  have I:l.toArray[m - 1]! = l[m - 1]:=by simp[show m - 1<l.length by omega]
  rw[e,<-hx,H,I];rw[List.mem_take_iff_getElem];exact⟨m - 1,oa,U⟩
theorem Qmh {base:Nat}{v:O0}(h:Qu 3 base w v l)(hl:l.length<=1099511627776):
  Q5 prog 47 [v] w λr w'=>O3 (ob v) w w'/\∃l',l'.length<=l.length/\(∀x,x∈l'↔x∈l)/\Qu 3 base w' r l':=by
 rcases h.2 with⟨rfl,J⟩|⟨g,cap,cur,rfl,O,G,S,T,V,Y⟩
 ·have ha:l=[]:=Lq J;subst ha;refine Zs func47 ntmps47 results47 ?_;refine Qe<|Qc<|Qd<|Qm<|x (Uo U)<|QX U U<|xe<|QZ U (λ_=>?_) (λh8=>OU og h8);refine Qm<|Qc ?_;exact Ql ⟨[nS],La,O3.Z _ _,[],Lx _,λx=>Iff.rfl,h⟩
 unfold Q5;have E:=AnyE.slices_Compact Tryz.cmpI iC (λ_=>U) (.intD _ _ .i64) (.intD _ _ .i64) 0 (λw=>od) g 0 cap l.toArray w (U5 G Y) (by simp;omega) (oz S);change Calls prog 47 _ _ _ at E;rw[LP]at E;refine Calls.mono E λe w' he=>?_;obtain⟨rfl,q,rfl⟩:=he;have H:=Qfb l l.length (Lx _);rw[MZ]at H;have hb:(compactUpTo l.toArray l.length).length<=l.length:=by
  unfold compactUpTo;rw[Lh];exact LJ (Ma _ _) oe
 generalize compactUpTo l.toArray l.length=u at *;have:=Qan (e:=3) (n:=q) (k:=u.length) (os:=#[]) (d:=(u++oN (l.length - u.length) 0).toArray) O G (by simp;omega) T V oe;rw[grow_empty]at this;refine⟨this.1,u,hb,H,?_⟩;have I:=this.2;have h3:(u++oN (l.length - u.length) 0).toArray.toList.take u.length=u:=oe
 rw[h3]at I;exact I
theorem QcW {a b:LI}(S:QQ [] w.heap va a)(T:QQ [] w.heap vb b)(hl:a.length+b.length<=1000):
  Q5 prog 15 [va,vb] w λr w'=>O3 [] w w'/\∃l,l.length<=a.length+b.length/\(∀x,x∈l↔x∈a\/x∈b)/\Qu 3 w.heap.size w' r l:=by
 refine Zs func15 ntmps15 results15 ?_;refine Qe<|Qc<|Qm<|Qa<|xf<|(ZU S).mono ?_;rintro v1 w1 ⟨G,H⟩;have hm:=G.size;refine Qb<|Qa<|Qas H U (T.I G) U (Uq b) oa oa λv2 I V Y hn=>Qc ?_;have J:Qu 3 w.heap.size I v2 (a++b):=by
  unfold Qu;rw[Lj,Lp];exact V
 have he:O3 [] w I:=G.then Y (λc E=>.inr (Qi H c E).1);have ho:(a++b).length=a.length+b.length:=Lj;refine Qm<|Qa<|xf<|(Qhu J oa).mono ?_;rintro r3 w3 ⟨hf,l3,hp,hg,O⟩;have hh:O3 [] w w3:=he.then hf (λc E=>.inr (Qi J c E).1);refine xe<|Qm<|Qa<|xf<|(Qmh O oa).mono ?_;rintro r4 w4 ⟨hi,l4,hq,hj,hk⟩;refine Qc ?_;exact Ql ⟨[_],La,hh.then hi (λc E=>.inr (Qi O c E).1),l4,oa,λx=>by rw[hj,hg,Lc],hk⟩
theorem z8 {v:O0}(h:QQ [] w.heap v al)(hb:∀e∈al,0<=e/\e<32)(hi:Y1 al)(hn:ns.length=27)(J:∀n∈ns,n<256):
  Q5 prog 16 [v,.agg (bys ns).toArray,oF oG 3] w λr w'=>O3 [] w w'/\∃a:Zd,Jo w.heap.size w'.heap r a/\GdA a/\a.al=al:=by
 refine Zs func16 ntmps16 results16 ?_;refine Qe<|Qa<|QS (us:=bys ns) U λb4 w1 hg hh E=>Qa<|Qo (us:=[nS,oF oG 0,nS,nS]) U λb6 w2 G hr O=>xe ?_;obtain⟨s0,hj⟩:∃s0,ns.getD 0 0=s0:=⟨_,U⟩;have S:ns[0]?=some s0:=by
  rw[<-hj,List.getD_eq_getElem?_getD,LF oa];rfl
 have hs:s0<256:=J s0 (Mq S);have q0:(bys ns)[0]?=some (.int .u8 (s0:Int)):=by
  unfold bys;rw[Nc,S];rfl
 have hk:=hg.D G;have ht:=E.lt;have hu:=O.lt;refine Qe<|Qs U (E.I G) U q0<|Qb<|x (Ye (k':=.u8) U ⟨oa,oa⟩)<|x (zH (a:=(s0:Int)) (b:=3) U U oa oa)<|Q0 U<|Qa<|QA (u:=.int .u8 ((s0 % 3:Nat):Int)) (E.I G) U (OT (Value.int .u8) (by omega:(s0:Int) % 3=((s0 % 3:Nat):Int))) (by rw[XB];omega) U λw3 H T =>
  xe ?_
 have I:O3 [] w w3:=hk.O H hh;rw[QjM]at T;have V:(ns.set 0 (s0 % 3)).length=27:=by rw[Mk];exact hn
 have Y:(ns.set 0 (s0 % 3)).getD 0 0=s0 % 3:=Qhy oa;refine Qm<|Q2 T U (by rw[XB];exact V)<|Qa<|xf<|(Qf4 (h.I I) hb hi V (QkP J oa)).mono ?_;rintro r4 w4 ⟨ha,a,hA,hw,_,hl,hc⟩;obtain⟨a0,k0,k1,k2,k3⟩:=hc (by rw[Y];omega);rw[Y]at k2;obtain⟨us,hv,he,hm⟩:=JH hA;have ho:Q7 w4.heap b6 61 [nS,oF oG 0,nS,nS]:=(O.J H om).I ha;have hp:=I.size;have hy:=H.size;refine Qa<|Qj (us:=us) ho U (show Go.Lg.ev _ _=_ from hv) he U hm λw5 hf hq=>xe ?_;refine Ql ⟨[.agg us.toArray],⟨⟨_,U,Qn he (hq.at (L:=[]) oe).cells⟩,Z⟩,(I.D ha).O hf oa,a,?_,GdA.of k0 k1 k2 k3 (OO _ og),hl⟩;show Jo _ _ (.agg us.toArray) _;rw[<-hv];exact(Kn hA oa hf).mono hp
section
variable {pS:String}
theorem U2 {k:IntKind}[h:Ik P t k][h':St P E]{x:O1}{G:IntKind}(hx:ev f x=.int G n)(H:n<128):
  (execOp (ev f) ⟨d,.convert t E x,ty,pS,af,gd⟩).run P w=.ok (.value (.string ⟨#[UInt8.ofNat n]⟩)) w:=by
 refine q9 hx ?_;rw[run_convert_int_string w t E G n (by rw[h.u];rfl) h'.u];have I:Utf8.valid (n:Int)=true:=by
  unfold Utf8.valid;simp;omega
 unfold Utf8.encode;simp only[I,if_true,Ot,H]
theorem QhK {x:O1}{k:IntKind}{a b:Int}(hx:ev f x=.int k a)(G:ev f y=.int k b)(H:b≠0):
  (execOp (ev f) ⟨d,.binOp .rem t x y E,ty,pS,af,gd⟩).run P w=.ok (.value (.int k (a.tmod b))) w:=by
 refine Jd hx G ?_;simp[binOp,Op.intDiv,H]
end
open Go.Lg Go.Sort
theorem QnI (e:Int)(w:OZ)(E:Q7 w.heap b T [va])(G:QQ L w.heap va al):
  Q5 prog 18 ([oF oG e]++[.pointer (some ⟨b,0,none⟩)]) w λr w'=>r=.bool (decide (e∉al))/\w'=w:=by
 refine Zs func18 ntmps18 results18 ?_;refine Qe<|Qc<|Qe<|Y2 E U U<|Qb<|Qa<|xf<|(Ya G e).mono ?_;rintro H I ⟨rfl,rfl⟩;refine x (Zz U)<|Qc<|Ql ⟨[_],La,?_,U⟩;show Value.bool (!decide (e∈al))=_;rw[decide_not]
theorem js (e:Int)(w:OZ)(G:Q7 w.heap b T [va])(H:QQ L w.heap va al):
  FnGives prog 18 #[.pointer (some ⟨b,0,none⟩)] #[iC e] (.bool (decide (e∉al))) w:=by
 have h:=QnI e w G H;unfold Q5 at h;unfold FnGives;refine Calls.mono h λI w' E=>?_;cases I with
 | returned v =>
  obtain⟨rfl,rfl⟩:=E;exact⟨U,0,U⟩
 | _=>exact E.elim
theorem Qnt {os:xx}{d:Array Int}:O3 [g] w (grow (putRow iC (Sort.ahead w n) g 0 d) os):=by
 have E:(grow (putRow iC (Sort.ahead w n) g 0 d) os).heap=w.heap.modify g (onCells (putCells iC 0 d))++os:=rfl;refine⟨U,U,U,?_,λi hi G=>?_⟩
 ·rw[E,MM,Mb];omega
 rw[E,Me,Mb,OS hi,Mv,OR (λe=>G (by simp[e]))]
theorem Ql1 {base:Nat}{v:O0}(h:Qu 3 base w v l)(hl:l.length<=1099511627776)(I:Q7 w.heap b T [va])(hb:b∉ob v)(J:QQ (ob v) w.heap va al):
  Q5 prog 17 [v,.func (.func 18) #[] #[.pointer (some ⟨b,0,none⟩)]] w λr w'=>O3 (ob v) w w'/\Qu 3 base w' r (l.filter λx=>decide (x∈al)):=by
 have eg:∀args w,(callFunc 18 args).run prog w=.ok (.enter 18 args) w:=enters_of func18 od U;rcases h.2 with⟨rfl,h0⟩|⟨g,cap,cur,rfl,ha,O,hh,hi,hj,hm⟩
 ·have hn:l=[]:=Lq h0;subst hn;refine Zs func17 ntmps17 results17 ?_;refine Qe<|Qc<|Qm<|Qb<|Qa<|xf<|(QiE (cap:=[.pointer (some ⟨b,0,none⟩)]) (q:=λ_=>true) (QQ.fl (Kv [] w.heap)) (λe G=>by cases G)).mono ?_;rintro r1 w1 ⟨rfl,S⟩;refine Qc<|Qd<|Qm<|x (Q9 U U)<|xe<|QZ U (λ_=>?_) (λh8=>OU U h8);refine Qm<|Qc ?_;exact Ql ⟨[nS],La,S,Qp h S⟩
 unfold Q5;have V:=λ(n:Nat) (os:xx) (d:Array Int)=>Qnt (w:=w) (g:=g) (n:=n) (os:=os) (d:=d);have ho:b∉[g]:=hb;have hp:QQ [g] w.heap va al:=J;have H:=AnyE.slices_DeleteFunc Tryz.delI iC (λ_=>U) (λx=>decide (x∉al)) 18 #[.pointer (some ⟨b,0,none⟩)] eg 0 (λw=>od) g 0 cap l.toArray w
  (λW x E=>by
   have Y:O3 [] w W:=⟨E.os,E.tape,E.output,E.size,λk hk _=>E.block k hk⟩;exact js x W (I.I Y) (J.I Y))
  (λn os dk x _=>js x _ (I.J (V n os dk) ho) (hp.st (V n os dk)))
  (U5 O hm) (by simp;omega) (oz hh)
 change Calls prog 17 _ _ _ at H;rw[LP]at H;refine Calls.mono H λe w' G=>?_;obtain⟨rfl,q,rfl⟩:=G;have hf:(l.toArray.toList.filter λx=>!decide (x∉al))=l.filter λx=>decide (x∈al):=by
  refine List.filter_congr λx _=>?_;by_cases hx:x∈al <;> simp[hx]
 rw[hf];have hq:=Ma (λx=>decide (x∈al)) l;generalize (l.filter λx=>decide (x∈al))=u at *;have:=Qan (e:=3) (n:=q) (k:=u.length) (os:=#[]) (d:=(u++oN (l.length - u.length) 0).toArray) ha O (by simp;omega) hi hj oe;rw[grow_empty]at this;refine⟨this.1,?_⟩;have h2:=this.2;have h3:(u++oN (l.length - u.length) 0).toArray.toList.take u.length=u:=oe
 rw[h3]at h2;exact h2
section
variable {pS:String}
theorem Qes {e bys:Nat}[h:Sl P t e sz bys z](Y:∀u∈z.cells,u.oneCell'=true){s:O1}{m c:Nat}(I:Q7 w.heap b T cs)(G:∃E,ev f s=.slice (some ⟨b,E,none⟩) m c/\(0<m->E=o/\o+m*sz<=cs.length))
  (hK:∀w' cs',O3 [b] w w'->Q7 w'.heap b T cs'->cs'.length=cs.length->cs'.take o=cs.take o->K (QY f d (.tuple #[])) w'):XO P ⟨d,.call ⟨.builtin .clear,#[s],#[t]⟩,ty,pS,af,gd⟩ f w K:=by
 obtain⟨E,G,hm⟩:=G;obtain⟨i,hi,hz,hc,_⟩:=Sl.info h;have ha:=h.zs;rcases Nat.eq_zero_or_pos m with rfl|hmp
 ·have J:(execOp (ev f) ⟨d,.call ⟨.builtin .clear,#[s],#[t]⟩,ty,pS,af,gd⟩).run P w=.ok (.value (.tuple #[])) w:=by
   simp[execOp,resolve,invoke,builtin,G,Builtin.clear_,run_underlying h.u]
  exact xv J (hK w cs (O3.Z _ _) I U U)
 obtain⟨rfl,he⟩:=hm hmp;have hb:(Builtin.zeroCells z.cells m).toList.length=m*sz:=by simp[Builtin.zeroCells,ha]
 have O:=run_storeCells_at P b E T (Builtin.zeroCells z.cells m).toList 0 cs.toArray w I (by simp only[Od];omega) (λu S=>by
  simp only[Builtin.zeroCells,Array.toList_map,OA]at S;obtain⟨j,hj,rfl⟩:=S;have hf:=h.pos;have V:j % z.cells.size<z.cells.size:=OO _ oa;rw[getElem!_pos z.cells _ V];exact Y _ (Array.getElem_mem V))
 simp only[Oz]at O;obtain⟨H,rfl⟩:∃H,m=H+1:=⟨m - 1,oa⟩;have J:(execOp (ev f) ⟨d,.call ⟨.builtin .clear,#[s],#[t]⟩,ty,pS,af,gd⟩).run P w=.ok (.value (.tuple #[])) (w.setRow b ((cs.take E++(Builtin.zeroCells z.cells (H+1)).toList++cs.drop (E+(Builtin.zeroCells z.cells (H+1)).toList.length))).toArray):=by
  simp[execOp,resolve,invoke,builtin,G,Builtin.clear_,run_underlying h.u,zeroValue,typeInfo,hi,hz]at O ⊢;simp[O]
 refine xv J (hK _ _ (O3.setRow _ _ _) (XM I) ?_ ?_)
 ·simp only[oM,Oa,o6,hb];omega
 rw[LB,MT (by simp;omega),M1,Nat.min_self]
theorem Vc {α:Type}{sz:Nat}{g:α->LV}(E:∀x,(g x).length=sz):∀(l:List α) (i:Nat) (u:α),i<l.length->(l.set i u).flatMap g=(l.flatMap g).take (i*sz)++g u++(l.flatMap g).drop (i*sz+sz)
 | [],i,u,h=>OU h oe
 | a::l,0,u,h=>by
  rw[List.set_cons_zero,LM,LM,OM,List.take_zero,L8,LX,List.drop_append_of_le_length (by rw[E a];exact Lx _),Lr (by rw[E a];exact Lx _),L8]
 | a::l,i+1,u,h=>by
  have G:(i+1)*sz=(g a).length+i*sz:=by rw[E a,Nat.succ_mul];omega
  have H:(i+1)*sz+sz=(g a).length+(i*sz+sz):=oa
  have I:∀(F:LV) k,(g a++F).take ((g a).length+k)=g a++F.take k:=λF k=>by rw[OH,Ls (l:=g a) oa,MF]
  have J:∀(F:LV) k,(g a++F).drop ((g a).length+k)=F.drop k:=λF k=>by rw[List.drop_append,Lr (l:=g a) oa,L8,MF]
  rw[NK,LM,LM,H,G,I,J,Vc E l i u (oz h)];simp only[o0]
theorem jp [h1:Ag P t sz]{g:α->LV}(E:∀x,(g x).length=sz){x:O1}{base e:Nat}{l:List α}{u:α}(h:w.ownsRow base e sz (.slice (some ⟨b,0,none⟩) l.length cap) l.length (l.flatMap g))(hx:ev f x=.pointer (some ⟨b,i*sz,none⟩))(I:ev f y=.agg (g u).toArray)(hi:i<l.length)(J:Zj (g u))
  (hK:∀w',O3 [b] w w'->w'.ownsRow base e sz (.slice (some ⟨b,0,none⟩) l.length cap) l.length ((l.set i u).flatMap g)->K (QY f d undef) w'):XO P ⟨d,.store t x y,ty,pS,af,gd⟩ f w K:=by
 rcases h.2 with⟨e1,_⟩|⟨g',cap',cur,e1,O,S,G,T,V,Y⟩
 ·cases e1
 cases e1
 have hB:Q7 w.heap b e cur.toList:=S;have he:l.length*sz<=cap*sz:=LY _ G;have ha:(i+1)*sz<=l.length*sz:=LY _ hi;rw[Nat.succ_mul]at ha;have H:cur.toList.length=cap*sz:=by rw[Array.length_toList];exact V
 have hb:=h.1;refine YM hB hx I (E u) oa J U λw' hs hc=>hK w' hs ⟨?_,.inr ⟨b,cap,_,U,O,hc,G,T,?_,?_⟩⟩
 ·rw[Vc E l i u hi];simp only[oM,Oa,o6,E u,hb];omega
 ·simp only[Od,oM,Oa,o6,E u,H];omega
 have hX:(cur.toList.take (i*sz)++g u).length=i*sz+sz:=by simp only[oM,Oa,E u,H];omega
 rw[Vc E l i u hi,<-Y];show(cur.toList.take (i*sz)++g u++cur.toList.drop (i*sz+sz)).take (l.length*sz)=_;rw[OH,Ls oa,hX,M1,Mf oa,List.drop_take]
end
theorem Qif (p:Int×Int)(w:OZ):Q5 prog 21 [.agg (QI p).toArray] w λr w'=>r=.bool (decide (p.2=0))/\O3 [] w w':=by
 refine Zs func21 ntmps21 results21 ?_;refine Qe<|Qa<|QS (us:=QI p) U λb1 H E I G=>Qc<|Qe<|Qs U G U U<|x (Q9 U U)<|Qc ?_;exact Ql ⟨[_],La,U,E⟩
theorem QlC [Fu prog gp fn]{cap:LV}{q:(Int×Int)->Bool}{v:O0}{l:xt}(h:Zv L w.heap v l.length 2 (l.flatMap QI))
  (Y:∀e∈l,∀(G:OZ),O3 [] w G->Q5 prog gp ([.agg (QI e).toArray]++cap) G λr w'=>r=.bool (q e)/\O3 [] G w'):
  Q5 prog 51 [v,.func (.func gp) #[] cap.toArray] w λr w'=>r=oF oG (fix q 0 l)/\O3 [] w w':=by
 have hc:=h.le;refine Zs func51 ntmps51 results51 ?_;refine Qe<|Qc<|Qd<|Qm<|QL h U<|Qb<|xe<|Qg<|QC (α:=Nat) [(4,5),(8,18)] (λz=>[(8,oF oG z)]) (λz w'=>z<=l.length/\O3 [] w w'/\fix q z (l.drop z)=fix q 0 l) (λz=>l.length - z) ol 0 La
  ⟨Ln _,O3.Z _ _,U⟩ ?_
 rintro k g G ⟨hk1,H,E⟩;refine Qe<|QX U U<|xe<|Qd<|QG U (λJ=>?_) (λJ=>?_)
 ·refine Qx ?_;have ha:l.length<=k:=by have hb:¬(k:Int)<(l.length:Int):=J;omega
  rw[Lr ha]at E;refine Qe<|Qc ?_;exact Ql ⟨[_],La,by rw[<-E];rfl,H⟩
 have I:k<l.length:=by have hb:(k:Int)<(l.length:Int):=J;omega
 rw[Zf I,Yg]at E;have S:=Lm I;refine Qh<|Qd<|Qg<|Qm<|Qc<|Qm<|Qb<|Qb<|O6 Yv (h.I H) U U I λhf T=>?_;refine Zk (l[k]'I) λe he=>?_;rw[he]at T E S;refine x (Qv T U U)<|Qa<|xc (first:=[]) (capt:=cap) U<|(Y e S G H).mono ?_;rintro r2 w2 ⟨rfl,V⟩;refine xe<|QW rfl (λO=>?_) (λO=>?_)
 ·rw[OS O]at E;refine Qm<|Qc ?_;exact Ql ⟨[_],La,by rw[<-E];rfl,H.D V⟩
 rw[OR (by rw[O];decide)]at E;refine Qh<|Qw<|QN U U<|Qb<|xe ?_;exact⟨k+1,oa,La,I,H.D V,E⟩
section
variable {pS:String}
theorem U1 {e bys:Nat}[h:Sl P t e sz bys z]{x E:O1}{k:IntKind}(hx:ev f x=.slice (some ⟨b,0,none⟩) n cap)(hl:ev f E=.int k lo)(J:lo<=n):
  (execOp (ev f) ⟨d,.slice t x (some E) none none,ty,pS,af,gd⟩).run P w=.ok (.value (.slice (some ⟨b,if cap=lo then 0 else lo*sz,none⟩) (n - lo) (cap - lo))) w:=by
 obtain⟨i,G,_,H,_⟩:=Sl.info h;have e2:(Instr.sliceBound (.int k lo) n .sliceB).run P w=.ok lo w:=ZL J;by_cases I:cap=lo
 ·simp[execOp,hx,hl,Instr.sliceAt,Instr.slice,run_underlying h.u,Instr.sliceBounds,e2,sizeOf,typeInfo,G,H,I]
 simp[execOp,hx,hl,Instr.sliceAt,Instr.slice,run_underlying h.u,Instr.sliceBounds,e2,sizeOf,typeInfo,G,H,I,Addr.add];exact λe=>e.symm
theorem Jq {e bys:Nat}[h:Sl P t e sz bys z]{x E:O1}{k:IntKind}(hx:ev f x=.slice (some ⟨b,0,none⟩) n cap)(G:ev f E=.int k hi)(H:hi<=cap):
  (execOp (ev f) ⟨d,.slice t x none (some E) none,ty,pS,af,gd⟩).run P w=.ok (.value (.slice (some ⟨b,0,none⟩) hi cap)) w:=by
 obtain⟨i,I,_,J,_⟩:=Sl.info h;have e2:(Instr.sliceBound (.int k hi) cap .sliceAcap).run P w=.ok hi w:=ZL H;simp[execOp,hx,G,Instr.sliceAt,Instr.slice,run_underlying h.u,Instr.sliceBounds,e2,sizeOf,typeInfo,I,Addr.add]
end
theorem jD {α:Type}(q:α->Bool):∀(l:List α) (i:Nat),(fix q i l=-1/\∀x∈l,q x=false)\/∃k,k<l.length/\fix q i l=((i+k:Nat):Int)/\l.take k=(l.take (k+1)).filter λx=>!q x
 | [],i=>.inl ⟨U,λx h=>by cases h⟩
 | a::l,i=>by
  rw[Yg];by_cases h:q a=true
  ·rw[OS h];exact .inr ⟨0,oe,oe,by simp[h]⟩
  rw[OR h];have H:q a=false:=by simpa using h
  rcases jD q l (i+1)with⟨E,G⟩|⟨k,E,G,I⟩
  ·exact .inl ⟨E,λx hx=>by rcases Li.1 hx with rfl|hx;exact H;exact G x hx⟩
  exact .inr ⟨k+1,oz E,by rw[G];congr 1;omega,by rw[ME,ME,Mc,OS (by simp[H]),<-I]⟩
theorem Kt {base e:Nat}(h:w.ownsRow base e sz (.slice (some ⟨b,0,none⟩) n cap) n cs):n<=cap/\∃cur:LV,Q7 w.heap b e cur/\cur.length=cap*sz/\cur.take (n*sz)=cs:=by
 rcases h.2 with⟨e1,_⟩|⟨g',cap',cur,e1,J,E,G,O,H,I⟩
 ·cases e1
 cases e1
 exact⟨G,cur.toList,E,by rw[Array.length_toList];exact H,I⟩
theorem Up {base e k:Nat}{cs' cur:LV}(h:w.ownsRow base e sz (.slice (some ⟨b,0,none⟩) n cap) n cs)(O:k<=n)(E:Q7 w'.heap b e cur)(hl:cur.length=cap*sz)(G:cur.take (k*sz)=cs')(H:cs'.length=k*sz):
  w'.ownsRow base e sz (.slice (some ⟨b,0,none⟩) k cap) k cs':=by
 rcases h.2 with⟨e1,_⟩|⟨g',cap',cur',e1,I,S,T,J,V,Y⟩
 ·cases e1
 cases e1
 exact⟨H,.inr ⟨b,cap,cur.toArray,U,I,E,oa,J,by rw[LP];exact hl,G⟩⟩
theorem xD {α:Type}{sz:Nat}{g:α->LV}(E:∀x,(g x).length=sz):∀l:List α,(l.flatMap g).length=l.length*sz
 | []=>oe
 | a::l=>by rw[LM,Lj,xD E l,E a,LQ,Nat.succ_mul];omega
theorem Qen:∀(l:xt) (k:Nat),(l.flatMap QI).take (k*2)=(l.take k).flatMap QI
 | [],k=>oe
 | a::l,0=>oe
 | a::l,k+1=>by
  rw[show(k+1)*2=k*2+2 by omega,LM,ME,LM,<-Qen l k];rfl
abbrev nzT (l:xt):xt:=l.filter λp=>!decide (p.2=0)
theorem Ql0 {base:Nat}{v:O0}{l:xt}(h:w.ownsRow base 78 2 v l.length (l.flatMap QI))(hl:l.length<=1000):
  Q5 prog 20 [v,.func (.func 21) #[] #[]] w λr w'=>O3 (ob v) w w'/\w'.ownsRow base 78 2 r (nzT l).length ((nzT l).flatMap QI):=by
 have hix:=QlC (cap:=[]) (q:=λp=>decide (p.2=0)) (QH (L:=[]) h oa oe) (λe _ T _=>Qif e T);have ho:=jD (λp:Int×Int=>decide (p.2=0)) l 0;rcases h.2 with⟨rfl,V⟩|⟨g,cap,cur,rfl,hR,_⟩
 ·have h5:l=[]:=Lq V;subst h5;refine Zs func20 ntmps20 results20 ?_;refine Qe<|Qc<|Qm<|Qb<|Qa<|xf<|hix.mono ?_;rintro r1 T ⟨rfl,G⟩;refine Qc<|Qd<|Qm<|x (Q9 U U)<|xe<|QZ U (λ_=>?_) (λh8=>OU U h8);refine Qm<|Qc ?_;exact Ql ⟨[nS],La,G,Qp h G⟩
 obtain⟨hS,_⟩:=Kt h;refine Zs func20 ntmps20 results20 ?_;refine Qe<|Qc<|Qm<|Qb<|Qa<|xf<|hix.mono ?_;rintro r1 T ⟨rfl,G⟩;refine Qc<|Qd<|Qm<|x (Q9 U U)<|xe<|QZ rfl (λY=>?_) (λY=>?_)
 ·have h6:nzT l=l:=NA.2 λp hp=>by
   rcases ho with⟨_,h2⟩|⟨k,_,h2,_⟩
   ·have:=h2 p hp;simpa using this
   have hT:fix (λp:Int×Int=>decide (p.2=0)) 0 l=-1:=Y;omega
  refine Qm<|Qc<|Ql ⟨[.slice (some ⟨g,0,none⟩) l.length cap],La,G.any,?_⟩;rw[h6];exact Qp h G
 refine Exists.elim (ho.resolve_left λa=>Y a.1) λO ha=>?_;have h7:=ha.1;have hq:fix (λp:Int×Int=>decide (p.2=0)) 0 l=(O:Int):=by have:=ha.2.1;omega
 have h9:=ha.2.2;refine Qh<|Qd<|Qm<|x (XI (a:=(O:Int)) (b:=1) (OT (Value.int .i64) hq) U ⟨oa,oa⟩)<|Qc<|Qg<|QC (α:=Nat×Nat×xt) [(5,7),(16,35)] (λz=>[(5,oF oG z.1),(6,oF oG z.2.1)])
  (λz w'=>z.1<z.2.1/\z.2.1<=l.length/\z.2.2.length=l.length/\z.2.2.take z.1=nzT (l.take z.2.1)/\z.2.2.drop z.2.1=l.drop z.2.1/\O3 [g] w w'/\w'.ownsRow base 78 2 (.slice (some ⟨g,0,none⟩) z.2.2.length cap) z.2.2.length (z.2.2.flatMap QI))
  (λz=>l.length - z.2.1) ol (O,O+1,l) ⟨OT (Value.int .i64) hq,U,Z⟩
  ⟨Nat.lt_succ_self _,h7,U,h9,U,G.any,Qp h G⟩ ?_
 rintro⟨i,j,ts⟩ g2 w2 ⟨hB,hj,hb,H,hc,hr,I⟩;simp only[]at hB hj hb H hc I;refine Qd<|Qm<|Qb<|x (Uo U)<|QX U U<|xe<|QG rfl (λhf=>?_) (λhf=>?_)
 ·refine Qx ?_;have hC:j=l.length:=by have hD:¬(j:Int)<(l.length:Int):=hf;omega
  rw[hC,MZ]at H;have hs:(nzT l).length=i:=by rw[<-H,Ly];omega
  refine Exists.elim (Kt I).2 λhU ht=>?_;have hE:=ht.1;have hF:=ht.2.2;refine Qm<|Qb<|x (U1 (lo:=i) U U oa)<|Qa<|Qes (m:=l.length - i) (o:=i*2) (λu hu=>by simp[Value.cells]at hu;rw[hu];rfl) hE ⟨_,U,λh=>⟨by rw[OR oa],oa⟩⟩ λw3 hV hg hG hW hH=>xe ?_;refine Qm<|Qb<|x (Jq (hi:=i) U U oa)<|Qc<|Ql ⟨[.slice (some ⟨g,0,none⟩) i cap],La,hr.Q hg,?_⟩;rw[hs];refine Up I oa hG oa ?_ ?_
  ·rw[hH,<-H,<-Qen,<-hF,M1,Mf oa]
  rw[xD Yv,hs]
 have E:j<l.length:=by have hD:(j:Int)<(l.length:Int):=hf;omega
 have hh:j<ts.length:=oa
 have hI:ts[j]'hh=l[j]'E:=by
  have S:=OT (λz=>z[0]?) hc;simp only[List.getElem?_drop,Oz,Oe hh,Oe E]at S;exact Option.some.inj S
 have hv:ts.drop (j+1)=l.drop (j+1):=by
  have S:=OT (List.drop 1) hc
  rwa [List.drop_drop,List.drop_drop]at S
 have J:nzT (l.take (j+1))=nzT (l.take j)++(if(l[j]'E).2=0 then[]else[l[j]'E]):=by
  unfold nzT;rw[Ll E,LZ];by_cases V:(l[j]'E).2=0 <;> simp[V]
 have hA:=QH (L:=[]) I oa oe;rw[show Value.slice (some ⟨g,0,none⟩) ts.length cap=.slice (some ⟨g,0,none⟩) l.length cap from by rw[hb]]at hA;refine Qh<|Qd<|Qg<|Qm<|Qb<|O6 Yv hA U U hh λhX hk=>?_;rw[hI]at hk;refine Zk (l[j]'E) λe he=>?_;rw[he]at hk J;refine x (Qv hk U U)<|Qa<|Qo (us:=[oF oG 0,oF oG 0]) U λb7 w3 hg hJ hK=>Qa<|Qj (us:=QI e) hK U U U U oA λw4 hL hw=>xe ?_;have hM:O3 [] w2 w4:=hg.O hL hJ;refine Qm<|Q2 hw U U<|Qa<|xc (first:=[]) (capt:=[]) U<|(Qif e w4).mono ?_;rintro r5 w5 ⟨rfl,hy⟩;refine x (Zz U)<|xe ?_;have hz:=hM.D hy;have h3:=Qp I hz;have h4:O3 [g] w w5:=hr.D hz.any;refine QW rfl (λhm=>?_) (λhm=>?_)
 ·have hn:¬e.2=0:=by simpa using hm
  rw[OR hn]at J;have hN:w5.ownsRow base 78 2 (.slice (some ⟨g,0,none⟩) ts.length cap) ts.length (ts.flatMap QI):=h3;refine Qm<|Qb<|Q2 (hw.I hy) U U<|x (ZB (i:=i) U U oa)<|Qa<|jp (u:=e) Yv hN (OT (λn=>Value.pointer (some ⟨g,n,none⟩)) (LX (i*2))) U oa oA λw6 hO hP =>
   xe ?_
  refine Qw<|Qb<|QN U U<|Qc<|Qw<|Qb<|QN U U<|Qc ?_;have hQ:(ts.set i e).length=ts.length:=Mk;refine⟨(i+1,j+1,ts.set i e),oh,oA,oh,E,oh,?_,?_,h4.Q hO,?_⟩
  ·simp only[];rw[J,<-H,List.set_eq_take_append_cons_drop,OS oa,OH,Ls (by rw[Ly];omega),Ly,Mf oa,MF,ME,List.take_zero]
  ·simp only[];rw[List.drop_set_of_lt oa,hv]
  simp only[];rw[hQ];exact hP
 have hn:e.2=0:=by simpa using hm
 rw[OS hn,LS]at J;refine Qh<|Qw<|Qb<|QN U U<|Qc ?_;exact⟨(i,j+1,ts),oh,oA,oh,E,hb,by rw[J];exact H,hv,h4,h3⟩
instance ayAz1:Ay prog 25 3 24 1:=⟨od,od⟩
instance ayAz2:Ay prog 30 2 24 1:=⟨od,od⟩
instance ayAz3:Ay prog 31 2 28 27:=⟨od,od⟩
instance ayAz4:Ay prog 34 3 33 1:=⟨od,od⟩
abbrev X4V:={r:LN // r.length=4/\∀n∈r,n<256}
abbrev Xf (r:X4V):LV:=bys r.1
theorem zt (r:X4V):(Xf r).length=4:=by show(bys r.1).length=4;unfold bys;rw[Lh,r.2.1]
structure PlV where
 ns:LN
 vx:O0
 xs:List X4V
 f0:Int
 f1:Int
 f2:Int
 bd:Int
abbrev Y5 (l:PlV):LV:=bys l.ns++[l.vx,.int .i8 l.f0,.int .i8 l.f1,.int .i8 l.f2,.int .i8 l.bd]
abbrev i8R (n:Int):Prop:=-128<=n/\n<=127
structure PlA (L:LN)(H:xx)(l:PlV):Prop where
 n:l.ns.length=147
 b:∀n∈l.ns,n<256
 x:Zv L H l.vx l.xs.length 4 (l.xs.flatMap Xf)
 f0:i8R l.f0
 f1:i8R l.f1
 f2:i8R l.f2
 bd:i8R l.bd
theorem Qnv {l:PlV}(h:l.ns.length=147):(Y5 l).length=152:=by rw[Y5,Lj,XB,h];rfl
theorem QhV {l:PlV}(h:l.ns.length=147)(j:Nat):(Y5 l)[147+j]?=([l.vx,.int .i8 l.f0,.int .i8 l.f1,.int .i8 l.f2,.int .i8 l.bd]:LV)[j]?:=by
 rw[Y5,MG (by rw[XB];omega),XB,h,MF]
theorem Qek {l:PlV}(h:l.ns.length=147)(E:j<147):(Y5 l)[j]?=some (.int .u8 ((l.ns.getD j 0:Nat):Int)):=by
 rw[Y5,Ml (by rw[XB];omega)];exact qp oa
theorem Qdb {l:PlV}{m:Nat}(j:Nat)(u:O0)(h:(bys ((l.ns.drop o).take m))[j]?=some u):(Y5 l)[o+j]?=some u:=by
 have E:=Qml (ns:=l.ns) (o:=o) (n:=m) j u h;have G:=(L7.1 E).1;rw[Y5,Ml G];exact E
theorem Qfg {sz:LI}:∀(ls:xt) (pr:Option Int),(∀b,pr=some b->∀p∈ls,b<p.1)->ls.Pairwise (λp q=>p.1<q.1)->(∀p∈ls,0<=p.1/\p.1<(sz.length:Int)/\0<=p.2/\p.2<O4 sz p.1.toNat)->XJ sz pr ls=0
 | [],_,_,_,_=>rfl
 | p::ls,pr,H,I,G=>by
  obtain⟨O,S,T,V⟩:=G p Lt;obtain⟨k1,k2⟩:=L3.1 I;have hl:yL pr p.1=false:=by
   cases pr with
   | none=>rfl
   | some b=>have:=H b U p Lt;unfold yL;exact OX oa
  rw[XJ,OR oa,OR (by rw[hl];decide),OR oa];exact Qfg ls (some p.1) (λb J q E=>by cases J;exact k1 q E) k2 (λq E=>G q (Lk _ E))
theorem Qfd {sz:LI}:∀(ls:xt) (pr:Option Int),(∀b,pr=some b->∀p∈ls,b<p.1)->ls.Pairwise (λp q=>p.1<q.1)->(∀p∈ls,0<=p.1/\p.1<(sz.length:Int)/\p.2≠0/\-65536<=p.2/\p.2<=65536)->JW sz pr ls=0
 | [],_,_,_,_=>rfl
 | p::ls,pr,H,I,G=>by
  obtain⟨T,V,J,Y,h5⟩:=G p Lt;obtain⟨k1,k2⟩:=L3.1 I;have hl:yL pr p.1=false:=by
   cases pr with
   | none=>rfl
   | some b=>have:=H b U p Lt;unfold yL;exact OX oa
  have O:grt p.2=false:=by unfold grt;rw[OX oa,OX oa];rfl
  rw[JW,OR oa,OR (by rw[hl];decide),OR (by rw[O];simpa using J)];exact Qfd ls (some p.1) (λb S q E=>by cases S;exact k1 q E) k2 (λq E=>G q (Lk _ E))
theorem Qd8 (a:Int){b:Int}(h:0<b):-b<a.tmod b/\a.tmod b<b:=⟨Int.lt_tmod_of_pos a h,Int.tmod_lt_of_pos a h⟩
structure ItG (c:Nat)(k:Nat)(q:IV):Prop where
 nm:q.nm=⟨#[UInt8.ofNat c]⟩++⟨#[UInt8.ofNat (48+k)]⟩
 g:GdA q.p.a
 e:∀e∈q.p.a.al,e<5
theorem Qib (k:Nat)(h:k<3):YX (nmI 99 k)=true/\YX (nmI 114 k)=true/\YX (nmI 101 k)=true:=by
 match k,h with
 | 0,_=>decide
 | 1,_=>decide
 | 2,_=>decide
theorem Qf0:∀n,n<4->∀m,m<3->((oT n).map (nmI 99)++(oT m).map (nmI 114)).Nodup:=og
theorem jw {c:Nat}{co:List IV}(h:∀k (E:k<co.length),ItG c k (co[k]'E)):(co.map IV.it).map (·.nm)=(oT co.length).map (nmI c):=by
 apply Mt
 ·simp
 intro i G H;simp only[List.getElem_map,List.getElem_range];exact(h i (oz G)).nm
theorem Qoq {co rq:List IV}(h1:1<=co.length)(h3:co.length<=3)(I:∀k (E:k<co.length),ItG 99 k (co[k]'E))(S:∀e,e∈al↔∃q∈co,e∈q.p.a.al)(hb:rq.length<=2)
  (J:∀k (E:k<rq.length),ItG 114 k (rq[k]'E)/\∀e∈(rq[k]'E).p.a.al,e∈al) (hc:qx.length<=2) (T:(qx.map (·.nm)).Nodup) (V:∀q∈qx,(∃k,k<2/\q.nm=⟨#[101]⟩++⟨#[UInt8.ofNat (48+k)]⟩)/\q.ls≠[]/\q.ls.length<=3/\XJ (co.map (·.p.a.st)) none q.ls=0)
  (hf:ks.length<=1) (Y:∀q∈ks,q.nm=⟨#[107]⟩/\Xp (co.map (·.p.a.st)) q.k=0):D25 ⟨JD ns 5,co.map IV.it,rq.map IV.it,qx.map XV.x,ks.map KV.k⟩:=by
 have O:szs (co.map IV.it)=co.map (·.p.a.st):=by unfold szs;rw[Mh];rfl
 refine⟨⟨Vu ns 5,Qi8 ns⟩,by simp only[Oc];omega,by simp only[Oc];omega,by simp only[Oc];omega,λx hx=>?_,λx hx=>?_,?_,by simp only[Oc];omega,λx hx=>?_,?_,by simp only[Oc];omega,λx hx=>?_⟩
 ·obtain⟨q,G,rfl⟩:=LD.1 hx;obtain⟨k,E,rfl⟩:=LO G;have g:=I k E;exact⟨by show YX (co[k]'E).nm=true;rw[g.nm];exact(Qib k oa).1,g.g,g.e⟩
 ·obtain⟨q,G,rfl⟩:=LD.1 hx;obtain⟨k,E,rfl⟩:=LO G;have g:=J k E;refine⟨by show YX (rq[k]'E).nm=true;rw[g.1.nm];exact(Qib k oa).2.1,g.1.g,λe he=>?_⟩;obtain⟨y,hy,ha⟩:=(S e).1 (g.2 e he);exact⟨y.it,LK hy,ha⟩
 ·show((co.map IV.it).map (·.nm)++(rq.map IV.it).map (·.nm)).Nodup;rw[jw I,jw (λk E=>(J k E).1)];exact Qf0 _ oa _ oa
 ·obtain⟨q,G,rfl⟩:=LD.1 hx;obtain⟨⟨k,k1,k2⟩,H,_,g4⟩:=V q G;refine⟨by show YX q.nm=true;rw[k2];exact(Qib k oa).2.2,H,?_⟩;show XJ (szs (co.map IV.it)) none q.ls=0;rw[O];exact g4
 ·show((qx.map XV.x).map (·.nm)).Nodup;rw[Mh];exact T
 obtain⟨q,G,rfl⟩:=LD.1 hx;obtain⟨g1,H⟩:=Y q G;refine⟨by show YX q.nm=true;rw[g1];decide,?_⟩;show Xp (szs (co.map IV.it)) q.k=0;rw[O];exact H
def flk (l:PlV)(i:Nat):Int:=[l.f0,l.f1,l.f2].getD i 0
theorem Qpj {l:PlV}(h:l.ns.length=147)(hi:i<3):(Y5 l)[0+148+i*1]?=some (.int .i8 (flk l i)):=by
 rw[show 0+148+i*1=147+(1+i) by omega,QhV h]
 match i,hi with
 | 0,_=>rfl
 | 1,_=>rfl
 | 2,_=>rfl
theorem Qpi {l:PlV}(h:PlA L H l)(i:Nat)(hi:i<3):i8R (flk l i):=by
 match i,hi with
 | 0,_=>exact h.f0
 | 1,_=>exact h.f1
 | 2,_=>exact h.f2
theorem Qi7 (ns:LN):∀e∈JD ns 5,J6 e.nm:=λe E=>by
 unfold JD at E;obtain⟨k,_,rfl⟩:=LD.1 E;unfold Kx;split <;> exact Xm oe
theorem Qf5 {l:PlV}(h:PlA [] w.heap l):
  Q5 prog 6 [.agg (Y5 l).toArray] w λr w'=>O3 [] w w'/\∃k,Qd5 w.heap.size w'.heap r k/\D25 k:=by
 refine Zk (1+l.ns.getD 5 0 % 3) λn hn=>?_;have hn3:1<=n/\n<=3:=oa
 refine Zs func6 ntmps6 results6 ?_;refine Qe<|Qa<|QS (us:=Y5 l) U λb1 w1 hs1 hb1 pf=>Qa<|Qo (us:=ZY) U λb2 w2 kz hb2 pg=>xe ?_;have ph:=hs1.D kz;have hl1:=pf.lt;have hl2:=pg.lt;have gx:=pf.I kz;have pj:((l.ns.drop 0).take 5).length=5:=by rw[Ly,LW,h.n];rfl
 have hflt:∀n∈(l.ns.drop 0).take 5,n<256:=λn hn=>h.b n (L6 (LR hn));refine Qe<|Q0 U<|x (U4 (us:=bys ((l.ns.drop 0).take 5)) gx U (by rw[XB];exact pj) (λj u hu=>Qdb (l:=l) (o:=0) (m:=5) j u hu))<|Qa<|xf<|(QcJ (ns:=(l.ns.drop 0).take 5) pj hflt).mono ?_;rintro ve w3 ⟨pm,go⟩;refine Zk (JD ((l.ns.drop 0).take 5) 5) λev kj=>?_;rw[kj]at go;refine x (Qz ⟨xJ go,Z⟩)<|Qa<|Qo (us:=ZY) U λH w4 hs4 hb3 hB3=>Qa<|Qj (us:=[ve,ZD,ZD,ZD,ZD]) hB3 U U U U ⟨Qt go,U,U,U,U,Z⟩ λw5 hs5 pn =>
  xe ?_
 have po:O3 [] w3 w5:=hs4.O hs5 hb3;refine Qe<|Qa<|Qo (us:=[ZD]) U λb4 w6 pp hb4 pu=>xe ?_;have pw:=po.D pp;have gy:=pm.D pw;have T:=kz.D gy;have hz3:=pm.size;have hz35:=po.size;have hl3:=pn.lt;have hl4:=pu.lt;have k0:=gx.I gy;have hB36:=pn.I pp;have q5:=Qek (l:=l) h.n (j:=5) oa;have q5l:=Jl h.b 5;refine Zk (l.ns.getD 5 0) λcn hcn=>?_;rw[hcn]at q5 q5l hn;refine Qe<|Qs U k0 U q5<|x (zH (a:=(cn:Int)) (b:=3) U U oa oa)<|x (Ye (k':=.i64) U ⟨oa,oa⟩)<|QN U U<|Qc<|Q3 (α:=O0×List IV×O0×LI) [(6,7),(26,55)] (λ_=>[]) (λz w'=>O3 [H,b4] w6 w'/\Q7 w'.heap H 44 [ve,z.1,ZD,ZD,ZD]/\Q7 w'.heap b4 56 [z.2.2.1]/\qU w6.heap.size w' z.1 z.2.2.1 z.2.1 z.2.2.2/\z.2.1.length=n/\(∀k (O:k<z.2.1.length),ItG 99 k (z.2.1[k]'O))/\z.2.2.2.length<=5*n/\∀e,e∈z.2.2.2↔∃q∈z.2.1,e∈q.p.a.al) ol ?_ ?_
 ·refine Qm<|Qb<|xe<|Qg<|QC (α:=Nat×O0×List IV×O0×LI) [(6,7),(27,55)] (λz=>[(27,oF oG z.1)])
   (λz w'=>z.1<=n/\O3 [H,b4] w6 w'/\Q7 w'.heap H 44 [ve,z.2.1,ZD,ZD,ZD]/\Q7 w'.heap b4 56 [z.2.2.2.1]/\qU w6.heap.size w' z.2.1 z.2.2.2.1 z.2.2.1 z.2.2.2.2/\z.2.2.1.length=z.1/\(∀k (O:k<z.2.2.1.length),ItG 99 k (z.2.2.1[k]'O))/\z.2.2.2.2.length<=5*z.1/\∀e,e∈z.2.2.2.2↔∃q∈z.2.2.1,e∈q.p.a.al)
   (λz=>n - z.1) ol (0,ZD,[],ZD,[]) La
   ⟨Ln _,O3.Z _ _,hB36,pu,qU.nil,U,λk O=>OU O oe,oe,oe⟩ ?_
  rintro⟨i,vc,co,va,al⟩ g7 w7 ⟨hi,hE,gp,gg,hv,gz,hU,k4,gq⟩;simp only[]at hi gp gg hv gz hU k4 gq;refine Qe<|QX U U<|xe<|Qd<|QG U (λk5=>?_) (λk5=>?_)
  ·refine Qx ?_;have k6:i=n:=by have h29:¬(i:Int)<1+(cn:Int) % 3:=k5;omega
   exact⟨(vc,co,va,al),Z,hE,gp,gg,hv,oh,hU,oh,gq⟩
  have h5:i<n:=by have h29:(i:Int)<1+(cn:Int) % 3:=k5;omega
  have k7:b1∉[H,b4]:=oq
  have hV:=k0.J hE k7;have qs:=Qek (l:=l) h.n (j:=0+6+i*1) oa;have qsl:=Jl h.b (0+6+i*1);refine Zk (l.ns.getD (0+6+i*1) 0) λm hm=>?_;rw[hm]at qs qsl;have k8:=Jw m 5;have g0:=Qbn m 5;have gh:=Qeh m 5;refine Zk (setK m 5) λsk g2=>?_;rw[g2]at k8 g0 gh;refine Qh<|Qd<|Qg<|Qm<|Qc<|Qm<|Q0 U<|x (Z3 (i:=i) U U oa)<|Y2 hV U qs<|Qa<|xf<|(Uj m qsl _).mono ?_;rintro vs w8 ⟨hh,kk⟩;rw[g2]at kk;refine Qc ?_;have pz:=hh.size;have hH:=hv.I hh;have hI8:=Qu.ints (L:=[]) hH.a oa oe;have hJ8:=Qu.ints (L:=[]) kk oa oe;refine Qe<|Y2 (gg.I hh) U U<|Qb<|Qa<|xf<|(QcW hI8 hJ8 oa).mono ?_;rintro p0 w9 ⟨V,p1,hal2,p2,gi⟩;have kn:=hh.D V;have k9:=V.size;have hz7:=hE.size;refine Qa<|QA (gg.I kn) U U oe (Qt gi) λhf hw hB410=>xe ?_;have hl36:H<w6.heap.size:=oa
  have h7:qU w6.heap.size w9 vc p0 co p1:=hH.setA (Zy gi oa) V.any (λb E=>.inr (Qi gi b E).1);have hy:=h7.low hw (λb E=>by rw[Lb.1 E];omega);have g3:Q7 hf.heap H 44 [ve,vc,ZD,ZD,ZD]:=(gp.I kn).J hw om;have ma:=(hV.I kn).J hw om;have mf:QQ [] hf.heap vs sk:=Qu.ints (L:=[]) (Qf (Qp kk V) hw (λb E hm=>by have:=(Qi kk b E).1;rw[Lb.1 hm]at this;omega)) oa oe;have hz10:=hw.size;have n3v:H∉ob vc:=QT hy.c oa;have n1v:b1∉ob vc:=QT hy.c oa;have gj:=QiK (ns:=l.ns) (o:=0+9+i*27) (ou h.n);have g4:=QmS (o:=0+9+i*27) h.b;have g5:=λj u=>Qdb (l:=l) (o:=0+9+i*27) (m:=27) j u;refine Zk (grN l.ns (0+9+i*27)) λgr h8=>?_;have mg:∀j u,(bys gr)[j]?=some u->(Y5 l)[0+9+i*27+j]?=some u:=by rw[<-h8];exact g5
  rw[h8]at gj g4;have g6:O3 [] hf { hf with drawn:=hf.drawn+1 }:=O3.C _ _
  have ka:(48:Int)+(i:Int)=((48+i:Nat):Int):=oa
  refine Zk (⟨#[99]⟩++⟨#[UInt8.ofNat (48+i)]⟩:ByteArray) λnm hI=>?_;refine QR (O3 (ob vc) hf) [oD 0,oD 1,oD 2,oD 3,oD 4,oD 5,oD 6,oD 7,oD 8,oD 9,oD 10,oD 11,oE 12,oD 13,oE 14,oE 15,oD 16,oE 17] mixed ol od (O3.C _ _) ?_;refine p (QP U)<|pq (λ_ hc=>Qq (g3.J hc n3v) U U)<|p Qy<|p (λ_=>XI U U ⟨oa,oa⟩)<|p (λ_=>Ye (k':=.i32) U ⟨oa,oa⟩)<|p (λ_=>U2 (n:=48+i) (OT (Value.int .i32) ka) oa) <|
   p (λ_=>YF (a:=⟨#[99]⟩) (b:=⟨#[UInt8.ofNat (48+i)]⟩) U U (by show 1+1<=1000000000;omega))<|p Qy<|p Qy<|p (QP U)<|p (λ_=>Z3 (i:=i) U U oa)<|pq (λ_ hc=>U4 (us:=bys gr) (ma.J hc n1v) U (by rw[XB];exact gj) mg)<|?_
  refine pk<|xf<|(z8 (mf.I g6) (λe S=>ou (gh e S)) g0 gj g4).mono ?_;rintro r11 ho ⟨gk,a,⟨xa,xm,h6,rfl,hA⟩,hG,gs⟩;have hJ:=g6.D gk;have p3:=hJ.size;have gl:=hA [] oe;refine⟨hJ.any,?_⟩;refine p (λ_=>Zt [(0,[.string nm]),(1,[xa,oF oG a.st,xm,h6])] ⟨OT (λb=>(Value.string b).cells) hI,U,U,U,Z⟩)<|pk<|QB (us:=[QO ⟨nm,⟨xa,xm,h6,a⟩⟩]) U U og (show 1*5<=1000000 by omega) oA λb14 hW hg hb14 mh=>⟨(hJ.D hg).any,?_⟩;have hz:=hJ.D hg;have kb:=hy.I hz;refine pk<|Za (news:=QO ⟨nm,⟨xa,xm,h6,a⟩⟩) (L:=[]) kb.c U U U (mh.at oe) (QaH gl.al.one gl.mr.one gl.ed.one) oa (ou hz.size) λmj hK kc J mo=>⟨(hz.any (L:=ob vc)).Q J,?_⟩;have mq:=kb.setC (zY (q:=⟨nm,⟨xa,xm,h6,a⟩⟩) (N:=hf.heap.size) (λL hL=>(hA L hL).I hg) oa hy.avlt) kc J mo;refine p (QP U)<|pkl (hl:=by kernel_rfl)<|QA ((g3.I hz).J J n3v) U U oe (Qt kc) λhM T hX=>pe ?_;have hge:=Qi hy.c;have n4v:b4∉ob vc:=QT hy.c oa;have hB416:=((hB410.I hz).J J n4v).J T om;have hs710:O3 [b4] w7 hf:=kn.any.Q hw;have hs615:O3 [H,b4] w6 hK:=((hE.Q (hs710.mono oe)).D hz.any).then J (λb E=>.inr (hge b E).1);refine Qw<|QN U U<|Qb<|xe<|⟨(i+1,mj,co++[⟨nm,⟨xa,xm,h6,a⟩⟩],p0,p1),oh,La,h5,hs615.Q (T.mono oe),hX,hB416,mq.low T (λb E=>by rw[List.mem_singleton.1 E];omega),by simp only[oM,oO];omega,λk O=>?_,oh,λe=>?_⟩
  ·simp only[]at O ⊢;by_cases hj:k<co.length
   ·rw[MC hj];exact hU k hj
   have ke:k=i:=by simp only[oM,oO]at O;omega
   subst ke;rw[M5 oa];simp only[gz,Nat.sub_self,List.getElem_cons_zero];exact⟨hI.symm,hG,λe S=>by rw[gs]at S;exact(gh e S).2⟩
  simp only[]at p2 ⊢;rw[p2,gq];constructor
  ·rintro(⟨q,G,S⟩|S)
   ·exact⟨q,Mr _ G,S⟩
   exact⟨_,Ns _ (Lb.2 U),by rw[gs];exact S⟩
  rintro⟨q,G,S⟩;rcases Lc.1 G with G|G
  ·exact .inl ⟨q,G,S⟩
  rw[Lb.1 G,gs]at S;exact .inr S
 rintro⟨vc,co,va,al⟩ g7 w7 ⟨hE,gp,gg,hv,gz,hU,k4,gq⟩;simp only[]at gp gg hv gz hU k4 gq;have hz7:=hE.size;have k7:b1∉[H,b4]:=oq
 have hV:=k0.J hE k7;have ms:b1∉[H]:=om
 have n43:b4∉[H]:=om
 have p4:=Qek (l:=l) h.n (j:=90) oa;have q90l:=Jl h.b 90;refine Zk (l.ns.getD 90 0) λrn hrn=>?_;rw[hrn]at p4 q90l;refine Zk (rn % 3) λr hr=>?_;refine Q3 (α:=O0×List IV) [(8,9),(56,87)] (λ_=>[]) (λz w'=>O3 [H] w7 w'/\Q7 w'.heap H 44 [ve,vc,z.1,ZD,ZD]/\qU w7.heap.size w' z.1 ZD z.2 []/\z.2.length=r/\∀k (O:k<z.2.length),ItG 114 k (z.2[k]'O)/\∀e∈(z.2[k]'O).p.a.al,e∈al) ol ?_ ?_
 ·refine Qe<|Qs U hV U p4<|x (zH (a:=(rn:Int)) (b:=3) U U oa oa)<|x (Ye (k':=.i64) U ⟨oa,oa⟩)<|Qb<|xe<|Qg<|QC (α:=Nat×O0×List IV) [(8,9),(60,87)] (λz=>[(60,oF oG z.1)])
   (λz w'=>z.1<=r/\O3 [H] w7 w'/\Q7 w'.heap H 44 [ve,vc,z.2.1,ZD,ZD]/\qU w7.heap.size w' z.2.1 ZD z.2.2 []/\z.2.2.length=z.1/\∀k (O:k<z.2.2.length),ItG 114 k (z.2.2[k]'O)/\∀e∈(z.2.2[k]'O).p.a.al,e∈al)
   (λz=>r - z.1) ol (0,ZD,[]) La
   ⟨Ln _,O3.Z _ _,gp,qU.nil,U,λk O=>OU O oe⟩ ?_
  rintro⟨i,vr,rq⟩ g8 w8 ⟨hi,hh,gt,hH,ko,h8⟩;simp only[]at hi gt hH ko h8;refine Qe<|QX U U<|xe<|Qd<|QG U (λmt=>?_) (λmt=>?_)
  ·refine Qx ?_;have k6:i=r:=by have h62:¬(i:Int)<(rn:Int) % 3:=mt;omega
   exact⟨(vr,rq),Z,hh,gt,hH,oh,h8⟩
  have h5:i<r:=by have h62:(i:Int)<(rn:Int) % 3:=mt;omega
  have kf:=hV.J hh ms;have hB48:=gg.J hh n43;have qs:=Qek (l:=l) h.n (j:=0+91+i*1) oa;have qsl:=Jl h.b (0+91+i*1);refine Zk (l.ns.getD (0+91+i*1) 0) λm hm=>?_;rw[hm]at qs qsl;have k8:=Jw m 5;have g0:=Qbn m 5;have gh:=Qeh m 5;refine Zk (setK m 5) λsk g2=>?_;rw[g2]at k8 g0 gh;refine Qh<|Qd<|Qg<|Qm<|Qc<|Qm<|Q0 U<|x (Z3 (i:=i) U U oa)<|Y2 kf U qs<|Qa<|xf<|(Uj m qsl _).mono ?_;rintro vs w9 ⟨V,gi⟩;rw[g2]at gi;have pz:=hh.size;have k9:=V.size;have hva8:=Qp (Qf hv.a hh (λb E hm=>by rw[Lb.1 hm]at E;exact QT hv.a oa E)) V;have g5:=Qi gi;have hlv:=Zb hv.a;have hD:=Ql1 gi oa (hB48.I V) (λhm=>ou (g5 b4 hm).1) (QH hva8 oa (λb E hbs=>ov (g5 b hbs).1 (hlv b E)));refine x (ZC (l:=[]) (l':=[_]))<|Qa<|xf<|hD.mono ?_;rintro vd hf ⟨hw,p5⟩;have p6:Y1 (sk.filter λx=>decide (x∈al)):=List.Pairwise.filter _ g0;have hFL:=Ma (λx=>decide (x∈al)) sk;have kq:∀e∈sk.filter λx=>decide (x∈al),e∈sk/\e∈al:=λe S=>by
   have:=L9.1 S;exact⟨this.1,OW this.2⟩
  refine Zk (sk.filter λx=>decide (x∈al)) λF hF=>?_;rw[hF]at p5 p6 hFL kq;refine Qc ?_;have kg:O3 [] w8 hf:=V.then hw (λb E=>.inr (g5 b E).1);have hz10:=kg.size;have hy:=hH.I kg;have g3:=gt.I kg;have ma:=kf.I kg;have mf:QQ [] hf.heap vd F:=Qu.ints (L:=[]) p5 oa oe;have n3v:H∉ob vr:=QT hy.c oa;have n1v:b1∉ob vr:=QT hy.c oa;have gj:=QiK (ns:=l.ns) (o:=0+93+i*27) (ou h.n);have g4:=QmS (o:=0+93+i*27) h.b;have mg:=λj u=>Qdb (l:=l) (o:=0+93+i*27) (m:=27) j u;refine Zk (grN l.ns (0+93+i*27)) λgr p7=>?_;have hgs2:∀j u,(bys gr)[j]?=some u->(Y5 l)[0+93+i*27+j]?=some u:=by rw[<-p7];exact mg
  rw[p7]at gj g4;have g6:O3 [] hf { hf with drawn:=hf.drawn+1 }:=O3.C _ _
  have ka:(48:Int)+(i:Int)=((48+i:Nat):Int):=oa
  refine Zk (⟨#[114]⟩++⟨#[UInt8.ofNat (48+i)]⟩:ByteArray) λnm hI=>?_;refine QR (O3 (ob vr) hf) [oD 0,oD 1,oD 2,oD 3,oD 4,oD 5,oD 6,oD 7,oD 8,oD 9,oD 10,oD 11,oE 12,oD 13,oE 14,oE 15,oD 16,oE 17] mixed ol od (O3.C _ _) ?_;refine p (QP U)<|pq (λ_ hc=>Qq (g3.J hc n3v) U U)<|p Qy<|p (λ_=>XI U U ⟨oa,oa⟩)<|p (λ_=>Ye (k':=.i32) U ⟨oa,oa⟩)<|p (λ_=>U2 (n:=48+i) (OT (Value.int .i32) ka) oa) <|
   p (λ_=>YF (a:=⟨#[114]⟩) (b:=⟨#[UInt8.ofNat (48+i)]⟩) U U (by show 1+1<=1000000000;omega))<|p Qy<|p Qy<|p (QP U)<|p (λ_=>Z3 (i:=i) U U oa)<|pq (λ_ hc=>U4 (us:=bys gr) (ma.J hc n1v) U (by rw[XB];exact gj) hgs2)<|?_
  refine pk<|xf<|(z8 (mf.I g6) (λe S=>ou (gh e (kq e S).1)) p6 gj g4).mono ?_;rintro r11 ho ⟨gk,a,⟨xa,xm,h6,rfl,hA⟩,hG,gs⟩;have hJ:=g6.D gk;have p3:=hJ.size;have gl:=hA [] oe;refine⟨hJ.any,?_⟩;refine p (λ_=>Zt [(0,[.string nm]),(1,[xa,oF oG a.st,xm,h6])] ⟨OT (λb=>(Value.string b).cells) hI,U,U,U,Z⟩)<|pk<|QB (us:=[QO ⟨nm,⟨xa,xm,h6,a⟩⟩]) U U og (show 1*5<=1000000 by omega) oA λb14 hW hg hb14 mh=>⟨(hJ.D hg).any,?_⟩;have hz:=hJ.D hg;have kb:=hy.I hz;refine pk<|Za (news:=QO ⟨nm,⟨xa,xm,h6,a⟩⟩) (L:=[]) kb.c U U U (mh.at oe) (QaH gl.al.one gl.mr.one gl.ed.one) oa (ou hz.size) λmj hK kc J mo=>⟨(hz.any (L:=ob vr)).Q J,?_⟩;have mq:=kb.setC (zY (q:=⟨nm,⟨xa,xm,h6,a⟩⟩) (N:=hf.heap.size) (λL hL=>(hA L hL).I hg) oa hy.avlt) kc J mo;refine p (QP U)<|pkl (hl:=by kernel_rfl)<|QA ((g3.I hz).J J n3v) U U oe (Qt kc) λhM T hX=>pe ?_;have hge:=Qi hy.c;have hs715:O3 [H] w7 hK:=((hh.D kg.any).D hz.any).then J (λb E=>.inr (hge b E).1);refine Qw<|QN U U<|Qb<|xe<|⟨(i+1,mj,rq++[⟨nm,⟨xa,xm,h6,a⟩⟩]),oh,La,h5,hs715.Q T,hX,mq.low T (λb E=>by rw[Lb.1 E];omega),by simp only[oM,oO];omega,λk O=>?_⟩;simp only[]at O ⊢;by_cases hj:k<rq.length
  ·rw[MC hj];exact h8 k hj
  have ke:k=i:=by simp only[oM,oO]at O;omega
  subst ke;rw[M5 oa];simp only[ko,Nat.sub_self,List.getElem_cons_zero];exact⟨⟨hI.symm,hG,λe S=>by rw[gs]at S;exact(gh e (kq e S).1).2⟩,λe S=>by rw[gs]at S;exact(kq e S).2⟩
 rintro⟨vr,rq⟩ g8 w8 ⟨hh,gt,hH,ko,h8⟩;simp only[]at gt hH ko h8;have pz:=hh.size;have kf:=hV.J hh ms;have g147:=QhV (l:=l) h.n 0;have hX6:Zv [H,b4] w6.heap l.vx l.xs.length 4 (l.xs.flatMap Xf):=((h.x.up (L':=[H,b4]) (λb E=>.inr (by simp only[oK,oJ,or_false]at E;omega))).I ph).I gy;have p8:Zv [H] w8.heap l.vx l.xs.length 4 (l.xs.flatMap Xf):=((hX6.st hE).up (L':=[H]) (λb E=>.inl (by simp only[oI]at E;simp[E]))).st hh;refine Q3 (α:=O0×List XV) [(10,14),(88,151)] (λ_=>[]) (λz w'=>O3 [H] w8 w'/\Q7 w'.heap H 44 [ve,vc,vr,z.1,ZD]/\VH Q6 2 71 (λq=>[(q.v,q.ls.length,2,q.ls.flatMap QI)]) w8.heap.size w' z.1 z.2/\z.2.length<=2/\(z.2.map (·.nm)).Nodup/\∀q∈z.2,(∃k,k<2/\q.nm=⟨#[101]⟩++⟨#[UInt8.ofNat (48+k)]⟩)/\q.ls≠[]/\q.ls.length<=3/\XJ (co.map (·.p.a.st)) none q.ls=0) ol ?_ ?_
 ·refine Qe<|Qs U kf U g147<|QL p8 U<|Qb<|xe<|Qg<|QC (α:=Nat×O0×List XV) [(10,14),(91,151)] (λz=>[(91,oF oG z.1)])
   (λz w'=>z.1<=l.xs.length/\z.1<=2/\O3 [H] w8 w'/\Q7 w'.heap H 44 [ve,vc,vr,z.2.1,ZD]/\VH Q6 2 71 (λq=>[(q.v,q.ls.length,2,q.ls.flatMap QI)]) w8.heap.size w' z.2.1 z.2.2/\z.2.2.length<=z.1/\(z.2.2.map (·.nm)).Nodup/\∀q∈z.2.2,(∃k,k<z.1/\q.nm=⟨#[101]⟩++⟨#[UInt8.ofNat (48+k)]⟩)/\q.ls≠[]/\q.ls.length<=3/\XJ (co.map (·.p.a.st)) none q.ls=0)
   (λz=>l.xs.length - z.1) ol (0,ZD,[]) La
   ⟨Ln _,Ln _,O3.Z _ _,gt,VH.nil,Lx _,List.Pairwise.nil,λq G=>by cases G⟩ ?_
  rintro⟨i,vx,qx⟩ g9 w9 ⟨hi,hi2,V,hY,h7,kr,hZ,hN⟩;simp only[]at hi hi2 hY h7 kr hZ hN;have p9:(∀q∈qx,(∃k,k<2/\q.nm=⟨#[101]⟩++⟨#[UInt8.ofNat (48+k)]⟩)/\q.ls≠[]/\q.ls.length<=3/\XJ (co.map (·.p.a.st)) none q.ls=0):=λq G=>by
   obtain⟨⟨k,k1,k2⟩,h2⟩:=hN q G;exact⟨⟨k,oa,k2⟩,h2⟩
  refine Qe<|QX U U<|xe<|Qd<|QG U (λqc=>?_) (λqc=>?_)
  ·refine Qx ?_;exact⟨(vx,qx),Z,V,hY,h7,oh,hZ,p9⟩
  have h5:i<l.xs.length:=by have h93:(i:Int)<(l.xs.length:Int):=qc;omega
  have hX9:=p8.st V;refine Qh<|Qd<|Qg<|Qm<|O6 zt hX9 U U h5 λa94 ql=>?_;refine Zk (l.xs[i]'h5) λxr hxr=>?_;rw[hxr]at ql;refine x (Qv ql U (zt xr))<|Qa<|Qo (us:=[.int .u8 0,.int .u8 0,.int .u8 0,.int .u8 0]) U λqo hf hw hb11 hB11=>x Qk<|Qa<|Qj (us:=Xf xr) hB11 U U (zt xr) U (Qcy xr.1) λho gk qr=>xe ?_;have hB:O3 [] w9 ho:=hw.O gk hb11;refine Qd<|Qm<|x (Q9 U U)<|xe<|QZ U (λq0=>?_) (λq0=>?_)
  ·refine Qx ?_;exact⟨(vx,qx),Z,V.D hB.any,hY.I hB,h7.I hB,oh,hZ,p9⟩
  have hi3:i<2:=by have h98:¬(i:Int)=2:=q0;omega
  have ka:(48:Int)+(i:Int)=((48+i:Nat):Int):=oa
  have p3:=hB.size;have hl11:=qr.lt;refine Zk (⟨#[101]⟩++⟨#[UInt8.ofNat (48+i)]⟩:ByteArray) λnm hI=>?_;refine Qh<|Qm<|QN U U<|x (Ye (k':=.i32) U ⟨oa,oa⟩)<|x (U2 (n:=48+i) (OT (Value.int .i32) ka) oa)<|x (YF (a:=⟨#[101]⟩) (b:=⟨#[UInt8.ofNat (48+i)]⟩) U U (by show 1+1<=1000000000;omega))<|x (Qz La) <|
   Qa<|Qo (us:=[.string .empty,ZD]) U λb12 hW hg q1 gx=>Qa<|Qj (us:=[.string nm,ZD]) gx U (show Go.Lg.ev _ _=_ from OT (λs=>Value.agg #[.string s,ZD]) hI) U U oA λhO hP hB1213=>xe ?_
  have kt:O3 [] ho hO:=hg.O hP q1;have mu:=hB.D kt;have hz1113:=kt.size;have k9:=V.size;have hltC:=Zb hv.c;have nc3:H∉ob vc:=QT hv.c oa;have q2:∀b∈ob vc,b∉[H]:=λb E hm=>by rw[Lb.1 hm]at E;exact nc3 E
  have hC13:=Qp (Qf (Qf hv.c hh q2) V q2) mu;have mv:=hY.I mu;have hB1113:=qr.I kt;have hl12:=gx.lt;have q3:H∉[b12]:=om
  have n1112:qo∉[b12]:=om
  have q4:=QH (L:=[b12]) hC13 oa (λb E hm=>by rw[Lb.1 hm]at E;have:=hltC b12 E;omega);refine Q3 (α:=O0×xt) [(13,14),(104,140)] (λ_=>[]) (λz w'=>O3 [b12] hO w'/\Q7 w'.heap b12 71 [.string nm,z.1]/\w'.ownsRow hO.heap.size 73 2 z.1 z.2.length (z.2.flatMap QI)/\z.2.length<=co.length/\z.2.Pairwise (λp q=>p.1<q.1)/\∀p∈z.2,0<=p.1/\p.1<(co.length:Int)/\0<=p.2/\p.2<O4 (co.map (·.p.a.st)) p.1.toNat) ol ?_ ?_
  ·refine Qe<|Qs U mv U U<|QL q4 U<|Qb<|xe<|Qg<|QC (α:=Nat×O0×xt) [(13,14),(107,140)] (λz=>[(107,oF oG z.1)])
    (λz w'=>z.1<=co.length/\O3 [b12] hO w'/\Q7 w'.heap b12 71 [.string nm,z.2.1]/\w'.ownsRow hO.heap.size 73 2 z.2.1 z.2.2.length (z.2.2.flatMap QI)/\z.2.2.length<=z.1/\z.2.2.Pairwise (λp q=>p.1<q.1)/\∀p∈z.2.2,0<=p.1/\p.1<(z.1:Int)/\0<=p.2/\p.2<O4 (co.map (·.p.a.st)) p.1.toNat)
    (λz=>co.length - z.1) ol (0,ZD,[]) La
    ⟨Ln _,O3.Z _ _,hB1213,QJ _ _ _ _,Lx _,List.Pairwise.nil,λp I=>by cases I⟩ ?_
   rintro⟨k,vl,ls⟩ g14 hC ⟨O,Y,hQ,ha,mw,gm,hR⟩;simp only[]at O hQ ha mw gm hR;refine Qe<|QX U U<|xe<|Qd<|QG U (λmy=>?_) (λmy=>?_)
   ·refine Qx ?_;have ke:k=co.length:=by have h109:¬(k:Int)<(co.length:Int):=my;omega
    rw[ke]at hR;exact⟨(vl,ls),Z,Y,hQ,ha,oh,gm,hR⟩
   have hj:k<co.length:=by have h109:(k:Int)<(co.length:Int):=my;omega
   have hAC14:=q4.st Y;have ga:=mv.J Y q3;have j1:=hB1113.J Y n1112;refine Qh<|Qd<|Qg<|Qm<|Qc<|Qe<|Qs U ga U U<|Qb<|O6 Yj hAC14 U U hj λa113 j2=>?_;refine Zk (co[k]'hj) λq G=>?_;rw[G]at j2;refine x (Zg U)<|x (Zg U)<|x (QD ((j2.from 1).fld 1 (oF oG q.p.a.st) U) U)<|Qc ?_;have mz:=(hU k hj).g;rw[G]at mz;have hqp:=mz.p;have hqs:=mz.s;have m2:=qp (ns:=xr.1) (j:=0+k*1) (by rw[xr.2.1];omega);have qx0l:=Jl xr.2.2 (0+k*1);refine Zk (xr.1.getD (0+k*1) 0) λxk hxk=>?_;rw[hxk]at m2 qx0l;have hmod:0<=(xk:Int) % (q.p.a.st+2):=Int.emod_nonneg _ oa;refine Qm<|x (Z3 (i:=k) U U oa)<|Y2 j1 U m2<|x (Ye (k':=.i64) U ⟨oa,oa⟩)<|Qb<|QN U U<|x (zH (a:=(xk:Int)) (b:=q.p.a.st+2) U U oa oa)<|Qb<|QX U U<|xe ?_;have hgeL:=Qi ha;have j3:=Y.size;have za:=hP.size;have zb:b12∉ob vl:=QT ha oa;have hn11v:qo∉ob vl:=QT ha oa;have hcget:O4 (co.map (·.p.a.st)) k=q.p.a.st:=by
    unfold O4;simp[oQ,List.getElem?_map,Oe hj,G]
   refine QG U (λh125=>?_) (λh125=>?_)
   ·refine Qh<|Qw<|QN U U<|Qb<|xe ?_;exact⟨(k+1,vl,ls),oh,La,hj,Y,hQ,ha,oh,gm,λp I=>by have:=hR p I;simp only[];omega⟩
   have hd14:O3 [] hC { hC with drawn:=hC.drawn+1 }:=O3.C _ _
   refine Zk ((xk:Int) % (q.p.a.st+2)) λst hst=>?_;refine QR (O3 (ob vl) hC) [oD 0,oD 1,oD 2,oD 3,oD 4,oD 5,oD 6,oD 7,oD 8,oD 9,oD 10,oE 11,oE 12,oD 13,oE 14] mixed ol od (O3.C _ _) ?_;refine p (QP U)<|pq (λ_ hc=>Qq (hQ.J hc zb) U U)<|p Qy<|p Qy<|p (λ_=>Z3 (i:=k) U U oa)<|pq (λ_ hc=>Qq (j1.J hc hn11v) U m2)<|p (λ_=>Ye (k':=.i64) U ⟨oa,oa⟩)<|p Qy<|p (λ_=>XI U U ⟨oa,oa⟩) <|
    p (λ_=>zH (a:=(xk:Int)) (b:=q.p.a.st+2) U U oa oa)<|p (λ_=>Qz ⟨U,U,Z⟩)<|pk<|QB (us:=[QI ((k:Int),(xk:Int) % (q.p.a.st+2))]) U U og (show 1*2<=1000000 by omega) oA λb137 hK J hb137 hB137=>?_
   have gu:=hd14.D J;have hz1415:=gu.size;refine⟨gu.any,?_⟩;refine pk<|Za (news:=QI ((k:Int),(xk:Int) % (q.p.a.st+2))) (L:=[]) (Qp ha gu) U U U (hB137.at oe) (Qeo _) oa oa λv16 hM gv T zv=>⟨(gu.any (L:=ob vl)).Q T,?_⟩;have hge16:∀b∈ob v16,hO.heap.size<=b:=λb E=>(Qi gv b E).1;refine p (QP U)<|pkl (hl:=by kernel_rfl)<|QA ((hQ.I gu).J T zb) U U oe (Qt gv) λm3 h0 hV=>pe ?_;refine Qw<|QN U U<|Qb<|xe<|⟨(k+1,v16,ls++[((k:Int),(xk:Int) % (q.p.a.st+2))]),oh,La,hj,((Y.D gu.any).then T (λb E=>.inr (hgeL b E).1)).Q h0,hV,?_,by simp only[oM,oO];omega,?_,λp I=>?_⟩
   ·have h9:=Qf gv h0 (λb E=>by have:=hge16 b E;simp only[oI];omega);simp only[oM,List.flatMap_append];simpa using h9
   ·simp only[];rw[MI];exact⟨gm,NC _ _,λp I p' m4=>by rw[Lb.1 m4];have:=hR p I;simp only[];omega⟩
   simp only[]at I ⊢;rcases Lc.1 I with I|I
   ·have:=hR p I;omega
   rw[Lb.1 I];simp only[Ot];rw[hcget];omega
  rintro⟨vl,ls⟩ g14 hC ⟨Y,hQ,ha,mw,gm,hR⟩;simp only[]at hQ ha mw gm hR;have j3:=Y.size;have za:=hP.size;have gb:O3 [] w9 hC:=mu.O Y oa;have ga:=mv.J Y q3;have ku:=h7.I gb;refine Qe<|Qs U hQ U U<|QL (QH (L:=[]) ha oa oe) rfl<|x (ZZ rfl rfl)<|xe<|QG U (λz0=>?_) (λz0=>?_)
  ·refine Qh<|Qw<|QN U U<|Qb<|xe<|⟨(i+1,vx,qx),oh,La,h5,oh,V.D gb.any,ga,ku,oh,hZ,λq G=>?_⟩;obtain⟨⟨k,k1,k2⟩,h2⟩:=hN q G;exact⟨⟨k,oh,k2⟩,h2⟩
  have z1:(0:Int)<(ls.length:Int):=z0;have hxx:=Qt ha;refine Qw<|Qs U ga U U<|Q2 hQ U U<|Qa<|QB (us:=[Q6 ⟨nm,vl,ls⟩]) U U og (show 1*2<=1000000 by omega) oA λb148 hK J hb148 hB148=>?_;refine Qa<|Za (news:=Q6 ⟨nm,vl,ls⟩) (L:=[]) (Qp ku.own J) U U U (hB148.at oe) (j7 hxx) oa (ov gb.size J.size) λv16 hM gv T zv=>?_;have hs1115:O3 [] ho hK:=(kt.O Y q1).D J;have hM16:=(h7.I hB).app hs1115 (q:=⟨nm,vl,ls⟩) (λt ht=>by rw[Lb.1 ht];exact⟨hO.heap.size,73,Qp ha J,by show ls.length<=_;omega,hz1113⟩) oa gv T zv;have hgeX:=Qi ku.own;have n3x:H∉ob vx:=QT ku.own oa;refine Q0 U<|Qa<|QA ((ga.I J).J T n3x) U U oe (Qt gv) λm3 h0 hB317=>xe ?_;refine Qw<|QN U U<|Qb<|xe ?_;have kv:O3 [H] w8 hM:=((V.D gb.any).D J.any).then T (λb E=>.inr (hgeX b E).1);refine⟨(i+1,v16,qx++[⟨nm,vl,ls⟩]),oh,La,h5,oh,kv.Q h0,hB317,hM16.low h0 (λb E=>by rw[Lb.1 E];omega),by simp only[oM,oO];omega,?_,λq G=>?_⟩
  ·simp only[Og,oX,OI];rw[My];refine⟨hZ,oe,λs hs s' hs' e=>?_⟩;obtain⟨q,G,rfl⟩:=LD.1 hs;obtain⟨⟨k,k1,k2⟩,_⟩:=hN q G;have hk0:k=0:=oa
   have hi1:i=1:=oa
   rw[Lb.1 hs',k2,<-hI,hk0,hi1]at e;exact OU e og
  rcases Lc.1 G with G|G
  ·obtain⟨⟨k,k1,k2⟩,h2⟩:=hN q G;exact⟨⟨k,oh,k2⟩,h2⟩
  rw[Lb.1 G];refine⟨⟨i,Nat.lt_succ_self _,hI.symm⟩,λe=>by rw[show ls=[] from e]at z1;exact OU z1 og,by show ls.length<=3;omega,Qfg ls none (λb E=>by cases E) gm (λp I=>?_)⟩;rw[Lh];exact hR p I
 rintro⟨vx,qx⟩ g9 w9 ⟨V,hY,h7,kr,hZ,hN⟩;simp only[]at hY h7 kr hZ hN;have k9:=V.size;have z2:=kf.J V ms;have g151:=QhV (l:=l) h.n 4;have hbd:=h.bd;have hbdb:=Qd8 l.bd (b:=8) og;refine Zk (l.bd.tmod 8) λbd z3=>?_;rw[z3]at hbdb;refine Qe<|Qs U z2 U g151<|x (Ye (k':=.i64) U ⟨oa,oa⟩)<|x (QhK U U og)<|x (Qz ⟨U,U,Z⟩)<|Qa<|Qo (us:=[.string .empty,ZD,oF oG 0]) U λgc hf hw m5 m6 =>
  Qa<|Qj (us:=[.string ⟨#[107]⟩,ZD,oF oG bd]) m6 U (show Go.Lg.ev _ _=_ from OT (λn=>Value.agg #[.string ⟨#[107]⟩,ZD,oF oG n]) z3) U U oB λho gk z4=>xe ?_
 have hB:O3 [] w9 ho:=hw.O gk m5;have hB111:=z2.I hB;have hB311:=hY.I hB;have n115:b1∉[gc]:=om
 have n315:H∉[gc]:=om
 have hl15:=z4.lt;refine Q3 (α:=O0×xt) [(16,16),(157,179)] (λ_=>[]) (λz w'=>O3 [gc] ho w'/\Q7 w'.heap gc 76 [.string ⟨#[107]⟩,z.1,oF oG bd]/\w'.ownsRow ho.heap.size 78 2 z.1 z.2.length (z.2.flatMap QI)/\z.2.length<=n/\z.2.Pairwise (λp q=>p.1<q.1)/\∀p∈z.2,0<=p.1/\p.1<(n:Int)/\-4<p.2/\p.2<4) ol ?_ ?_
 ·refine Qm<|Qb<|xe<|Qg<|QC (α:=Nat×O0×xt) [(16,16),(158,179)] (λz=>[(158,oF oG z.1)])
   (λz w'=>z.1<=n/\O3 [gc] ho w'/\Q7 w'.heap gc 76 [.string ⟨#[107]⟩,z.2.1,oF oG bd]/\w'.ownsRow ho.heap.size 78 2 z.2.1 z.2.2.length (z.2.2.flatMap QI)/\z.2.2.length<=z.1/\z.2.2.Pairwise (λp q=>p.1<q.1)/\∀p∈z.2.2,0<=p.1/\p.1<(z.1:Int)/\-4<p.2/\p.2<4)
   (λz=>n - z.1) ol (0,ZD,[]) La
   ⟨Ln _,O3.Z _ _,z4,QJ _ _ _ _,Lx _,List.Pairwise.nil,λp I=>by cases I⟩ ?_
  rintro⟨i,vt,ts⟩ g12 hW ⟨hi,hg,hS,h4,kh,gn,hT⟩;simp only[]at hi hS h4 kh gn hT;refine Qe<|QX U U<|xe<|Qd<|QG U (λm7=>?_) (λm7=>?_)
  ·refine Qx ?_;have k6:i=n:=by have h160:¬(i:Int)<1+(cn:Int) % 3:=m7;omega
   rw[k6]at kh hT;exact⟨(vt,ts),Z,hg,hS,h4,kh,gn,hT⟩
  have h5:i<n:=by have h160:(i:Int)<1+(cn:Int) % 3:=m7;omega
  have z5:=hB111.J hg n115;have qf:=Qpj (l:=l) h.n (i:=i) oa;have qfb:=Qpi h i oa;refine Zk (flk l i) λfk hfk=>?_;rw[hfk]at qf qfb;refine Qh<|Qd<|Qg<|Qm<|Qc<|Qm<|Q0 U<|x (Z3 (i:=i) U U oa)<|Y2 z5 U qf<|ZA U U<|xe<|QG U (λh165=>?_) (λh165=>?_)
  ·refine Qh<|Qw<|QN U U<|Qb<|xe ?_;exact⟨(i+1,vt,ts),oh,La,h5,hg,hS,h4,oh,gn,λp I=>by have:=hT p I;simp only[];omega⟩
  have hmd:=Qd8 fk (b:=4) og;have hd12:O3 [] hW { hW with drawn:=hW.drawn+1 }:=O3.C _ _
  have hz12:=hg.size;have hgeT:=Qi h4;have hn15v:gc∉ob vt:=QT h4 oa;have hn1v:b1∉ob vt:=QT h4 oa;refine QR (O3 (ob vt) hW) [oD 0,oD 1,oD 2,oD 3,oD 4,oD 5,oD 6,oD 7,oD 8,oD 9,oE 10,oE 11,oD 12,oE 13] mixed ol od (O3.C _ _) ?_;refine p (QP U)<|pq (λ_ hc=>Qq (hS.J hc hn15v) U U)<|p Qy<|p Qy<|p (QP U)<|p (λ_=>Z3 (i:=i) U U oa)<|pq (λ_ hc=>Qq (z5.J hc hn1v) U qf)<|p (λ_=>Ye (k':=.i64) U ⟨oa,oa⟩) <|
   p (λ_=>QhK U U og)<|p (λ_=>Qz ⟨U,U,Z⟩)<|pk<|QB (us:=[QI ((i:Int),fk.tmod 4)]) U U og (show 1*2<=1000000 by omega) oA λb176 hO hP hb176 hB176=>?_
  have gw:=hd12.D hP;have hz1213:=gw.size;refine⟨gw.any,?_⟩;refine pk<|Za (news:=QI ((i:Int),fk.tmod 4)) (L:=[]) (Qp h4 gw) U U U (hB176.at oe) (Qeo _) oa oa λv14 hC ha Y hn14=>⟨(gw.any (L:=ob vt)).Q Y,?_⟩;have hge14:∀b∈ob v14,ho.heap.size<=b:=λb E=>(Qi ha b E).1;refine p (QP U)<|pkl (hl:=by kernel_rfl)<|QA ((hS.I gw).J Y hn15v) U U oe (Qt ha) λhK J m6=>pe ?_;refine Qw<|QN U U<|Qb<|xe<|⟨(i+1,v14,ts++[((i:Int),fk.tmod 4)]),oh,La,h5,((hg.D gw.any).then Y (λb E=>.inr (hgeT b E).1)).Q J,m6,?_,by simp only[oM,oO];omega,?_,λp I=>?_⟩
  ·have h9:=Qf ha J (λb E=>by have:=hge14 b E;simp only[oI];omega);simp only[oM,List.flatMap_append];simpa using h9
  ·simp only[];rw[MI];exact⟨gn,NC _ _,λp I p' m4=>by rw[Lb.1 m4];have:=hT p I;simp only[];omega⟩
  simp only[]at I ⊢;rcases Lc.1 I with I|I
  ·have:=hT p I;omega
  rw[Lb.1 I];simp only[];omega
 rintro⟨vt,ts⟩ g12 hW ⟨hg,hS,h4,kh,gn,hT⟩;simp only[]at hS h4 kh gn hT;have hz12:=hg.size;have hgT:=Qi h4;refine Qe<|Qs U hS U U<|Qa<|xf<|(Ql0 h4 oa).mono ?_;rintro vu hO ⟨hP,kw⟩;have hup:(nzT ts).Pairwise (λp q=>p.1<q.1):=List.Pairwise.filter _ gn;have hul:=Ma (λp:Int×Int=>!decide (p.2=0)) ts;have hub:∀p∈nzT ts,0<=p.1/\p.1<(n:Int)/\p.2≠0/\-65536<=p.2/\p.2<=65536:=λp I=>by
  have h1:=L9.1 I;have h2:=hT p h1.1;have h3:¬p.2=0:=by simpa using h1.2
  omega
 refine Zk (nzT ts) λus hus=>?_;have hul':us.length<=3:=by rw[<-hus];exact LJ hul oa
 rw[hus]at kw hup hub;have n15t:gc∉ob vt:=QT h4 oa;refine Q0 rfl<|Qa<|QA (hS.J hP n15t) U U oe (Qt kw) λhC Y hB1514=>xe ?_;have gb:O3 [] w9 hC:=(((hB.O hg m5).then hP (λb E=>.inr (ou (hgT b E).1)))).O Y m5;have za:=hP.size;have j3:=Y.size;have hgU:=Qi kw;have ha:=Qf kw Y (λb E=>by have:=(hgU b E).1;simp only[oI];omega);have ga:=hY.I gb;refine Q3 (α:=O0×List KV) [(184,190)] (λ_=>[]) (λz w'=>O3 [H] hC w'/\Q7 w'.heap H 44 [ve,vc,vr,vx,z.1]/\z.2.length<=1/\(∀q∈z.2,q.nm=⟨#[107]⟩/\Xp (co.map (·.p.a.st)) q.k=0)/\∀L:LN,(∀b∈L,b<w6.heap.size)->yz L w'.heap z.1 z.2) ol ?_ ?_
 ·refine Qe<|Qs U hB1514 U U<|QL (QH (L:=[]) ha oa oe) rfl<|x (ZZ rfl rfl)<|xe<|QG U (λh187=>?_) (λh187=>?_)
  ·refine Qh ?_;exact⟨(ZD,[]),Z,O3.Z _ _,ga,og,λq G=>(by cases G),λL _=>⟨Zv.nil _ _ 3,λq G=>(by cases G),λq G=>(by cases G)⟩⟩
  refine Qw<|Q2 hB1514 U U<|Qa<|QB (us:=[Zc ⟨⟨#[107]⟩,vu,us,bd⟩]) U U og (show 1*3<=1000000 by omega) oA λb189 hK J hb189 hB189=>?_;refine Q0 U<|Qa<|QA (ga.I J) U U oe rfl λhM T hX=>xe ?_;refine⟨(_,[⟨⟨#[107]⟩,vu,us,bd⟩]),Z,J.any.Q T,hX,Lx _,λq G=>?_,λL hL=>?_⟩
  ·rw[Lb.1 G];refine⟨rfl,?_⟩;have hgr0:grt bd=false:=by unfold grt;rw[OX oa,OX oa];rfl
   have hct:=Qfd (sz:=co.map (·.p.a.st)) us none (λb E=>by cases E) hup (λp I=>by rw[Lh,gz];exact hub p I);show Xp _ ⟨_,us,bd⟩=0;unfold Xp;rw[OR oh,OR (by rw[hct];decide),OR (by simp only[];rw[hgr0];decide)]
  have kx:∀b∈H::L,b<ho.heap.size:=λb E=>by
   rcases Li.1 E with rfl|E
   ·omega
   have:=hL b E;omega
  have h1:yz (H::L) hK.heap (.slice (some ⟨b189,0,none⟩) 1 1) [⟨⟨#[107]⟩,vu,us,bd⟩]:=by
   refine⟨hB189.arr (λE=>ou (kx _ E)) U og (Lx _),λq G=>?_,λq G=>?_⟩
   ·rw[Lb.1 G];exact(QH (L:=H::L) ha oa (λb E hbL=>ov (hgU b E).1 (kx b hbL))).I J
   rw[Lb.1 G];exact Xm og
  exact(h1.st (T.mono oe)).up (λb E=>.inl (Lk _ E))
 rintro⟨vk,ks⟩ g16 hM ⟨T,hX,hj,hgk,m8⟩;simp only[]at hX hj hgk m8;have hge3:=Qi go;have hlt3:=Zb go;have kv:O3 [H] w8 hM:=(V.D gb.any).Q T;have hs716:O3 [H] w7 hM:=hh.Q kv;have m9:O3 [H,b4] w6 hM:=hE.Q (hs716.mono oe);have pa:∀b∈[H],b<w6.heap.size:=λb E=>by rw[Lb.1 E];omega
 have hE16:=Qf (Qp go pw) m9 (λb E hm=>by have:=hlt3 b E;simp only[oK,oJ,or_false]at hm;omega);have hC16:=hv.low hs716 pa;have hR16:=hH.low kv (λb E=>ou (pa b E));have hX16:=(h7.I gb).low T (λb E=>ou (pa b E));have n23:b2∉[H]:=om
 have n234:b2∉[H,b4]:=oq
 have hB216:=(pg.I gy).J m9 n234;refine Qe<|Q2 hX U U<|Qa<|Qj (us:=[ve,vc,vr,vx,vk]) hB216 U U U U ⟨Qt hE16,Qt hC16.c,Qt hR16.c,Qt hX16.own,(m8 [] oe).arr.one,Z⟩ λm3 h0 hB217=>xe ?_;have pc:∀b∈[b2],b<w6.heap.size:=λb E=>by rw[Lb.1 E];omega
 have lo2':∀b∈[b2],b<w2.heap.size:=λb E=>by rw[Lb.1 E];omega
 have hE17:=Qf hE16 h0 (λb E hm=>ov (hge3 b E).1 (lo2' b hm));have hC17:=hC16.low h0 pc;have hR17:=hR16.low h0 (λb E=>ou (pc b E));have pd:=hX16.low h0 (λb E=>ou (pc b E));have hs017:O3 [] w m3:=((ph.D gy).then m9 (λb E=>.inr (by simp only[oK,oJ,or_false]at E;omega))).O h0 oa;have hcon:∀q∈co,J6 q.nm:=λq G=>by
  obtain⟨k,O,rfl⟩:=LO G;rw[(hU k O).nm];exact U9 99 k
 have hrqn:∀q∈rq,J6 q.nm:=λq G=>by
  obtain⟨k,O,rfl⟩:=LO G;rw[(h8 k O).1.nm];exact U9 114 k
 have hxnm:∀q∈qx,J6 q.nm:=λq G=>by
  obtain⟨⟨k,_,k2⟩,_⟩:=hN q G;rw[k2];exact U9 101 k
 have hevn:∀e∈ev,J6 e.nm:=λe S=>Qi7 _ e (by rw[kj];exact S);have hevl:ev.length=5:=by rw[<-kj];exact Vu _ _
 refine Ql ⟨[.agg #[ve,vc,vr,vx,vk]],⟨⟨_,U,Qn U (hB217.at (L:=[]) oe).cells⟩,Z⟩,hs017,⟨ev,co.map IV.it,rq.map IV.it,qx.map XV.x,ks.map KV.k⟩,⟨⟨ve,vc,vr,vx,vk,ev,co,rq,qx,ks⟩,rfl,rfl,λL hL=>?_⟩,?_⟩
 ·have kx:∀b∈L,b<w2.heap.size:=λb E=>ou (hL b E)
  have hLn:b2∉L:=λhm=>ou (hL b2 hm)
  have ki:∀b∈b2::L,b<w6.heap.size:=λb E=>by
   rcases Li.1 E with rfl|E
   ·omega
   have:=hL b E;omega
  refine⟨⟨QH hE17 (by show ev.length<=_;omega) (λb E hbL=>ov (hge3 b E).1 (kx b hbL)),hevn⟩,hC17.itms oa hcon (λb E=>ou (ki b (Lk _ E))),hR17.itms oa hrqn (λb E=>ou (ki b (Lk _ E))),⟨QH pd.own (by show qx.length<=_;omega) (λb E hbL=>ov (Qi pd.own b E).1 (ki b (Lk _ hbL))),λq G=>?_,hxnm⟩,?_⟩
  ·exact pd.each q G _ (Lb.2 U) L (λb E=>.inl (ou (ki b (Lk _ E))))
  exact((m8 (b2::L) ki).st (h0.mono oe)).up (λb E=>.inl (Lk _ E))
 rw[<-kj];exact Qoq oa oa hU gq oa h8 kr hZ hN hj hgk
structure yU (base:Nat)(w:OZ)(vc va:O0)(co:List IV)(al:List JY):Prop where
 c:w.ownsRow base 64 5 vc co.length (co.flatMap QO)
 a:w.ownsRow base 146 5 va al.length (al.flatMap Zu)
 dj:Dj vc va
 each:∀q∈co,∀t∈Qf9 q,YA base (ob vc++ob va) w.heap t.1 t.2.1 t.2.2.1 t.2.2.2
section
variable {base:Nat}{vc vc' va':O0}{co:List IV}{al:List JY}
theorem yU.nil:yU base w (nS) (nS) [] []:=⟨QJ _ _ _ _,QJ _ _ _ _,Dj.nil _,λq E=>by cases E⟩
theorem yU.I (h:yU base w vc va co al)(E:O3 [] w w'):yU base w' vc va co al:=⟨Qp h.c E,Qp h.a E,h.dj,λq G t H=>(h.each q G t H).I E⟩
theorem yU.low {X:LN}(h:yU base w vc va co al)(E:O3 X w w')(G:∀b∈X,b<base):yU base w' vc va co al :=
 ⟨Qf h.c E (λb H I=>ov (Qi h.c b H).1 (G b I)),Qf h.a E (λb H I=>ov (Qi h.a b H).1 (G b I)),h.dj,λq J t O=>(h.each q J t O).low E G⟩
theorem yU.avlt (h:yU base w vc va co al):∀b∈ob vc++ob va,b<w.heap.size:=λb E=>(Lc.1 E).elim (Zb h.c b) (Zb h.a b)
theorem yU.setC {q:IV}(h:yU base w vc va co al)(V:∀t∈Qf9 q,YA base (ob vc++ob va) w.heap t.1 t.2.1 t.2.2.1 t.2.2.2)(Y:w'.ownsRow base 64 5 vc' (co.length+1) (co.flatMap QO++QO q))
  (G:O3 (ob vc) w w') (H:∀b∈ob vc',b∈ob vc\/w.heap.size<=b):yU base w' vc' va (co++[q]) al:=by
 have I:O3 (ob vc++ob va) w w':=G.mono (λb E=>Lc.2 (.inl E));have J:∀b∈ob vc'++ob va,b∈ob vc++ob va\/w.heap.size<=b:=λb E=>by
  rcases Lc.1 E with E|E
  ·exact(H b E).imp (λh=>Lc.2 (.inl h)) id
  exact .inl (Lc.2 (.inr E))
 refine⟨?_,Qf h.a G (λb E ha=>h.dj b ha E),λb E O=>?_,λd hd t S=>?_⟩
 ·rw[Lj,LA];simpa using Y
 ·rcases H b E with T|T
  ·exact h.dj b T O
  have:=Zb h.a b O;omega
 rcases Lc.1 hd with hd|hd
 ·exact(h.each d hd t S).app I J
 simp only[oI]at hd;subst hd;exact(V t S).app I J
theorem yU.setA {G:List JY}(h:yU base w vc va co al)(S:w'.ownsRow base 146 5 va' G.length (G.flatMap Zu))(I:O3 (ob va) w w')(J:∀b∈ob va',b∈ob va\/w.heap.size<=b):yU base w' vc va' co G:=by
 have T:O3 (ob vc++ob va) w w':=I.mono (λb E=>Lc.2 (.inr E));have V:∀b∈ob vc++ob va',b∈ob vc++ob va\/w.heap.size<=b:=λb E=>by
  rcases Lc.1 E with E|E
  ·exact .inl (Lc.2 (.inl E))
  exact(J b E).imp (λh=>Lc.2 (.inr h)) id
 refine⟨Qf h.c I (λb E H=>h.dj b E H),S,λb E H=>?_,λd hd t Y=>(h.each d hd t Y).app T V⟩;rcases J b H with O|O
 ·exact h.dj b E O
 have:=Zb h.c b E;omega
theorem yU.itms (h:yU base w vc va co al)(I:co.length<=1099511627776)(J:∀q∈co,J6 q.nm)(G:∀b∈L,b<base):XD L w.heap vc co :=
 ⟨QH h.c I (λb E hbL=>ov (Qi h.c b E).1 (G b hbL)),λq H=>⟨h.each q H (q.p.va,q.p.a.al.length,1,q.p.a.al.map (.int .i64)) oe L (λb E=>.inl (G b E)),h.each q H (q.p.vm,q.p.a.mr.length,1,q.p.a.mr.map (.int .i64)) oe L (λb E=>.inl (G b E)),h.each q H (q.p.ve,q.p.a.ed.length,3,q.p.a.ed.flatMap QF) oe L (λb E=>.inl (G b E))⟩,J⟩
end
def mzA (s f:Int):Zd:=⟨[s,f],2,[0],[(0,s,1),(1,f,0)]⟩
theorem QdY (nm:ByteArray)(s f:Int)(w:OZ):Q5 prog 128 [.string nm,oF oG s,oF oG f] w λr w'=>O3 [] w w'/\∃xa xm xe,r=.agg #[.string nm,xa,oF oG 2,xm,xe]/\Zj [xa,xm,xe]/\∀L:LN,(∀b∈L,b<w.heap.size)->ZK L w'.heap xa xm xe (mzA s f):=by
 refine Zs func128 ntmps128 results128 ?_;refine Qe<|Qa<|Qo (us:=[.string .empty,nS,oF oG 0,nS,nS]) U λb6 w1 hf hg T=>xe ?_;have hh:=T.lt;refine Qm<|Qb<|Qa<|QB (us:=[[oF oG s],[oF oG f]]) U U og oe ⟨rfl,rfl,rfl,rfl,Z⟩ λE w2 V ht hi=>Qa<|QB (us:=[[oF oG 0]]) rfl rfl og oe ⟨rfl,rfl,Z⟩ λG w3 J hu hj =>
  Qb<|x (Qz ⟨U,U,U,Z⟩)<|Qb<|x (Qz ⟨U,U,U,Z⟩)<|Qa<|QB (us:=[QF (0,s,1),QF (1,f,0)]) U U og (by exact(by decide:2*3<=1000000)) oC λH Y O hv hk=>?_
 have ha:=(V.D J).D O;have hl:=hf.D ha;have hw:=V.size;have hy:=J.size;have hF:Jo w1.heap.size Y.heap (.agg #[.slice (some ⟨E,0,none⟩) 2 2,oF oG 2,.slice (some ⟨G,0,none⟩) 1 1,.slice (some ⟨H,0,none⟩) 2 2]) (mzA s f):=
  j6 (a:=mzA s f) ((hi.I J).I O) (hj.I O) hk oa oa oa U U U og og og
 refine x (Qz ⟨U,U,U,U,Z⟩)<|Qa<|Qo (us:=qa) U λb7 w5 hm hn ho=>Qa<|Qj (us:=[.slice (some ⟨E,0,none⟩) 2 2,oF oG 2,.slice (some ⟨G,0,none⟩) 1 1,.slice (some ⟨H,0,none⟩) 2 2]) ho U U U U oC λw6 hp hq=>xe ?_;have S:O3 [] Y w6:=hm.O hp hn;refine Qm<|Q2 hq U U<|x (Zt [(0,[.string nm]),(1,[.slice (some ⟨E,0,none⟩) 2 2,oF oG 2,.slice (some ⟨G,0,none⟩) 1 1,.slice (some ⟨H,0,none⟩) 2 2])] ⟨U,U,U,U,Z⟩) <|
  Qa<|Qj (us:=[.string nm,.slice (some ⟨E,0,none⟩) 2 2,oF oG 2,.slice (some ⟨G,0,none⟩) 1 1,.slice (some ⟨H,0,none⟩) 2 2]) ((T.I ha).I S) U U U U ⟨U,U,U,U,U,Z⟩ λw7 hc hr=>xe ?_
 obtain⟨xa,xm,hz,hs,hA⟩:=hF;have he:=OT (λv=>match v with|Value.agg cs=>cs.toList|_=>[]) hs
 simp only[List.cons.injEq,and_true]at he;obtain⟨rfl,_,rfl,rfl⟩:=he;refine Ql ⟨[.agg #[.string nm,.slice (some ⟨E,0,none⟩) 2 2,oF oG 2,.slice (some ⟨G,0,none⟩) 1 1,.slice (some ⟨H,0,none⟩) 2 2]],⟨⟨_,U,Qn U (hr.at (L:=[]) oe).cells⟩,Z⟩,(hl.D S).O hc hg,_,_,_,rfl,⟨rfl,rfl,rfl,Z⟩,λL hL=>?_⟩;have h1:=(hA (b6::L) (λb I=>by
  rcases Li.1 I with rfl|I
  ·exact hh
  have:=hL b I;omega)).I S
 exact(h1.st (hc.mono oe)).up (λb I=>.inl (Lk _ I))
def nmZ (p:Array UInt8)(i:Nat):ByteArray:=⟨p⟩++⟨#[UInt8.ofNat (97+i)]⟩
abbrev QhW:Array UInt8:=#[115,116,97,114,116]
abbrev Qem:Array UInt8:=#[102,105,110,105,115,104]
abbrev Jy:Array UInt8:=#[109,97,99,104,105,110,101]
def QbM (i:Nat):List JY:=[⟨nmZ QhW i,true,true,false,0⟩,⟨nmZ Qem i,false,true,false,0⟩]
def mzE (c:Nat):List JY:=(oT c).flatMap QbM
def Qpo (i:Nat):XG:=⟨nmZ Jy i,mzA (2*(i:Int)) (2*(i:Int)+1)⟩
def mzC (c:Nat):ZG:=⟨mzE c,(oT c).map Qpo,[],[],[]⟩
theorem U8 (p:Array UInt8)(i:Nat)(h:p.size<=10):J6 (nmZ p i):=by
 show(ByteArray.mk _++ByteArray.mk _).size<=_;rw[ByteArray.size_append];show p.size+1<=_;omega
theorem QnH (c:Nat):∀e∈mzE c,J6 e.nm:=λe E=>by
 unfold mzE at E;obtain⟨i,_,hi⟩:=Mi.1 E;simp only[QbM,oK,oJ,or_false]at hi;rcases hi with rfl|rfl
 ·exact U8 _ _ og
 exact U8 _ _ og
theorem QbN (c:Nat):mzE (c+1)=mzE c++QbM c:=by unfold mzE;rw[Nv,LA];simp
theorem Qex:∀c,(mzE c).length=2*c
 | 0=>rfl
 | c+1=>by rw[QbN,Lj,Qex c];show 2*c+2=_;omega
theorem Qf2 (i:Nat):∀u∈(QbM i).flatMap Zu,u.oneCell'=true:=λu E=>by
 obtain⟨e,_,G⟩:=Mi.1 E;exact Qb4 e u G
theorem JX (c:Nat)(hX:c<=4)(w:OZ):Q5 prog 94 [oF oG c] w λr w'=>O3 [] w w'/\Qd5 w.heap.size w'.heap r (mzC c):=by
 refine Zs func94 ntmps94 results94 ?_;refine Qe<|Qa<|Qo (us:=ZY) U λb2 w1 hE hY hv=>xe ?_;refine Qe<|Qa<|Qo (us:=ZY) U λJ O hw hZ hy=>xe ?_;have hF:=hE.D hw;have ga:=hv.lt;have hj:=hy.lt;have hG:=hv.I hw;refine Qd<|Qm<|Qb<|xe<|Qg<|QC (α:=Nat×O0×List JY×O0×List IV) [(4,4),(6,42)] (λz=>[(6,oF oG z.1)])
  (λz w'=>z.1<=c/\O3 [J] O w'/\Q7 w'.heap J 44 [z.2.1,z.2.2.2.1,ZD,ZD,ZD]/\yU O.heap.size w' z.2.2.2.1 z.2.1 z.2.2.2.2 z.2.2.1/\z.2.2.1=mzE z.1/\z.2.2.2.2.map IV.it=(oT z.1).map Qpo/\∀q∈z.2.2.2.2,J6 q.nm)
  (λz=>c - z.1) ol (0,ZD,[],ZD,[]) La ⟨Ln _,O3.Z _ _,hy,yU.nil,U,U,λq E=>by cases E⟩ ?_
 rintro⟨i,ve,ev,vc,co⟩ g3 w3 ⟨hi,ha,hf,H,S,V,hk⟩;simp only[]at hi hf H S V hk;have gb:=ha.size;have gc:ev.length=2*i:=by rw[S];exact Qex i
 have gg:co.length=i:=by have:=OT oP V;simpa using this
 refine Qe<|QX U U<|xe<|Qd<|QG U (λh7=>?_) (λh7=>?_)
 ·refine Qx ?_;have hH:i=c:=by have h8:¬(i:Int)<(c:Int):=h7;omega
  rw[hH]at S V;have hI:b2∉[J]:=om
  have hm:=hG.J ha hI;refine Qe<|Q2 hf U U<|Qa<|Qj (us:=[ve,vc,ZD,ZD,ZD]) hm U U U U ⟨Qt H.a,Qt H.c,U,U,U,Z⟩ λw4 I hJ=>xe ?_;have hK:∀b∈[b2],b<O.heap.size:=λb G=>by rw[Lb.1 G];omega
  have hn:=H.low I hK;refine Ql ⟨[.agg #[ve,vc,ZD,ZD,ZD]],⟨⟨_,U,Qn U (hJ.at (L:=[]) oe).cells⟩,Z⟩,(hF.O ha oa).O I oa,⟨ve,vc,ZD,ZD,ZD,ev,co,[],[],[]⟩,rfl,?_,λL hL=>?_⟩
  ·show(⟨ev,co.map IV.it,[],[],[]⟩:ZG)=mzC c;rw[S,V];rfl
  have hz:∀b∈L,b<O.heap.size:=λb G=>ou (hL b G)
  exact⟨⟨QH hn.a (by show ev.length<=_;omega) (λb G hbL=>ov (Qi hn.a b G).1 (hz b hbL)),λe he=>QnH c e (by rw[<-S];exact he)⟩,hn.itms oa hk hz,⟨Zv.nil _ _ 5,λq E=>(by cases E),λq E=>(by cases E)⟩,⟨Zv.nil _ _ 2,λq E=>(by cases E),λq E=>(by cases E)⟩,⟨Zv.nil _ _ 3,λq E=>(by cases E),λq E=>(by cases E)⟩⟩
 have hM:i<c:=by have h8:(i:Int)<(c:Int):=h7;omega
 have hu:(97:Int)+(i:Int)=((97+i:Nat):Int):=oa
 refine Qh<|Qd<|Qg<|Qm<|Qc<|Qe<|Qs U hf U U<|Qb<|QN U U<|x (Ye (k':=.i32) U ⟨oa,oa⟩)<|x (U2 (n:=97+i) (OT (Value.int .i32) hu) oa)<|x (YF (a:=⟨QhW⟩) (b:=⟨#[UInt8.ofNat (97+i)]⟩) U U (by show 5+1<=1000000000;omega))<|x (Qz ⟨U,U,U,Z⟩) <|
  Qb<|QN rfl U<|x (Ye (k':=.i32) U ⟨oa,oa⟩)<|x (U2 (n:=97+i) (OT (Value.int .i32) hu) oa)<|x (YF (a:=⟨Qem⟩) (b:=⟨#[UInt8.ofNat (97+i)]⟩) U U (by show 6+1<=1000000000;omega))<|x (Qz ⟨U,U,Z⟩) <|
  Qa<|QB (us:=(QbM i).map Zu) U U og (by exact(by decide:2*5<=1000000)) oC λgh w4 I gi hm=>?_
 have gj:=I.size;have hN:J∉ob ve:=QT H.a hj;have h0:J∉ob vc:=QT H.c hj;have hge:=Qi H.a;have hO:=Qi H.c;refine Qa<|Za (m:=2) (news:=(QbM i).flatMap Zu) (L:=[]) (Qp H.a I) U U U (hm.at oe) (Qf2 i) oa oa λho w5 h1 hp hP=>?_;refine Q0 rfl<|Qa<|QA (j:=0) (u:=ho) ((hf.I I).J hp hN) U U oe (Qt h1) λT h2 h3=>xe ?_;have hQ:yU O.heap.size w5 vc ho co (ev++QbM i):=(H.I I).setA (by rw[Lj,LA];exact h1) hp hP;have h4:∀b∈[J],b<O.heap.size:=λb G=>by rw[Lb.1 G];exact hj
 have h5:=hQ.low h2 h4;have h6:O3 [J] O T:=((ha.D I.any).then hp (λb G=>.inr (hge b G).1)).Q h2;have gk:=h6.size;have hR:O3 [] T { T with drawn:=T.drawn+1 }:=O3.C _ _
 refine QR (O3 (ob vc) T) [oD 0,oD 1,oD 2,oD 3,oD 4,oD 5,oD 6,oD 7,oD 8,oD 9,oD 10,oD 11,oE 12,oE 13,oE 14,oD 15,oE 16] mixed ol od (O3.C _ _) ?_;refine p (QP U)<|pq (λ_ hc=>Qq (h3.J hc h0) U U)<|p Qy<|p (λ_=>XI U U ⟨oa,oa⟩)<|p (λ_=>Ye (k':=.i32) U ⟨oa,oa⟩)<|p (λ_=>U2 (n:=97+i) (OT (Value.int .i32) hu) oa) <|
  p (λ_=>YF (a:=⟨Jy⟩) (b:=⟨#[UInt8.ofNat (97+i)]⟩) U U (by show 7+1<=1000000000;omega))<|p Qy<|p (λ_=>QhM U U ⟨oa,oa⟩)<|p Qy<|p (λ_=>QhM U U ⟨oa,oa⟩)<|p (λ_=>XI U U ⟨oa,oa⟩) <|
  pk<|xf<|(QdY (nmZ Jy i) (2*(i:Int)) (2*(i:Int)+1) _).mono ?_
 rintro r7 w7 ⟨hS,xa,xm,hg,rfl,hr,hA⟩;have hs:=hR.D hS;refine⟨hs.any,?_⟩;refine pk<|QB (us:=[QO ⟨nmZ Jy i,⟨xa,xm,hg,mzA (2*(i:Int)) (2*(i:Int)+1)⟩⟩]) U U og (show 1*5<=1000000 by omega) oA λgl w8 ht gm hT=>⟨(hs.D ht).any,?_⟩;have Y:=hs.D ht;have h9:=h5.I Y;refine pk<|Za (news:=QO ⟨nmZ Jy i,⟨xa,xm,hg,mzA (2*(i:Int)) (2*(i:Int)+1)⟩⟩) (L:=[]) h9.c U U U (hT.at oe) (QaH hr.1 hr.2.1 hr.2.2.1) oa (ou Y.size) λhB w9 hC hh hU=>⟨(Y.any (L:=ob vc)).Q hh,?_⟩;have hV:=h9.setC (zY (q:=⟨nmZ Jy i,⟨xa,xm,hg,mzA (2*(i:Int)) (2*(i:Int)+1)⟩⟩) (N:=T.heap.size) (λL hL=>(hA L hL).I ht) oa h5.avlt) hC hh hU;refine p (QP U)<|pkl (hl:=by kernel_rfl)<|QA (j:=1) (u:=hB) ((h3.I Y).J hh h0) U U oe (Qt hC) λgn hD hW=>pe ?_;refine Qw<|QN U U<|Qb<|xe<|⟨(i+1,ho,ev++QbM i,hB,co++[⟨nmZ Jy i,⟨xa,xm,hg,mzA (2*(i:Int)) (2*(i:Int)+1)⟩⟩]),oh,La,hM,((h6.D Y.any).then hh (λb G=>.inr (hO b G).1)).Q hD,hW,hV.low hD h4,?_,?_,λq E=>?_⟩
 ·simp only[];rw[QbN,S]
 ·simp only[];rw[Lp,V,Nv,Lp];rfl
 rcases Lc.1 E with E|E
 ·exact hk q E
 rw[Lb.1 E];exact U8 _ _ og
section
variable {pS:String}
abbrev i4 (p:Int×Int×Int×Int):LV:=[oF oG p.1,oF oG p.2.1,oF oG p.2.2.1,oF oG p.2.2.2]
class S4 (P:O2)(t:Nat):Prop where
 u:∃f0 f1 f2 f3,P.underlying t=some (.struct #[f0,f1,f2,f3])/\f0.name ≠ "_" /\ f1.name ≠ "_" /\ f2.name ≠ "_" /\ f3.name ≠ "_" /\ f0.offset=0/\f1.offset=1/\f2.offset=2/\f3.offset=3 /\
  P.underlying f0.type=some (.int .i64)/\P.underlying f1.type=some (.int .i64)/\P.underlying f2.type=some (.int .i64)/\P.underlying f3.type=some (.int .i64)
 s:P.stoodInHeld t=false
 g:P.eqGuardType P.depth t=false
theorem Qak [h:S4 P t](w:OZ)(p:Int×Int×Int×Int):(Op.equal t (.agg (i4 p).toArray) (.agg (i4 p).toArray)).run P w=.ok true w:=by
 obtain⟨a,b,c,e⟩:=p;obtain⟨f0,f1,f2,f3,O,S,n1,T,V,Y,o1,o2,o3,I,J,u2,u3⟩:=h.u;have G:∀e w,P.underlying e=some (.int .i64)->(isAgg e).run P w=.ok false w:=λe w E=>by simp[isAgg,run_underlying E]
 have hp:∀e (x y z u:Int) (w:OZ),P.underlying e=some (.int .i64)->(part e #[oF oG x,oF oG y,oF oG z,oF oG u] 0).run P w=.ok (oF oG x) w:=λe x y z u w E=>by simp[part,G e w E]
 have ha:∀e (x y z u:Int) (w:OZ),P.underlying e=some (.int .i64)->(part e #[oF oG x,oF oG y,oF oG z,oF oG u] 1).run P w=.ok (oF oG y) w:=λe x y z u w E=>by simp[part,G e w E]
 have hb:∀e (x y z u:Int) (w:OZ),P.underlying e=some (.int .i64)->(part e #[oF oG x,oF oG y,oF oG z,oF oG u] 2).run P w=.ok (oF oG z) w:=λe x y z u w E=>by simp[part,G e w E]
 have hc:∀e (x y z u:Int) (w:OZ),P.underlying e=some (.int .i64)->(part e #[oF oG x,oF oG y,oF oG z,oF oG u] 3).run P w=.ok (oF oG u) w:=λe x y z u w E=>by simp[part,G e w E]
 have H:∀e (m:Nat) (x y:Int) (w:OZ),P.underlying e=some (.int .i64)->(Op.equalIn (m+1) e (oF oG x) (oF oG y)).run P w=.ok (x == y) w:=λe m x y w E=>by simp[Op.equalIn,run_underlying E]
 have key:∀m,(Op.equalIn (m+2) t (.agg (i4 (a,b,c,e)).toArray) (.agg (i4 (a,b,c,e)).toArray)).run P w=.ok true w:=by
  intro m;simp only[i4];unfold Op.equalIn;simp only[Sem.run_bind,run_underlying O,Result.andThen_ok];simp[h.s,S,n1,T,V,Y,o1,o2,o3,hp _ _ _ _ _ _ I,ha _ _ _ _ _ _ J,hb _ _ _ _ _ _ u2,hc _ _ _ _ _ _ u3,H _ _ _ _ _ I,H _ _ _ _ _ J,H _ _ _ _ _ u2,H _ _ _ _ _ u3]
 exact key 9998
theorem QhL [h:S4 P t]{x:O1}{p:Int×Int×Int×Int}(hx:ev f x=.agg (i4 p).toArray)(G:ev f y=.agg (i4 p).toArray):
  (execOp (ev f) ⟨d,.binOp .neq t x y E,ty,pS,af,gd⟩).run P w=.ok (.value (.bool false)) w:=by
 have H:(eqGuard .neq t x y (.agg (i4 p).toArray) (.agg (i4 p).toArray)).run P w=.ok () w:=by simp[eqGuard,h.g]
 simp only[execOp,hx,G,Sem.run_bind,H,Result.andThen_ok,binOp,Qak,Sem.run_pure];rfl
end
instance s4Rsn:S4 prog 223:=⟨⟨_,_,_,_,underlying223,og,og,og,og,U,U,U,U,underlying3,underlying3,underlying3,underlying3⟩,od,od⟩
theorem qi {v:O0}{l:List Rsn}(h:Zv L w.heap v l.length 4 (l.flatMap ZT))(G:Zv L' w.heap v' l.length 4 (l.flatMap ZT)):
  Q5 prog 100 [v,v'] w λr w'=>r=.bool true/\O3 [] w w':=by
 have ha:=h.le;refine Zs func100 ntmps100 results100 ?_;refine Qe<|Qc<|Qd<|Qm<|QL h U<|Qb<|QL G U<|ZA U U<|xe<|QZ rfl (λJ=>OU U J) (λJ=>?_);refine Qh<|Qd<|Qm<|QL h U<|Qb<|xe<|Qg<|QC (α:=Nat) [(4,5),(13,25)] (λk=>[(13,oF oG k)]) (λk w'=>O3 [] w w'/\k<=l.length) (λk=>l.length - k) ol 0 La ⟨O3.Z _ _,Ln _⟩ ?_;rintro k g O ⟨H,hk⟩
 replace h:=h.I H
 replace G:=G.I H;refine Qe<|QX U U<|xe<|Qd<|QG U (λS=>?_) (λS=>?_)
 ·refine Qx<|Qe<|Qc ?_;exact Ql ⟨[.bool true],La,U,H⟩
 have E:k<l.length:=oa
 refine Qh<|Qd<|Qg<|Qm<|Qc<|Qd<|QR (O3 [] O) [oD 0,oD 1,oD 2,oD 3,oD 4,oD 5,oD 6,oD 7,oD 8] mixed ol od (O3.C _ _) ?_;refine p Qy<|p Qy<|Lg.pig (g:=ZT) (i:=k) U QhB h U U E λhb T=>pq (λ_ I=>Qv (T.I I) U U) <|
  p Qy<|p Qy<|Lg.pig (g:=ZT) (i:=k) U QhB G U U E λhe V=>pq (λ_ I=>Qv (V.I I) U U)<|p (λ_=>QhL (p:=((l[k]'E).st,(l[k]'E).kd,(l[k]'E).ix,(l[k]'E).ev)) U U)<|pe ?_
 have Y:=H.D (O3.C [] O);refine ZO rfl ?_;refine Qh<|Qw<|QN U U<|Qb<|xe ?_;exact⟨k+1,oa,La,Y,oa⟩
def Ur:ByteArray:=⟨#[110,101,118,101,114]⟩
def YV:ByteArray:=⟨#[98,111,116,104]⟩
def Qav:ByteArray:=⟨#[109,111,115,116]⟩
def QaI:XG:=⟨Ur,⟨[1],1,[0],[]⟩⟩
def Qi3 (i j:Int):qz:=⟨YV,[(i,1),(j,1)]⟩
def Qos:xI:=⟨Qav,[(0,1),(1,1)],1⟩
def k1C:ZG:={ mzC 1 with rq:=[QaI] }
def k2C:ZG:={ mzC 2 with ex:=[Qi3 0 1] }
def k3C:ZG:={ mzC 2 with cs:=[Qos] }
theorem QpA:YN k1C=0:=od
theorem Qpz:(spc k1C).fb=[⟨1,3,0,1⟩]:=od
theorem QmR:(spc k1C).a.st=2:=od
theorem QnS:Qfc k1C=true:=od
theorem QnT:cmB k1C=[2]:=od
theorem QqE:YN k2C=0:=od
theorem Qpx:(spc k2C).fb=[⟨3,1,0,-1⟩]:=od
theorem Qpw:(spc k2C).a.st=4:=od
theorem QqD:YN k3C=0:=od
theorem Qpv:(spc k3C).fb=[⟨3,2,0,-1⟩]:=od
theorem Qfz {v:O0}(E:v.cells=#[v]):Q5 prog 215 [v] w λr w'=>O3 [] w w'/\∃b,r=.func (.func 259) #[] #[.pointer (some ⟨b,0,none⟩)]/\w.heap.size<=b/\Q7 w'.heap b 56 [v]:=by
 refine Zs func215 ntmps215 results215 ?_;refine Qe<|Qa<|QS (us:=[v]) E λb1 J G H I=>Qc<|Qe<|x ZC<|Qc ?_;exact Ql ⟨[_],La,G,b1,U,H,I⟩
theorem Qbb {m:Nat}{v:O0}{es:LI}(hb:Q7 w.heap b1 56 [v])(hE:QQ L w.heap v es):
  SeqStopsK (fen none) m prog 259 #[.pointer (some ⟨b1,0,none⟩)] (λx:Int=>#[oF oG x]) (Lw w.heap.size L) (λys=>ys=es) (λ_=>True) (es.length+1) w:=by
 intro l J Jx W hc hJ hf hY h0;have S:O3 [] w W:=O3.of_below hc;have hm:=hE.le;have ab:∀{ys:LI} {W1 W2:OZ},J ys W1->O3 [] W1 W2->J ys W2:=λ{ys W1 W2} hj I=>hJ ys W1 W2 none hj ⟨I.os,I.tape,I.output,I.size,λk O _=>I.block k O oe⟩ (λr e=>by cases e);have key:Q5 prog 259 [.func (.yield l) #[] #[],.pointer (some ⟨b1,0,none⟩)] W (λ_ W'=>(∃ys,ys=es/\J ys W')\/(∃pre,True/\Jx pre W')):=by
  refine Q5.of_G m func259 U ntmps259 results259 oe ?_;have hg:=hb.I S;refine Zi<|QM ol ol ?_;refine Y2 hg U U<|QL (hE.I S) U<|Qb<|xe<|Z1<|qy (α:=Nat) [(4,4),(7,15)] (λk=>[(7,oF oG k)]) (λk ds W'=>ds=[]/\k<=es.length/\O3 L w W'/\J (es.take k) W') (λk=>es.length - k) ol 0 La
   ⟨U,Ln _,S.any,h0⟩ ?_
  rintro k g ds w1 ⟨rfl,O,ha,T⟩;refine Zi<|QM ol ol ?_;refine QX U U<|xe<|Zi<|j5 U (λV=>?_) (λV=>?_)
  ·refine Vm ?_;have hh:es.length<=k:=by have Y:¬(k:Int)<(es.length:Int):=V;omega
   rw[Ls hh]at T;exact⟨λ_ h=>(by cases h),MH,[],λW' E=>⟨Z,.inl ⟨es,rfl,ab T E⟩⟩⟩
  refine YH ?_;have G:k<es.length:=by have Y:(k:Int)<(es.length:Int):=V;omega
  have hi:es.take (k+1)=es.take k++[es[k]'G]:=Ll G;have hn:(es.take k).length=k:=by rw[Ly];omega
  refine Zi<|Z1<|Zi<|QM ol ol ?_;refine xii (i:=k) (hE.st ha) U U G λa9 Y=>x (QD Y U)<|Qc<|Zi<|VC ol ?_;refine JK.pre2 ?_;refine Qb<|Qb<|xe<|xy (l:=l) U (hY (es.take k) (es[k]'G) w1 T oa) λen W3 hl=>Or.elim hl (λH=>⟨.bool true,H.1,?_⟩) (λH=>⟨.bool false,H.1,?_⟩)
  ·refine JK.of_XL<|x (Zz U)<|xe<|VD U<|YH ?_;refine QM ol ol ?_;refine QN U U<|Qb<|xe ?_;exact⟨k+1,oa,La,U,G,ha.lw H.2.2,by rw[hi];exact H.2.1⟩
  refine JK.of_XL<|x (Zz U)<|xe<|QaX U ?_;refine Vl ⟨λ_ h=>(by cases h),MH,[],λW' E=>⟨Z,.inr ⟨es.take k++[es[k]'G],Z,?_⟩⟩⟩;exact hf _ W3 W' none H.2 ⟨E.os,E.tape,E.output,E.size,λk O _=>E.block k O oe⟩ (λr e=>by cases e)
 refine(callsIn_wide (n:=m)).2 ?_;have ea:(#[.func (.yield l) #[] #[]]++[.pointer (some ⟨b1,0,none⟩)].toArray:Array O0)=#[.func (.yield l) #[] #[],.pointer (some ⟨b1,0,none⟩)]:=oe
 rw[ea];unfold Q5 at key;refine Calls.mono key λe w' he=>?_;cases e with
 | returned v=>exact⟨⟨v,U⟩,he⟩
 | panicked c=>exact he.elim
 | outgrown=>exact he.elim
theorem QgF {v:O0}{es:LI}(hh:Q7 w.heap b1 56 [v])(hE:QQ [] w.heap v es)(hl:es.length<=1000):
  Q5 prog 301 [ZD,.func (.func 259) #[] #[.pointer (some ⟨b1,0,none⟩)]] w λr w'=>O3 [] w w'/\Qu 3 w.heap.size w' r es:=by
 refine Q5.of_G 20 func301 U ntmps301 results301 oe ?_;refine Zi<|QM ol ol ?_;refine Qa<|QS (us:=[ZD]) U λb2 w1 S ha hc=>Qc ?_;have ho:=S.size;have hp:=hc.lt;refine Zi<|Zi<|QM ol ol ?_;refine Qb<|xe<|Z1<|Qmz (α:=Int) [b2] oa (capt:=[.pointer (some ⟨b1,0,none⟩)]) U (enc:=λx=>oF oG x) og
  (Qbb (hh.I S) ((hE.up (L':=[b2]) (λb E=>.inr (by rw[Lb.1 E];exact ha))).I S))
  (λpre W=>∃vo,O3 [b2] w1 W/\Q7 W.heap b2 56 [vo]/\Qu 3 w1.heap.size W vo pre)
  (λpre=>Yt.ex λvo=>(Yt.J (Lx _)).and (Yt.blk.and Yt.row))
  ⟨ZD,O3.Z _ _,hc,QJ _ _ _ _⟩
  (λf x T W=>T=upd (upd f 7 (oF oG x)) 5 (oF oG x)) (λx T=>Yt.pure _) ?_ ?_ ?_
 ·rintro l pre e W ⟨vo,J,I,G⟩;refine QM ol ol ?_;refine Qc ?_;exact⟨U,KJ.refl _ _ _,⟨vo,J,I,G⟩,U⟩
 ·rintro l pre e T W ⟨vo,J,I,G⟩ rfl hN;have he:b2∉ob vo:=QT G oa;have hge:=Qi G;have hi:=J.size;refine Z1<|QM ol ol ?_;refine Y2 I U U<|Qb<|Qa<|QB (us:=[[oF oG e]]) U U og oe ⟨rfl,rfl,Z⟩ λhq w2 H hr hj=>?_;refine Qa<|Za (m:=1) (news:=[oF oG e]) (Qp G H) U U U (hj.at (L:=[]) oe) (by simp[Value.oneCell']) oa (ou H.size) λv3 w3 V O hs=>?_;refine Qa<|QA (u:=v3) ((I.I H).J O he) U U oe (Qt V) λw4 Y hk=>xe ?_;have ht:=H.size;refine⟨((KJ.I H hi).D (KJ.J O oa (λb E=>⟨.inr (hge b E).1,Go.Lg.QU (Qp G H) b E⟩))).D (KJ.blk Y (ou O.size) ((I.I H).J O he) (.inl Lt)),v3,((J.D H.any).then O (λb E=>.inr (hge b E).1)).Q Y,hk,?_⟩;have h9:=Qf V Y (λb E=>by have:=(Qi V b E).1;simp only[oI];omega);exact Qu.snoc h9
 rintro D xs W hD rfl ⟨vo,J,I,G⟩ hf;refine Zi<|QM ol ol ?_;refine Y2 I U U<|Qc<|Vl ⟨λD' hn=>by rw[Lb.1 hn];exact hf,NC _ _,[vo],λW' hg=>⟨La,(S.O J ha).then hg (λb E=>.inr (by rw[Lb.1 E];omega)),?_⟩⟩;refine Zy (Qf G hg (λb E hm=>?_)) oa;rw[Lb.1 hm]at E;obtain⟨o,h1,h2⟩:=Go.Lg.QU G _ E;rw[hf]at h1;cases h1
 cases h2
theorem QdG {v:O0}{es:LI}(E:Q7 w.heap b1 56 [v])(hE:QQ [] w.heap v es)(hl:es.length<=1000):
  Q5 prog 258 [.func (.func 259) #[] #[.pointer (some ⟨b1,0,none⟩)]] w λr w'=>O3 [] w w'/\Qu 3 w.heap.size w' r es:=by
 refine Zs func258 ntmps258 results258 ?_;refine Qe<|Qc<|Qm<|Qa<|xf<|(QgF E hE hl).mono ?_;rintro v1 I ⟨G,H⟩;refine Qc ?_;exact Ql ⟨[v1],La,G,H⟩
theorem QfE {v:O0}{es:LI}(G:Q7 w.heap b1 56 [v])(hE:QQ [] w.heap v es)(hl:es.length<=1000):
  Q5 prog 214 [.func (.func 259) #[] #[.pointer (some ⟨b1,0,none⟩)]] w λr w'=>O3 [] w w'/\Qu 3 w.heap.size w' r (es.mergeSort λx y=>decide (x<=y)):=by
 refine Zs func214 ntmps214 results214 ?_;refine Qe<|Qc<|Qm<|Qa<|xf<|(QdG G hE hl).mono ?_;rintro v1 S ⟨H,E⟩;refine Qc<|Qm<|Qa<|xf<|(jc E oa).mono ?_;rintro r2 T ⟨I,J⟩;refine xe<|Qm<|Qc ?_;exact Ql ⟨[v1],La,H.then I (λb O=>.inr (Qi E b O).1),J⟩
theorem QiJ:∀{l:LI}{k:Nat}(h:k<l.length) {n:Int},l[k]'h=n->n∉l.take k->l.idxOf n=k
 | [],_,h,_,_,_=>by simp at h
 | a::l,0,_,n,e,_=>by
  have e2:a=n:=e;rw[e2,List.idxOf_cons_self]
 | a::l,k+1,h,n,e,E=>by
  have G:a≠n:=λe2=>E (by rw[ME,e2];exact Lt);rw[List.idxOf_cons,show(a == n)=false by simpa using G];show List.idxOf n l+1=k+1;have:=QiJ (l:=l) (k:=k) (oz h) (oz e) (λH=>E (by rw[List.take_succ_cons];exact Lk _ H));omega
theorem Qn7 {v:O0}(h:QQ L w.heap v l){n:Int}(I:n∈l):
  Q5 prog 50 [v,oF oG n] w λr w'=>w'=w/\r=oF oG (l.idxOf n:Nat):=by
 have S:=h.le;refine Zs func50 ntmps50 results50 ?_;refine Qe<|Qc<|Qd<|Qm<|QL h U<|Qb<|xe<|Qg<|QC (α:=Nat) [(4,5),(8,18)] (λk=>[(8,oF oG k)]) (λk w'=>w'=w/\k<=l.length/\n∉l.take k) (λk=>l.length - k) ol 0 La ⟨U,Ln _,oe⟩ ?_;rintro k g T ⟨rfl,V,E⟩;refine Qe<|QX U U<|xe<|Qd<|QG U (λJ=>?_) (λJ=>?_)
 ·exfalso;rw[Ls oa]at E;exact E I
 have G:k<l.length:=oa
 refine Qh<|Qd<|Qg<|Qm<|Qc<|Qm<|Qb<|Qb<|xii h U U G λY O=>x (QD O U)<|x (Q9 U U)<|xe<|QZ rfl (λH=>?_) (λH=>?_)
 ·refine Qm<|Qc ?_;exact Ql ⟨[oF oG k],La,U,OT (λm:Nat=>oF oG m) (QiJ G (Eq.symm H) E).symm⟩
 refine Qh<|Qw<|QN U U<|Qb<|xe<|⟨k+1,oa,La,U,oa,?_⟩;rw[Ll G,Lc,Lb];exact λh=>h.elim E H
def rlE (a:Zd)(to:LI):List Ed:=a.ed.map λe=>(e.1,O4 to (a.al.idxOf e.2.1),e.2.2)
theorem QdU {to sa:LI}{se:List Ed}(h:ZK [] w.heap va vm ve a)(g3:KD a=0)(ho:ZJ a)(ht:QQ [] w.heap vt to)(hD:to.length=a.al.length)(hM:∀e∈to,0<=e/\e<32)(g4:to.Nodup)
  (hN:to.mergeSort (λx y=>decide (x<=y))=sa) (g5:∀l',l'.Perm (rlE a to)->l'.Pairwise Qca->l'=se) (g6:ZJ ⟨sa,a.st,a.mr,se⟩):
  Q5 prog 145 [.agg #[va,oF oG a.st,vm,ve],vt] w λr w'=>O3 [] w w'/\∃v,r=.tuple #[v,oF oG 0]/\Jo w.heap.size w'.heap v (KT ⟨sa,a.st,a.mr,se⟩):=by
 have mu:=ho.st0;have mv:=ho.st1;have mw:=ho.al_le;refine Zs func145 ntmps145 results145 ?_;refine Qe<|Qa<|QS (us:=[va,oF oG a.st,vm,ve]) U λb2 w1 hO my g7=>Qa<|Qo (us:=qa) U λb4 w2 hP mz hQ=>Qc ?_;have hR:=hO.D hP;have m2:=hO.size;have m3:=hQ.lt;have hS:=g7.I hP;refine Qd<|Qe<|Q2 hS U U<|Qa<|xf<|(JF (h.I hR)).mono ?_;rintro r3 w3 ⟨hT,hz⟩;rw[g3]at hT;subst hT;have hE:=hR.D hz;have m4:=hz.size;have hh:=hS.I hz;have g8:=hQ.I hz;refine Qc<|Qm<|ZA U U<|xe<|ZO rfl ?_;refine Qh ?_;have h0:=h.I hE;have V:=ht.I hE;refine Qd<|Qm<|QL V U<|Qs U hh U U<|QL h0.al U<|ZA U U<|xe<|QZ rfl (λhU=>OU (OT (λm:Nat=>(m:Int)) hD) hU) (λhU=>?_);refine Qh<|Q3 (α:=Unit) [(5,5),(7,8),(25,47)] (λ_=>[]) (λ_ w'=>w'=w3) ol ?_ ?_
 ·refine Qm<|QL V U<|Qb<|xe<|Qg<|QC (α:=Nat) [(5,5),(7,8),(27,47)] (λk=>[(27,oF oG k)]) (λk w'=>w'=w3/\k<=to.length) (λk=>to.length - k) ol 0 La ⟨U,Ln _⟩ ?_;rintro k g w' ⟨rfl,hk⟩;refine Qe<|QX U U<|xe<|Qd<|QG U (λhV=>?_) (λhV=>?_)
  ·refine Qx ?_;exact⟨(),Z,U⟩
  have I:k<to.length:=by have m5:(k:Int)<(to.length:Int):=hV;omega
  have g9:=hM _ (Lm I);have hW:(to[k]'I)∉to.take k:=λhm=>by
   obtain⟨j,hj,hX⟩:=LO hm;rw[Nd]at hX;have ka:j<k:=by rw[Ly]at hj;omega
   have:=(MK.1 g4) j k oa I ka;exact this hX
  refine Zk (to[k]'I) λe T=>?_;rw[T]at g9 hW;refine Qh<|Qd<|Qg<|Qm<|xii V U U I λm6 hY=>?_;rw[T]at hY;refine x (QD hY U)<|x Qk<|Qc<|Qg<|Qm<|xb (YJ U U) (λhZ=>OU (show e<0 from hZ) oa) (λhZ=>?_);refine Qb<|Qb<|x (Yl U U)<|QK U<|Qc<|QZ U (λga=>OU (show e≥32 from ga) oa) (λga=>?_);refine Qm<|Qb<|Qm7 V U U oa λkb kc=>?_;have ke:QQ [] w'.heap kb (to.take k):=by
   unfold QQ;have kf:(to.take k).length=k:=by rw[Ly];omega
   rw[kf,NM];simpa using kc
  refine Qb<|Qa<|xf<|(Ya ke e).mono ?_;rintro m7 w' ⟨rfl,rfl⟩;refine Qc<|QZ U (λgb=>OU gb hW) (λgb=>?_);refine Qh<|Qw<|QN U U<|Qb<|xe ?_;exact⟨k+1,oa,La,U,I⟩
 rintro⟨⟩ g w' rfl;have kg:O3 [] w' { w' with drawn:=w'.drawn+1 }:=O3.C _ _
 refine Q3 (α:=Nat×O0) [(9,9),(48,55)] (λz=>[(9,.pointer (some ⟨z.1,0,none⟩))]) (λz H=>O3 [] w' H/\w'.heap.size<=z.1/\Q7 H.heap z.1 61 [z.2,oF oG a.st,vm,nS]/\z.2.oneCell'=true/\∀L:LN,(∀b∈L,b<w'.heap.size\/b=z.1)->QQ L H.heap z.2 sa) ol ?_ ?_
 ·refine XS (α:=O0) (O3 [] w') [oD 0,oD 3,oD 4,oD 5,oD 6] [oE 1,oE 2,oD 7] 8 9 [oE 9] [] [(48,55)] [(49,50),(55,55)] (λz=>[(55,.agg #[z,oF oG a.st,vm,nS])])
   (λz own H=>(∀b∈own,w'.heap.size<=b)/\z.oneCell'=true/\∀L:LN,(∀b∈L,b∉own)->QQ L H.heap z sa)
   (λv H=>∃b,v=.pointer (some ⟨b,0,none⟩)/\w'.heap.size<=b/\Q7 H.heap b 61 qa) mixed ol od ol U kg oe ?_ ?_ ?_ ?_
  ·rintro v own wa wb ⟨b,rfl,E,hB⟩ hs hn;exact⟨b,U,E,hB.J hs (hn b ot)⟩
  ·rintro z own wa wb ⟨h1,Y,h3⟩ hs;exact⟨h1,Y,λL hL=>(h3 L hL).I hs⟩
  ·rintro z g own wz v ⟨i1,i2,i3⟩ kh ⟨G,rfl,hf,hi⟩ ki;have gc:=(ki G ot).1;refine pkl (hl:=by kernel_rfl)<|Qj (us:=[z,oF oG a.st,vm,nS]) hi U U U U ⟨i2,U,h0.mr.one,U,Z⟩ λH ha kj=>pe ?_;refine⟨(G,z),La,kh.O ha hf,hf,kj,i2,λL hL=>?_⟩;have h1:=i3 (G::L) (λb E=>by
    rcases Li.1 E with rfl|E
    ·exact gc
    rcases hL b E with Y|Y
    ·exact λh3=>ou (i1 b h3)
    subst Y;exact gc)
   exact(h1.st (ha.mono oe)).up (λb E=>.inl (by simp[E]))
  refine Go.Lg.p Qy<|Go.Lg.p (QP U)<|pq (λ_ hc=>Qq (hh.I hc) U U)<|Go.Lg.p (QP U)<|pq (λ_ hc=>Qq (hh.I hc) U U) <|
   pe ⟨λg wf gg=>Qo (us:=qa) U λb m8 gh gi gj=>⟨gh,gg.D gh,⟨b,U,LJ gg.size gi,gj⟩,λx hx=>?_⟩,?_⟩
  ·have kk:x=b:=by
    have kn:x∈[b]:=hx;simpa using kn
   subst kk;exact⟨gi,gj.lt⟩
  refine f2k λx1 p1 c1=>xf<|(Qfz V.cells).mono ?_;rintro m9 y1 ⟨gk,pa,rfl,pc,hG⟩;refine⟨c1.D gk,US x1.heap.size y1.heap.size,gk.any,λb E=>.inr (ZE.1 E),?_⟩;refine f2k λx2 p2 c2=>xf<|(QfE (hG.I p2) (V.I c2) oa).mono ?_;rintro ko y2 ⟨gl,hq⟩;rw[hN]at hq;refine⟨c2.D gl,US x1.heap.size y1.heap.size++US x2.heap.size y2.heap.size,gl.any,λb E=>(Lc.1 E).imp id λE=>ZE.1 E,?_⟩;refine f2p (λ_=>Qz ⟨xJ hq,U,h0.mr.cells,Z⟩)<|f2e ?_;refine⟨ko,La,λb E=>?_,Qt hq,λL hL=>?_⟩
  ·have e1:=c1.size;have e2:=c2.size;rcases Lc.1 E with E|E
   ·have:=ZE.1 E;omega
   have:=ZE.1 E;omega
  exact QH hq (by rw[<-hN,(Nz to _).length_eq];omega) (λb E hm=>hL b hm (Lc.2 (.inr (ZE.2 (Qi hq b E)))))
 rintro⟨G,vs⟩ g H ⟨ha,hf,hi,hvo,gm⟩;simp only[]at hf hi hvo gm;have gn:=hi.lt;have go:=hh.I ha;have gp:∀b∈[G],b∈([]:LN)\/w'.heap.size<=b:=λb E=>.inr (by rw[Lb.1 E];exact hf);have hr:ZK [G] H.heap va vm ve a:=(h0.up gp).I ha;have kq:QQ [G] H.heap vt to:=(V.up gp).I ha;have kr:=gm [G] (λb E=>.inr (Lb.1 E));have pd:=hr.ed.le;have kt:b2∉[G]:=by have:=hh.lt;simp only[oI];omega
 have pf:b4∉[G]:=om
 have ku:(rlE a to).length=a.ed.length:=by unfold rlE;rw[Lh]
 have kv:∀e∈rlE a to,(0<=e.1/\e.1<1099511627776)/\0<=e.2.1/\e.2.1<1099511627776:=λe T=>by
  unfold rlE at T;obtain⟨d,hd,rfl⟩:=LD.1 T;have h1:=ho.ed d hd;have Y:a.al.idxOf d.2.1<to.length:=by rw[hD];exact MN h1.2.2.1
  have h3:=hM _ (Lm Y);have h4:=ZI Y;simp only[];omega
 refine Q3 (α:=O0) [(11,11),(56,78)] (λ_=>[]) (λz J=>O3 [G] H J/\Q7 J.heap G 61 [vs,oF oG a.st,vm,z]/\J.ownsRow H.heap.size 213 3 z (rlE a to).length ((rlE a to).flatMap QF)) ol ?_ ?_
 ·refine Qe<|Qs U go U U<|QL hr.ed U<|Qb<|xe<|Qg<|QC (α:=Nat×O0) [(11,11),(59,78)] (λz=>[(59,oF oG z.1)]) (λz J=>z.1<=a.ed.length/\O3 [G] H J/\Q7 J.heap G 61 [vs,oF oG a.st,vm,z.2]/\J.ownsRow H.heap.size 213 3 z.2 z.1 (((rlE a to).take z.1).flatMap QF)) (λz=>a.ed.length - z.1) ol (0,ZD) La ⟨Ln _,O3.Z _ _,hi,QJ _ _ _ _⟩ ?_;rintro⟨k,vr⟩ g J ⟨hk,O,hg,S⟩;simp only[]at hk hg S;refine Qe<|QX U U<|xe<|Qd<|QG U (λhH=>?_) (λhH=>?_)
  ·refine Qx ?_;have kw:k=a.ed.length:=by have h5:¬(k:Int)<(a.ed.length:Int):=hH;omega
   rw[Ls oa,kw,<-ku]at S;exact⟨vr,Z,O,hg,S⟩
  have I:k<a.ed.length:=by have h5:(k:Int)<(a.ed.length:Int):=hH;omega
  have hI:=ho.ed _ (Lm I);have kx:(rlE a to)[k]'oa=((a.ed[k]'I).1,O4 to (a.al.idxOf (a.ed[k]'I).2.1),(a.ed[k]'I).2.2):=by unfold rlE;rw[Mu]
  have hu:(rlE a to).take (k+1)=(rlE a to).take k++[(rlE a to)[k]'oa]:=Ll oa;rw[kx]at hu;refine Zk (a.ed[k]'I) λe T=>?_;rw[T]at hI hu;have hix:a.al.idxOf e.2.1<to.length:=by rw[hD];exact MN hI.2.2.1
  rw[<-ZI hix]at hu;refine Zk (to[a.al.idxOf e.2.1]'hix) λy hy=>?_;rw[hy]at hu;refine Qh<|Qd<|Qg<|Qe<|xie (i:=k) (hr.ed.st O) U U I λpg h5=>?_;rw[T]at h5;refine x (Qv h5 U U)<|Qa<|Qo (us:=[oF oG 0,oF oG 0,oF oG 0]) U λkz w7 hw gq k0=>Qa<|Qj (us:=QF e) k0 U U U U oB λw8 h6 gr=>xe ?_;have h7:O3 [] J w8:=hw.O h6 gq;have k4:=O.size;refine Qm<|Qs U ((go.J O kt).I h7) U U<|Qs U gr U U<|Qa<|xf<|(Qn7 ((hr.al.st O).I h7) hI.2.2.1).mono ?_;rintro ph w8 ⟨rfl,rfl⟩;refine xii ((kq.st O).I h7) U U hix λpj gs=>?_;rw[hy]at gs;refine x (QD gs U)<|Q0 U<|Qa<|QA (u:=oF oG y) gr U U (by simp[QF]) rfl λw9 h8 k5=>xe ?_;have k6:Q7 w9.heap kz 213 (QF (e.1,y,e.2.2)):=k5;have hA:O3 [] J w9:=h7.O h8 gq;have gt:=hg.I hA;have k7:=Qp S hA;have n9v:G∉ob vr:=QT S gn;have hge:=Qi S;have pm:=hA.size;refine Qw<|Qs U gt U U<|Q2 k6 U U<|Qa<|QB (us:=[QF (e.1,y,e.2.2)]) U U og (by exact(by decide:1*3<=1000000)) oA λpn po hC pp k8=>?_;refine Qa<|Za (m:=1) (news:=QF (e.1,y,e.2.2)) (L:=[]) (Qp k7 hC) U U U (k8.at oe) (by simp[QF,Value.oneCell']) oa (ou hC.size) λgu pu hJ gv pw=>?_;refine Q0 U<|Qa<|QA (u:=gu) ((gt.I hC).J gv n9v) U U oe (Qt hJ) λpz gw k9=>xe ?_;refine Qw<|QN U U<|Qb<|xe<|⟨(k+1,gu),oh,La,I,(((O.D hA.any).D hC.any).then gv (λb E=>.inr (hge b E).1)).Q gw,k9,?_⟩;simp only[];rw[hu,LA];have h9:=Qf hJ gw (λb E=>by have:=(Qi hJ b E).1;simp only[oI];omega);simpa using h9
 rintro vr g J ⟨O,hg,S⟩;have n9r:G∉ob vr:=QT S gn;have k4:=O.size;have gx:=Qi S;refine Qe<|Qs U hg U U<|Qa<|xf<|(Qad S oa kv).mono ?_;rintro r7 w7 ⟨hw,l',hp,ma,mf⟩;have mg:=g5 l' hp ma;subst mg;refine xe ?_;have mh:=hg.J hw n9r;have mj:∀b∈G::ob vr,b∈[G]\/H.heap.size<=b:=λb E=>by
  rcases Li.1 E with rfl|E
  ·exact .inl Lt
  exact .inr (gx b E).1
 have gy:∀{v:O0} {l:LI},QQ [G] H.heap v l->QQ [] w7.heap v l:=λhv=>(((hv.up mj).st (O.mono oe)).st (hw.mono (λb E=>Lk _ E))).up (λb E=>by cases E);have mo:qX [] w7.heap vr l':=QH mf (ou hp.length_eq) oe;have mq:ZK [] w7.heap vs vm vr ⟨sa,a.st,a.mr,l'⟩:=⟨gy kr,gy hr.mr,mo⟩;have hK:O3 [] w' w7:=(ha.O O hf).then hw (λb E=>.inr (ou (gx b E).1));have p0:=hK.size;have ms:=g8.I hK;refine Qe<|Q2 mh U U<|Qa<|xf<|(KE mq g6).mono ?_;rintro v w8 ⟨h6,hF⟩;obtain⟨us,gz,g0,mt⟩:=JH hF;refine Qa<|Qj (us:=us) (ms.I h6) U gz g0 U mt λw9 h8 hG=>Qc ?_;have g2:=hE.D hK;refine Ql ⟨[.agg us.toArray,oF oG 0],⟨⟨_,U,Qn g0 (hG.at (L:=[]) oe).cells⟩,rfl,Z⟩,(g2.D h6).O h8 oa,v,by rw[gz];rfl,?_⟩;exact(Kn hF oa h8).mono (ou g2.size)
theorem Qnm {motive:LI->Prop}(nil:motive [])(append_singleton:∀u v,motive u->motive (u++[v]))(u:LI):motive u:=by
 have key:∀r:LI,motive r.reverse:=by
  intro r;induction r with
  | nil=>exact nil
  | cons v r ih=>rw[List.reverse_cons];exact append_singleton _ _ ih
 have:=key u.reverse;rw[List.reverse_reverse]at this;exact this
def enc (u:LI):Int:=u.foldl (λn e=>n*33+(e+1)) 0
theorem Ve (u:LI)(v:Int):enc (u++[v])=enc u*33+(v+1):=by unfold enc;rw[Mz];rfl
def QgL (u:LI):Prop:=∀e∈u,0<=e/\e<32
theorem QgL.snoc {v:Int}(h:QgL (u++[v])):QgL u/\0<=v/\v<32:=⟨λe E=>h e (Mr _ E),h v oe⟩
theorem Qoh (h:QgL u):0<=enc u:=by
 induction u using Qnm with
 | nil=>exact NG _
 | append_singleton u v ih=>rw[Ve];have:=ih h.snoc.1;have:=h.snoc.2;omega
def rn (a:Zd)(x:Int)(u:LI):Int:=u.foldl (λs v=>xd a.ed s v) x
theorem QkX (a:Zd)(x:Int)(u:LI)(v:Int):rn a x (u++[v])=xd a.ed (rn a x u) v:=by unfold rn;rw[Mz];rfl
structure Fw where
 u:LI
 s:Int
def qD:Fw:=⟨[],0⟩
def wdN (e:Fw)(d:Ed):Fw:=⟨e.u++[d.2.1],d.2.2⟩
def wdR (a:Zd)(e:Fw):List Fw:=(Yc a.ed e.s).map (wdN e)
def wdL (a:Zd)(most:Nat):Nat->Nat->List Fw->Option (List Fw)
 | 0,_,L=>some L
 | f+1,i,L=>if i<L.length then(if(L.getD i qD).u.length=most then some L else if 1024<(L++wdR a (L.getD i qD)).length then none else wdL a most f (i+1) (L++wdR a (L.getD i qD)))else some L
def wds (a:Zd)(most:Nat):Option (List Fw):=wdL a most 1025 0 [qD]
structure WdI (a:Zd)(most i:Nat)(L:List Fw):Prop where
 ne:0<L.length
 le:i<=L.length
 mx:L.length<=1024
 rx:∀e∈L,e.s=rn a 0 e.u/\0<=e.s/\e.s<a.st/\(∀v∈e.u,v∈a.al)/\e.u.length<=most
 so:L.Pairwise λp q=>enc p.u<enc q.u
 hd:(L.getD 0 qD).u=[]
 pr:∀e∈L,e.u=[]\/∃j v,j<i/\e.u=(L.getD j qD).u++[v]
 ch:∀j v,j<i->0<=xd a.ed (L.getD j qD).s v->∃e∈L,e.u=(L.getD j qD).u++[v]
theorem QiR {L:List Fw}(h:i<L.length):L.getD i qD∈L:=by simp[oQ,h]
theorem QiS {L r:List Fw}(h:i<L.length):(L++r).getD i qD=L.getD i qD:=by simp[oQ,List.getElem?_append_left h]
theorem WdI.J (O:ZJ a){most:Nat}{L:List Fw}(h:WdI a most i L)(hi:i<L.length)(hl:(L.getD i qD).u.length≠most)(hm:¬1024<(L++wdR a (L.getD i qD)).length):WdI a most (i+1) (L++wdR a (L.getD i qD)):=by
 have T:QgL a.al:=O.al;have hc:∀e∈L,QgL e.u:=λe E u H=>T u ((h.rx e E).2.2.2.1 u H);have hb:=QiR hi;obtain⟨r1,r2,r3,r4,r5⟩:=h.rx _ hb;generalize V:L.getD i qD=ei at *;have Y:∀e∈wdR a ei,∃d∈Yc a.ed ei.s,e=wdN ei d/\d.2.1∈a.al/\0<=d.2.2/\d.2.2<a.st/\xd a.ed ei.s d.2.1=d.2.2:=λe E=>by
  unfold wdR at E;obtain⟨d,hd,rfl⟩:=LD.1 E;obtain⟨hf,ht⟩:=Yf hd;have ha:=O.ed d hf;refine⟨d,hd,U,ha.2.2.1,ha.2.2.2.1,ha.2.2.2.2,?_⟩;rw[Qet];obtain⟨k,hk,rfl⟩:=LO hd;refine Qdd _ ei.s _ k hk (λe E=>(Yf E).2) U (λm hg e=>?_);have I:(Yc a.ed ei.s).Pairwise λx y:Ed=>x.1<y.1\/(x.1=y.1/\x.2.1<y.2.1):=List.Pairwise.sublist Nh O.edi;have:=MK.1 I m k oa hk hg;have e1:=(Yf (Lm (l:=Yc a.ed ei.s) (show m<(Yc a.ed ei.s).length by omega))).2;have e2:=(Yf (Lm hk)).2;omega
 have hw:=Qoh (hc _ hb);have hh:∀e∈L,∀v,v∈a.al->enc e.u<enc (ei.u++[v]):=λe E v hv=>by
  have hz:=T v hv;rw[Ve];rcases h.pr e E with G|⟨j,u,J,G⟩
  ·rw[G];show(0:Int)<_;omega
  rw[G,Ve];have h0:enc (L.getD j qD).u<enc ei.u:=by
   have:=MK.1 h.so j i oa hi J;rw[<-V];simpa[oQ,show j<L.length by omega,hi]using this
  have h5:u<32:=by
   have:=(h.rx e E).2.2.2.1 u (by rw[G];simp);exact(T u this).2
  omega
 have keepD:∀r:List Fw,∀j,j<L.length->(L++r).getD j qD=L.getD j qD:=λr j J=>QiS J;refine⟨by simp;have:=h.ne;omega,by simp;omega,oa,λe E=>?_,?_,by rw[keepD _ 0 h.ne];exact h.hd,λe E=>?_,λj v J S=>?_⟩
 ·rcases Lc.1 E with E|E
  ·exact h.rx e E
  obtain⟨d,_,rfl,G,h2,h3,h4⟩:=Y e E;refine⟨?_,h2,h3,λu H=>?_,?_⟩
  ·show d.2.2=rn a 0 (ei.u++[d.2.1]);rw[QkX,<-r1,h4]
  ·rcases Lc.1 (show u∈ei.u++[d.2.1] from H)with H|H
   ·exact r4 u H
   simp only[oI]at H;subst H;exact G
  show(ei.u++[d.2.1]).length<=most;rw[Lj,LC];omega
 ·rw[MI];refine⟨h.so,?_,λp I q hq=>?_⟩
  ·unfold wdR;rw[MW];have I:(Yc a.ed ei.s).Pairwise λx y:Ed=>x.1<y.1\/(x.1=y.1/\x.2.1<y.2.1):=List.Pairwise.sublist Nh O.edi;refine List.Pairwise.imp_of_mem (λ{x y} hx hy h6=>?_) I;have e1:=(Yf hx).2;have e2:=(Yf hy).2;show enc (ei.u++[x.2.1])<enc (ei.u++[y.2.1]);rw[Ve,Ve];omega
  obtain⟨d,_,rfl,G,_⟩:=Y q hq;exact hh p I _ G
 ·rcases Lc.1 E with E|E
  ·rcases h.pr e E with G|⟨j,u,J,G⟩
   ·exact .inl G
   exact .inr ⟨j,u,oa,by rw[keepD _ j oa];exact G⟩
  obtain⟨d,_,rfl,_⟩:=Y e E;exact .inr ⟨i,d.2.1,oa,by rw[keepD _ i hi,V];rfl⟩
 rw[keepD _ j oa]at S ⊢;by_cases e:j=i
 ·subst e;rw[V]at S ⊢;have hr:=Qat S;refine⟨wdN ei (ei.s,v,xd a.ed ei.s v),Ns _ ?_,U⟩;unfold wdR;exact LK (by unfold Yc;exact L9.2 ⟨hr,oe⟩)
 obtain⟨e',hs,G⟩:=h.ch j v oa S;exact⟨e',Mr _ hs,G⟩
theorem Qo4 (G:0<a.st)(most:Nat):WdI a most 0 [qD]:=by
 refine⟨oe,OP _,oe,λe E=>?_,oe,by simp[oQ,qD],λe E=>?_,λj v H=>oa⟩
 ·simp only[oI]at E;subst E;exact⟨U,NG _,G,by simp[qD],by simp[qD]⟩
 simp only[oI]at E;subst E;exact .inl U
section
variable {pS:String}
theorem qO {base e:Nat}{bys:Nat}[h:Sl P t e sz bys z]{v:O0}(E:w.ownsRow base e sz v n cs)
  {a:Addr} {m c:Nat}  (hl:news.length=m*sz) (S:∀j u,news[j]?=some u->w.cell? (a.add j)=some u) (h1:∀u∈news,u.oneCell'=true)
  (hb:n+m<=1099511627776) (hq:bys<=128) (hc:base<=w.heap.size):
  ∃v' w',(Builtin.append_ #[t,t] ty #[v,.slice (some a) m c]).run P w=.ok v' w'/\w'.ownsRow base e sz v' (n+m) (cs++news)/\O3 (ob v) w w'/\(∀b∈ob v',b∈ob v\/w.heap.size<=b)/\w'.ownsRow base e sz v n cs:=by
 obtain⟨i,hi,V,J,Y⟩:=Sl.info h;have ha:(n+m)*bys<=140737488355328:=LJ (Nat.mul_le_mul hb hq) oa;have he:n+m<=maxLen:=by simp only[maxLen];omega
 by_cases hg:∃g cap cur,v=.slice (some ⟨g,0,none⟩) n cap/\w.heap[g]?=some (.cells cur e (0,0))/\n+m<=cap
 ·obtain⟨v',w',I,ho,hs,_⟩:=run_append_own (P:=P) w base t ty e i z sz bys h.u hi V J Y h.zs h.pos v n cs E a m c news hl S h1 he ha hc;have ht:O3 (ob v) w w':=by rw[zM];exact O3.of_grown hs
  refine⟨v',w',I,ho,ht,?_⟩;obtain⟨g,cap,cur,rfl,hf,O⟩:=hg;rcases E.2 with⟨h2,_⟩|⟨g2,cap2,hh,h2,h3,h4,h5,h6,h7,h8⟩
  ·cases h2
  cases h2
  have hu:n*i.size+news.length<=hh.size:=by rw[hl,h7,J,<-Ms];exact LY _ O
  have hv:=run_append_room (P:=P) w t ty e i h.u hi g n cap hh h4 a m c news (by rw[J];exact hl) S h1 O hu;rw[hv]at I;cases I
  refine⟨λb H=>.inl H,E.1,?_⟩;have hB:=E.1;rcases ho.2 with⟨e1,_⟩|⟨g3,cap3,cur3,e1,k3,k4,k5,k6,k7,k8⟩
  ·cases e1
  cases e1
  refine .inr ⟨g,cap,cur3,U,k3,k4,h5,k6,k7,?_⟩;have:=OT (List.take (n*sz)) k8;rw[M1,Mf (LY _ (Nat.le_add_right n m)),MT oa,Ls (l:=cs) oa]at this;exact this
 have new:∀(old:Nat),old<n+m->∀G,G=(Obj.cells (cs.toArray++news.toArray++Builtin.zeroCells z.cells (grownCap w (n+m) old e - (n+m))) e) ->
   (w.drew.alloc G).ownsRow base e sz (.slice (some ⟨w.heap.size,0,none⟩) (n+m) (grownCap w (n+m) old e)) (n+m) (cs++news):=by
  intro old ho G hw;subst hw;have hge:=grownCap_ge w (n+m) old e;have hj:grownCap w (n+m) old e<=maxLen:=grownCap_le_maxLen w (n+m) old e he;have hp:(cs++news).length=(n+m)*sz:=by rw[Lj,E.1,hl,Ms]
  refine⟨hp,.inr ⟨w.heap.size,_,_,U,hc,J4 w.drew _,hge,hj,?_,?_⟩⟩
  ·simp only[Array.size_append,Od,size_zeroCells,h.zs,E.1,hl,<-Oo];congr 1;omega
  simp only[Array.toList_append,o0];rw[<-LB,<-hp];exact List.take_left
 have stp:∀G,O3 (ob v) w (w.drew.alloc G):=λG=>⟨U,U,U,by rw[Vy];exact OL _,λk hk _=>qt w.drew G k hk⟩;have hy:∀G,O3 [] w (w.drew.alloc G):=λG=>⟨U,U,U,by rw[Vy];exact OL _,λk hk _=>qt w.drew G k hk⟩;have fin:∀(b:Nat),b∈ob (.slice (some ⟨w.heap.size,0,none⟩) (n+m) 0)->b∈ob v\/w.heap.size<=b:=λb H=>by simp[ob]at H;omega
 rcases E.2 with⟨rfl,rfl⟩|⟨g,cap,cur,rfl,hC,hf,hD,hj,hE,hF⟩
 ·have hx:cs=[]:=Lq (oz E.1);subst hx;by_cases hm:m=0
  ·subst hm;have T:news=[]:=Lq (oz hl);subst T;refine⟨nS,w,?_,QJ _ _ _ _,O3.Z _ _,λb H=>by simp[ob]at H,QJ _ _ _ _⟩;simp[Builtin.append_,run_underlying h.u,sizeOf,typeInfo,hi,Builtin.lenOf,Builtin.firstCells,loadCells,loadCellsFrom]
  have I:=run_append_nil (P:=P) w t ty e i z h.u hi V a m c news (by rw[J];exact hl) S oa oa (by rw[Y];have h0:=ha;simp only[oY]at h0;omega);have T:=new 0 oa _ U;simp only[oY,Oj,Array.empty_append]at T ⊢;exact⟨_,_,I,T,stp _,λb H=>fin b H,QJ _ _ _ _⟩
 have O:cap<n+m:=by
  rcases OF cap (n+m)with h9|hge
  ·exact h9
  exact OU ⟨g,cap,cur,U,hf,hge⟩ hg
 have hA:∀j u,cs[j]?=some u->w.cell? ((⟨g,0,none⟩:Addr).add j)=some u:=E.cells (g:=g) U;have I:=run_append_grow (P:=P) w t ty e i z h.u hi V ⟨g,0,none⟩ n cap cs (by rw[J];exact E.1) hA a m c news (by rw[J];exact hl) S O oa (growslice_fits O (by rw[Y];exact ha));exact⟨_,_,I,new cap O _ U,stp _,λb H=>fin b H,Qp E (hy _)⟩
theorem Qh4 {e bys:Nat}[h:Sl P t e sz bys z]{s:O1}{base:Nat}{v:O0}(E:w.ownsRow base e sz v n cs)(G:ev f s=v)
  {a:Addr} {m c:Nat}  (H:ev f y=.slice (some a) m c) (hl:news.length=m*sz)  (I:At L w.heap a news) (J:∀u∈news,u.oneCell'=true)
  (O:n+m<=1099511627776) (S:base<=w.heap.size)
  (hK:∀v' w',w'.ownsRow base e sz v' (n+m) (cs++news)->O3 (ob v) w w'->(∀b∈ob v',b∈ob v\/w.heap.size<=b)->w'.ownsRow base e sz v n cs->K (QY f d v') w') (T:bys<=128:=by decide):
  XO P ⟨d,.call ⟨.builtin .append,#[s,y],#[t,t]⟩,ty,pS,af,gd⟩ f w K:=by
 obtain⟨v',w',V,Y,h3,h4,h5⟩:=qO (P:=P) (t:=t) (ty:=ty) E hl I.cells J O T S (c:=c);have ha:(execOp (ev f) ⟨d,.call ⟨.builtin .append,#[s,y],#[t,t]⟩,ty,pS,af,gd⟩).run P w=.ok (.value v') w':=by
  simp[execOp,resolve,invoke,builtin,G,H,V]
 exact xv ha (hK v' w' Y h3 h4 h5)
end
section
variable {pS:String}{C:xw}{pl:xp}{i0:Nat}
theorem Qqz {g:α->LV}{x:O1}{e bys:Nat}[Sl P t e sz bys z](G:QV ops i0=⟨d,.indexAddr t x y,ty,pS,af,gd⟩)(J:∀x,(g x).length=sz){es:List α}{v:O0}{H:OZ}{k:IntKind}
  (h:∀w',C w'->Zv L w'.heap v es.length sz (es.flatMap g)) (O:C H) (S:ev f x=v) (T:ev f y=.int k i) (hi:i<es.length)
  (hK:∀a,(∀w',C w'->At L w'.heap a (g es[i]))->XP P ops C K pl (QY f d (.pointer (some a))) w) (V:Z4 ops f (QV ops i0)=true:=by rfl):
  XP P ops C K ((i0,true)::pl) f w:=by
 obtain⟨a,cap,E,_⟩:=Zv.at (h H O) hi;refine Lg.p (λw'=>by rw[G];exact Xh (S.D E) T oa oa) ?_ V;rw[G];refine hK _ λw' Y=>?_;obtain⟨a',cap',ha,I⟩:=Zv.at (h w' Y) hi;rw[ha]at E;cases E
 rw[Xx g sz J es i hi]at I;simpa using I
end
theorem QpW (b:Bool):b=true\/b=false:=by cases b;exact .inr U;exact .inl U
structure FV where
 v:O0
 f:Fw
abbrev Z9 (p:FV):LV:=[p.v,oF oG p.f.s]
theorem QaJ (p:FV):(Z9 p).length=2:=rfl
structure WdM (wB:OZ)(vL:O0)(es:List FV)(w:OZ):Prop where
 st:O3 [] wB w
 l:w.ownsRow wB.heap.size 360 2 vL es.length (es.flatMap Z9)
 each:∀p∈es,QQ (ob vL) w.heap p.v p.f.u
theorem WdM.I {wB w w':OZ}{vL:O0}{es:List FV}(h:WdM wB vL es w)(E:O3 [] w w'):WdM wB vL es w':=⟨h.st.D E,Qp h.l E,λp G=>(h.each p G).I E⟩
theorem WdM.add {wB:OZ}{vL vL':O0}{es:List FV}{p:FV}(h:WdM wB vL es w)(H:O3 (ob vL) w w')(hl:w'.ownsRow wB.heap.size 360 2 vL' (es.length+1) (es.flatMap Z9++Z9 p))(I:∀b∈ob vL',b∈ob vL\/w.heap.size<=b)(J:QQ (ob vL) w.heap p.v p.f.u):WdM wB vL' (es++[p]) w':=by
 refine⟨h.st.then H (λb G=>.inr (Qi h.l b G).1),by rw[Lj,LA];simpa using hl,λq E=>?_⟩;rcases Lc.1 E with E|E
 ·exact(h.each q E).grow H (λb G=>G) I
 simp only[oI]at E;subst E;exact J.grow H (λb G=>G) I
theorem QiM {es:List FV}(h:i<es.length):(es.map (·.f)).getD i qD=(es[i]'h).f:=by simp[oQ,h]
theorem Qk5 (E:ZJ a)(s:Int):(Yc a.ed s).length<=32:=by
 have G:(Yc a.ed s).Pairwise λx y:Ed=>x.1<y.1\/(x.1=y.1/\x.2.1<y.2.1):=List.Pairwise.sublist Nh E.edi;have hi:Y1 ((Yc a.ed s).map λe=>e.2.1):=by
  unfold Y1;rw[MW];refine List.Pairwise.imp_of_mem (λ{x y} hx H O=>?_) G;have e1:=(Yf hx).2;have e2:=(Yf H).2;omega
 have:=XR _ 0 32 hi (λv I=>by
  obtain⟨e,J,rfl⟩:=LD.1 I;exact E.al _ (E.ed e (Yf J).1).2.2.1)
 rw[Lh]at this;omega
def Qg5 (a:Zd)(most:Nat)(mk:Bool):Option (List (LI)):=if a.st=0 then some []else(wds a most).map λL=>(L.filter λf=>!mk || decide (f.s∈a.mr)).map (·.u)
def Qp2 (o:Option (List (LI)))(r:O0)(H:xx):Prop:=(o=none/\r=.tuple #[ZD,oF oG 3])\/∃l v ps,o=some l/\r=.tuple #[v,oF oG 0]/\JL [] H v ps/\ps.map (·.2)=l
theorem QgI (h:ZK [] w.heap va vm ve a)(mq:KD a=0)(ho:ZJ a)(most:Nat)(q5:most<=4096)(mk:Bool):
  Q5 prog 144 [.agg #[va,oF oG a.st,vm,ve],oF oG most,.bool mk] w λr w'=>O3 [] w w'/\Qp2 (Qg5 a most mk) r w'.heap:=by
 have j1:=ho.st0;have j2:=ho.st1;refine Zs func144 ntmps144 results144 ?_;refine Qe<|Qa<|QS (us:=[va,oF oG a.st,vm,ve]) U λb3 w1 g3 j3 g5=>x Qk<|Qc<|Qd<|Qe<|Q2 g5 U U<|Qa<|xf<|(JF (h.I g3)).mono ?_;rintro r2 w2 ⟨g7,g8⟩;rw[mq]at g7;subst g7;have J:=g3.D g8;refine Qc<|Qm<|ZA U U<|xe<|ZO rfl ?_;refine Qh<|Qd<|Qm<|xb (YJ U U) (λg9=>OU (show(most:Int)<0 from g9) oa) (λg9=>?_);refine Qb<|Qb<|x (ZZ U U)<|QK U<|xe<|QZ rfl (λka=>OU (show(most:Int) > 4096 from ka) oa) (λka=>?_);refine Qh ?_;have hO:=g5.I g8;refine Qd<|Qe<|Qs U hO U U<|x (Q9 U U)<|xe<|QZ rfl (λhP=>?_) (λhP=>?_)
 ·refine Qe<|x Qk<|Qc ?_;exact Ql ⟨[ZD,oF oG 0],oA,J,.inr ⟨[],ZD,[],by unfold Qg5;rw[OS hP],rfl,⟨Zv.nil _ _ _,λp G=>by cases G⟩,rfl⟩⟩
 have ms:0<a.st:=by have za:¬a.st=0:=hP;omega
 have hW:Qg5 a most mk=(wds a most).map λL=>(L.filter λf=>!mk || decide (f.s∈a.mr)).map (·.u):=by unfold Qg5;rw[OR oa]
 refine Zk (wds a most) λR hR=>?_;rw[hR]at hW;refine Qh<|Qe<|x (Qz Z)<|Qa<|QB (us:=[Z9 ⟨nS,qD⟩]) U U og (by exact(by decide:1*2<=1000000)) oA λkb w3 mt mu mv=>Qc ?_;have mw:WdM w2 (.slice (some ⟨kb,0,none⟩) 1 1) [⟨nS,qD⟩] w3:=by
  refine⟨mt,mv.own (n:=1) U oa mu,λp G=>?_⟩;simp only[oI]at G;subst G;exact Zv.nil _ _ _
 have my:∀e∈a.ed,0<=e.1/\e.1<=1099511627776:=λe he=>ou (ho.ed e he)
 refine Q3 (α:=O0×List FV) [(6,7),(9,10),(12,12),(32,77)] (λz=>[(9,z.1)]) (λz w'=>WdM w2 z.1 z.2 w'/\R=some (z.2.map (·.f))/\z.2.length<=1024) ol ?_ ?_
 ·refine Qe<|Qc<|Qg<|QC (α:=Nat×O0×List FV) [(6,7),(9,10),(12,12),(32,77)] (λz=>[(9,z.2.1),(10,oF oG z.1)])
   (λz w'=>z.1<=1025/\WdM w2 z.2.1 z.2.2 w'/\WdI a most z.1 (z.2.2.map (·.f))/\wdL a most (1025 - z.1) z.1 (z.2.2.map (·.f))=R) (λz=>1025 - z.1) ol (0,.slice (some ⟨kb,0,none⟩) 1 1,[⟨nS,qD⟩]) oA
   ⟨Ln _,mw,Qo4 ms most,hR⟩ ?_
  rintro⟨i,vL,es⟩ g4 w4 ⟨mz,hg,h5,H⟩;simp only[]at mz hg h5 H;have hQ:=h5.mx;have m2:=h5.le;rw[Lh]at hQ m2;have hw:Zv [] w4.heap vL es.length 2 (es.flatMap Z9):=QH hg.l oa (λb _=>oe);refine Qd<|Qm<|Qb<|QL hw U<|QX U U<|xe<|QG U (λhS=>?_) (λhS=>?_)
  ·refine Qx ?_;have m3:¬i<(es.map (·.f)).length:=by rw[Lh];have m4:¬(i:Int)<(es.length:Int):=hS;omega
   refine⟨(vL,es),La,hg,?_,hQ⟩;rw[<-H];generalize 1025 - i=f;cases f with
   | zero=>rfl
   | succ f=>rw[wdL,OR m3]
  have hi:i<es.length:=by have m4:(i:Int)<(es.length:Int):=hS;omega
  rw[show 1025 - i=(1025 - (i+1))+1 by omega,wdL,OS (by rw[Lh];exact hi),QiM hi]at H;have kc:=hg.each _ (Lm hi);have hU:=h5.rx _ (LK (f:=λq:FV=>q.f) (Lm hi));have hV:=λhl hm=>h5.J ho (by rw[Lh];exact hi) hl hm;rw[QiM hi]at hV;refine Zk (es[i]'hi) λei hG=>?_;rw[hG]at H kc hU hV;have ke:=hg.st;have m5:=kc.up (L':=[]) (λb E=>by cases E);refine Qh<|Qd<|Qg<|Qd<|Qm<|Qb<|O6 (g:=Z9) (i:=i) QaJ hw U U hi λzb kf=>?_;rw[hG]at kf;refine x (Zg U)<|x (QD (kf.fld 0 _ U) U)<|QL m5 U<|Qb<|x (Q9 U U)<|xe<|QZ U (λhX=>?_) (λhX=>?_)
  ·refine Qx ?_;have hH:ei.f.u.length=most:=by have m6:(ei.f.u.length:Int)=(most:Int):=hX;omega
   rw[OS hH]at H;exact⟨(vL,es),La,hg,H.symm,hQ⟩
  have hH:ei.f.u.length≠most:=by have m6:¬(ei.f.u.length:Int)=(most:Int):=hX;omega
  rw[OR hH]at H;have hY:=hV hH;refine Qh ?_;have m7:=hO.I ke;have m8:ZK (ob vL) w4.heap va vm ve a:=((h.I J).up (L':=ob vL) (λb E=>.inr (Qi hg.l b E).1)).I ke;have m9:=Qk5 ho ei.f.s;have hout:=Qar (va:=va) (vm:=vm) (st:=a.st) (m8.ed.I (O3.C [] w4)) ho.eds my ei.f.s hU.2.1 oa;refine Zk (Yc a.ed ei.f.s) λos kg=>?_;rw[kg]at m9 hout;have pa:wdR a ei.f=os.map (wdN ei.f):=by unfold wdR;rw[kg]
  rw[pa]at H hY;refine Qd<|Qd<|QR (O3 [] w4) [oD 0,oD 1,oD 2,oD 3,oD 4,oD 5,oD 8,oE 6,oD 7] mixed ol od (O3.C _ _) ?_;refine pq (λ_ O=>Zx (m7.I O) U U)<|p Qy<|p Qy<|Lg.pig (g:=Z9) (i:=i) U QaJ hw U U hi λzv kh=>?_;rw[hG]at kh;refine p (λ_=>Zg U)<|pq (λ_ O=>QD ((kh.fld 1 _ U).I O) U)<|p Qy<|pk<|xf<|hout.mono ?_;rintro ro w5 ⟨pc,ki⟩;have kj:=(O3.C [] w4).D pc;refine⟨kj,?_⟩;refine p (λ_=>Yo ki U)<|pe ?_;have pd:=hg.I kj;refine Zk (es.map (·.f)++os.map (wdN ei.f)) λL1 kk=>?_;rw[kk]at H hY;refine Qg<|QC (α:=Nat×O0×List FV) [(9,9),(12,12),(54,74)] (λz=>[(9,z.2.1),(54,oF oG z.1)])
   (λz w'=>z.1<=os.length/\WdM w2 z.2.1 z.2.2 w'/\qX (ob z.2.1) w'.heap ro os/\z.2.2.length=es.length+z.1/\(∃h:i<z.2.2.length,z.2.2[i]'h=ei)/\z.2.2.map (·.f)++(os.drop z.1).map (wdN ei.f)=L1) (λz=>os.length - z.1) ol (0,vL,es) oA
   ⟨Ln _,pd,ki,U,⟨hi,hG⟩,kk⟩ ?_
  rintro⟨k,vL2,fs⟩ g6 w6 ⟨hk,hn,hZ,pf,kn,hh⟩;simp only[]at hk hn hZ pf kn hh;refine Qe<|QX U U<|xe<|Qd<|QG U (λga=>?_) (λga=>?_)
  ·refine Qx ?_;have gb:os.length<=k:=by have hI:¬(k:Int)<(os.length:Int):=ga;omega
   rw[Lr gb,Nk,LS]at hh;have pg:Zv [] w6.heap vL2 fs.length 2 (fs.flatMap Z9):=QH hn.l oa (λb _=>oe);have z0:L1.length=fs.length:=by rw[<-hh,Lh]
   refine Qm<|QL pg U<|x (ZZ U U)<|xe<|QZ U (λgc=>?_) (λgc=>?_)
   ·have hJ:1024<L1.length:=by have ph:(fs.length:Int) > 1024:=gc;omega
    rw[OS hJ]at H;refine Qe<|x Qk<|Qc ?_;exact Ql ⟨[ZD,oF oG 3],oA,J.D hn.st,.inl ⟨by rw[hW,<-H];rfl,U⟩⟩
   have hJ:¬1024<L1.length:=by have ph:¬(fs.length:Int) > 1024:=gc;omega
   rw[OR hJ,<-hh]at H;have ko:=hY hJ;rw[<-hh]at ko;refine Qh<|Qw<|Qb<|QN U U<|Qc ?_;exact⟨(i+1,vL2,fs),oh,oA,oh,hn,ko,H⟩
  have S:k<os.length:=by have hI:(k:Int)<(os.length:Int):=ga;omega
  rw[Zf S,LG]at hh;refine Zk (os[k]'S) λd hd=>?_;rw[hd]at hh;refine Qh<|Exists.elim kn λgg gh=>?_;have kq:=hn.each _ (Lm gg);rw[gh]at kq;refine Q3 (α:=O0×O0) [(9,9),(12,12),(56,73)] (λz=>[(9,z.1)]) (λz w'=>WdM w2 z.1 (fs++[⟨z.2,wdN ei.f d⟩]) w'/\qX (ob z.1) w'.heap ro os) ol ?_ ?_
  ·refine Qg<|Qe<|xie (i:=k) hZ U U S λz1 hI=>?_;rw[hd]at hI;refine x (Qv hI U U)<|Qa<|Qo (us:=[oF oG 0,oF oG 0,oF oG 0]) U λb12 w7 pj pm pn=>Qa<|Qj (us:=QF d) pn U U U U oB λI po kr=>xe ?_;have gi:O3 [] w6 I:=pj.O po pm;have h6:=hn.I gi;have kt:=hZ.I gi;have pp:=kq.I gi;have ku:=pp.up (L':=[]) (λb E=>by cases E);have h0:O3 [] I { I with drawn:=I.drawn+1 }:=O3.C [] I
   have z2:=h0.size;have kv:=hU.2.2.2.2;have V:∀w',O3 [] I w'->O3 (ob vL2) I w'/\w'.ownsRow w2.heap.size 360 2 vL2 fs.length (fs.flatMap Z9):=λw' hs=>⟨hs.mono oe,Qp h6.l hs⟩;have kw:b12∉ob vL2:=λE=>ou (Zb hn.l b12 E)
   refine Qms (λw'=>O3 (ob vL2) I w'/\w'.ownsRow w2.heap.size 360 2 vL2 fs.length (fs.flatMap Z9)) (.f2 [oD 0,oD 1,oD 2,oD 3,oD 4,oD 5,oD 7,oD 8,oD 11,oD 12] 6 9 (.pl [oE 9,oE 10,oD 13,oE 14,oE 15,oD 16]) (.pl [oE 6,oE 10,oD 13,oE 14,oE 15,oD 16])) mixed ol od (V _ h0) ?_;refine u2<|p Qy<|p Qy<|p Qy<|Qqz (g:=Z9) (i:=i) (L:=[]) U QaJ (λw' O=>QH O.2 oa (λb _=>oe)) (V _ h0) rfl rfl gg λz3 kx=>?_;rw[gh]at kx;refine p (λ_=>Zg U)<|pq (λw' O=>QD ((kx w' O).fld 0 _ U) U)<|p (QP U)<|pq (λ_ O=>Qq (kr.J O.1 kw) U U)<|p (QP U)<|pq (λ_ O=>Qq (kr.J O.1 kw) U U)<|pe ⟨?_,?_⟩
   ·refine ue<|xf<|(ZU (ku.I h0)).mono ?_;rintro vk w9 ⟨h7,h8⟩;have h2:=h0.D h7;have pu:=h7.size;have gj:=Qi h8;refine⟨V _ h2,?_⟩;refine uP<|pk<|QB (us:=[[oF oG d.2.1]]) U U og oe ⟨rfl,rfl,Z⟩ λbl pw hq hbl gk=>?_;have h9:=h2.D hq;have pz:=hq.size;refine⟨V _ h9,?_⟩;refine pk<|Za (news:=[oF oG d.2.1]) (L:=[]) (Qp h8 hq) U U U (gk.at oe) (by simp[Value.oneCell']) oa oa λT gl gm gn p0=>?_;have hA:O3 [] I gl:=h9.then gn (λb E=>.inr (ou (gj b E).1));have hr:=Qu.snoc (Zy gm (show I.heap.size<=_ by omega));refine⟨V _ hA,?_⟩;have go:=(Qu.ints (L:=[]) hr (by simp;omega) oe).one;have gp:=(Qu.ints (L:=[]) hr (by simp;omega) oe).cells;refine p (λ_=>Qz ⟨gp,U,Z⟩)<|pk<|QB (us:=[Z9 ⟨T,wdN ei.f d⟩]) U U og (by exact(by decide:1*2<=1000000)) oA λbm gq J p1 hB=>?_;have ha:=hA.D J;refine⟨V _ ha,?_⟩;have ht:=h6.I ha;have gr:=ht.st.size;refine pk<|Qh4 (news:=Z9 ⟨T,wdN ei.f d⟩) (L:=[]) (m:=1) ht.l U U U (hB.at oe) (by intro u hu;simp only[oK,oJ,or_false]at hu;rcases hu with rfl|rfl;exact go;rfl) oa gr λvz p2 gs hv hC gt=>⟨⟨(ha.mono oe).Q hv,gt⟩,p ZH<|pe ?_⟩
    have gu:QQ (ob vL2) gq.heap T (wdN ei.f d).u:=Qu.ints (Qp hr J) (by show(ei.f.u++[d.2.1]).length<=_;rw[Lj,LC];omega) (λb E=>Zb h6.l b E);exact⟨(vz,T),La,ht.add hv gs hC gu,(kt.I ha).grow hv (λb E=>E) hC⟩
   refine ue<|QB (us:=[[oF oG d.2.1]]) U U og oe ⟨rfl,rfl,Z⟩ λbl w9 h7 hbl gk=>?_;have h2:=h0.D h7;have pu:=h7.size;refine⟨V _ h2,?_⟩;refine uP<|pk<|xf<|(ZU (ku.I h2)).mono ?_;rintro vk pw ⟨hq,h8⟩;have h9:=h2.D hq;have pz:=hq.size;have gj:=Qi h8;refine⟨V _ h9,?_⟩;refine pk<|Za (news:=[oF oG d.2.1]) (L:=[]) h8 U U U ((gk.I hq).at oe) (by simp[Value.oneCell']) oa oa λT gl gm gn p0=>?_;have hA:O3 [] I gl:=h9.then gn (λb E=>.inr (ou (gj b E).1));have hr:=Qu.snoc (Zy gm (show I.heap.size<=_ by omega));refine⟨V _ hA,?_⟩;have go:=(Qu.ints (L:=[]) hr (by simp;omega) oe).one;have gp:=(Qu.ints (L:=[]) hr (by simp;omega) oe).cells;refine p (λ_=>Qz ⟨gp,U,Z⟩)<|pk<|QB (us:=[Z9 ⟨T,wdN ei.f d⟩]) U U og (by exact(by decide:1*2<=1000000)) oA λbm gq J p1 hB=>?_;have ha:=hA.D J;refine⟨V _ ha,?_⟩;have ht:=h6.I ha;have gr:=ht.st.size;refine pk<|Qh4 (news:=Z9 ⟨T,wdN ei.f d⟩) (L:=[]) (m:=1) ht.l U U U (hB.at oe) (by intro u hu;simp only[oK,oJ,or_false]at hu;rcases hu with rfl|rfl;exact go;rfl) oa gr λvz p2 gs hv hC gt=>⟨⟨(ha.mono oe).Q hv,gt⟩,p ZH<|pe ?_⟩
   have gu:QQ (ob vL2) gq.heap T (wdN ei.f d).u:=Qu.ints (Qp hr J) (by show(ei.f.u++[d.2.1]).length<=_;rw[Lj,LC];omega) (λb E=>Zb h6.l b E);exact⟨(vz,T),La,ht.add hv gs hC gu,(kt.I ha).grow hv (λb E=>E) hC⟩
  rintro⟨vz,T⟩ z4 z5 ⟨kz,k0⟩;simp only[]at kz k0;refine Qw<|QN U U<|Qb<|xe ?_;exact⟨(k+1,vz,fs++[⟨T,wdN ei.f d⟩]),oh,oA,S,kz,k0,by simp;omega,⟨by simp;omega,by simp only[];rw[MC gg];exact gh⟩,by simp only[];rw[Lp,LB];exact hh⟩
 rintro⟨vL,es⟩ g20 hD ⟨h3,k4,p3⟩;simp only[]at h3 k4 p3;rw[k4]at hW;have p4:=J.D h3.st;have hw:Zv [] hD.heap vL es.length 2 (es.flatMap Z9):=QH h3.l oa (λb _=>oe);refine Qe<|Qc<|Qd<|Qm<|QL hw U<|Qb<|xe<|Qg<|QC (α:=Nat×O0×List TV) [(13,13),(15,15),(80,100)] (λz=>[(13,z.2.1),(80,oF oG z.1)])
  (λz w'=>z.1<=es.length/\O3 [] hD w'/\yQ 56 hD.heap.size w' z.2.1 z.2.2/\z.2.2.map (·.2)=((es.take z.1).filter λp=>!mk || decide (p.f.s∈a.mr)).map (λp=>p.f.u)/\∀p∈z.2.2,QQ (ob z.2.1) w'.heap p.1 p.2) (λz=>es.length - z.1) ol (0,nS,[]) oA
  ⟨Ln _,O3.Z _ _,QJ _ _ _ _,U,λp G=>by cases G⟩ ?_
 rintro⟨k,vT,ps⟩ g21 k5 ⟨hk,hf,hT,hE,hK⟩;simp only[]at hk hf hT hE hK;have hpl:ps.length<=k:=by
  have h1:=OT oP hE;rw[Lh,Lh]at h1;rw[h1];refine LJ (Ma _ _) ?_;rw[Ly];omega
 refine Qe<|QX U U<|xe<|Qd<|QG U (λgv=>?_) (λgv=>?_)
 ·refine Qx ?_;have gb:es.length<=k:=by have hL:¬(k:Int)<(es.length:Int):=gv;omega
  refine Qm<|x Qk<|Qc<|Ql ⟨[vT,oF oG 0],oA,p4.D hf,.inr ⟨_,vT,ps,hW,U,⟨QH hT oa (λb _=>oe),λp G=>(hK p G).up (λb E=>by cases E)⟩,?_⟩⟩;rw[hE,Ls gb];show _=((es.map (λp:FV=>p.f)).filter λf=>!mk || decide (f.s∈a.mr)).map (λx:Fw=>x.u);rw[List.filter_map,Mh];rfl
 have S:k<es.length:=by have hL:(k:Int)<(es.length:Int):=gv;omega
 have k6:=h3.each _ (Lm S);refine Zk (es[k]'S) λek gw=>?_;rw[gw]at k6;have k7:QQ (ob vT) k5.heap ek.v ek.f.u:=((k6.up (L':=[]) (λb E=>by cases E)).up (λb E=>.inr (Qi hT b E).1)).I hf;refine Qh<|Qd<|Qg<|Qe<|O6 (g:=Z9) (i:=k) QaJ (hw.I hf) U U S λa82 hL=>?_;rw[gw]at hL;refine x (Qv hL U U)<|Qa<|Qo (us:=[nS,oF oG 0]) U λb15 w22 p5 p6 p7=>Qa<|Qj (us:=Z9 ek) p7 U U U U ⟨k7.one,U,Z⟩ λhj p8 k8=>xe ?_;have Y:O3 [] k5 hj:=p5.O p8 p6;have hB:=((hO.I h3.st).I hf).I Y;have p9:QQ [] hj.heap vm a.mr:=(((h.I J).mr.I h3.st).I hf).I Y;have hF:(es.take (k+1)).filter (λp=>!mk || decide (p.f.s∈a.mr))=(es.take k).filter (λp=>!mk || decide (p.f.s∈a.mr))++(if(!mk || decide (ek.f.s∈a.mr))=true then[ek]else[]):=by
  rw[Ll S,LZ,gw,Mc,NL]
 refine Q3 (α:=Bool) [(84,92)] (λz=>[(92,.bool z)]) (λz w'=>w'=hj/\z=(!mk || decide (ek.f.s∈a.mr))) ol ?_ ?_
 ·refine Or.elim (QpW mk) (λgx=>?_) (λgx=>?_)
  ·subst gx;refine Qw<|Qb<|x (Zz U)<|Qb<|Qs U hB U U<|Qs U k8 U U<|Qa<|xf<|(Ya p9 ek.f.s).mono ?_;rintro r91 hj ⟨rfl,rfl⟩;refine QK U<|xe ?_;exact⟨_,La,U,U⟩
  subst gx;refine Qw<|Qb<|x (Zz U)<|Qb<|Qr<|Qr<|Qr<|Qr<|Qr<|QK U<|xe ?_;exact⟨true,La,U,U⟩
 rintro z g23 hj ⟨rfl,hz⟩;rw[<-hz]at hF;refine QW rfl (λgy=>?_) (λgy=>?_)
 rotate_left
 ·rw[OR (by rw[gy];decide),LS]at hF;refine Qh<|Qw<|QN U U<|Qb<|xe ?_;exact⟨(k+1,vT,ps),oh,oA,S,hf.D Y,Qp hT Y,by simp only[];rw[hF];exact hE,λp G=>(hK p G).I Y⟩
 rw[OS gy]at hF;have k9:=k7.I Y;have ma:=Qp hT Y;have kv:=k9.le;refine Qw<|Qb<|Qa<|XQ λb94 w24 hM mf qc=>Q0 U<|x (Qq (k8.I hM) U U) <|
  Qa<|Qas (base:=hj.heap.size) (qc.own (n:=0) (sz:=1) U oa mf) U (k9.I hM) U (Uq ek.f.u) oa (ou hM.size) λh4 gz qf ql hn25=>?_
 have qo:O3 [] hj gz:=hM.O ql mf;have qr:Qu 3 hj.heap.size gz h4 ek.f.u:=by simpa[tup]using qf
 have g0:QQ (ob vT) gz.heap h4 ek.f.u:=Qu.ints qr kv (λb E=>Zb ma b E);refine Qa<|QB (us:=[[h4]]) U U og oe ⟨g0.cells,rfl,Z⟩ λb98 w26 mg hb98 q0=>?_;have hN:=qo.D mg;have q1:=Qp ma hN;refine Qa<|Za (news:=[h4]) (L:=[]) q1 U U U (q0.at oe) (λy hy=>by simp only[oI]at hy;subst hy;exact g0.one) oa (oy hf.size Y.size hN.size) λmh mj q2 g2 mo=>Qc ?_;have q3:O3 [] hD mj:=((hf.D Y).D hN).then g2 (λb E=>.inr (Qi hT b E).1);have q4:yQ 56 hD.heap.size mj mh (ps++[(h4,ek.f.u)]):=yQ.snoc q2;refine Qw<|QN U U<|Qb<|xe<|⟨(k+1,mh,ps++[(h4,ek.f.u)]),oh,oA,S,q3,q4,?_,λp G=>?_⟩
 ·simp only[];rw[Lp,hE,hF,Lp];rfl
 rcases Lc.1 G with G|G
 ·exact(((hK p G).I Y).I hN).grow g2 (λb E=>E) mo
 simp only[oI]at G;subst G;exact(g0.I mg).grow g2 (λb E=>E) mo
theorem Uk {v:O0}{l':LI}(h:QQ L w.heap v l)(E:QQ L' w.heap v' l'):Q5 prog 147 [v,v'] w λr w'=>r=.bool (decide (l=l'))/\O3 [] w w':=by
 have hh:=h.le;refine Zs func147 ntmps147 results147 ?_;refine Qe<|Qc<|Qd<|Qm<|QL h U<|Qb<|QL E U<|ZA U U<|xe<|QZ rfl (λV=>?_) (λV=>?_)
 ·refine Qe<|Qc<|Ql ⟨[.bool false],La,?_,O3.Z _ _⟩;have H:l≠l':=λe=>V (by rw[e]);simp[tup,H]
 refine Qh<|Qd<|Qe<|Qc<|Qg<|QC (α:=Nat) [(4,5),(11,25)] (λk=>[(5,oF oG k)]) (λk w'=>O3 [] w w'/\k<=l.length/\(l=l'↔l.drop k=l'.drop k)) (λk=>l.length - k) ol 0 La ⟨O3.Z _ _,Ln _,oe⟩ ?_;rintro k g Y ⟨G,hk,I⟩
 replace h:=h.I G
 replace E:=E.I G;refine Qd<|Qm<|Qb<|QL h U<|QX U U<|xe<|QG rfl (λhb=>?_) (λhb=>?_)
 ·refine Qx<|Qe<|Qc<|Ql ⟨[.bool true],La,?_,G⟩;rw[Lr oa,Lr oa]at I;simp[tup,I]
 have J:k<l.length:=oa
 have O:k<l'.length:=oa
 refine Qh<|Qd<|Qg<|Qd<|QR (O3 [] Y) [oD 0,oD 1,oD 2,oD 3,oD 4,oD 5,oD 6,oD 7,oD 8] mixed ol od (O3.C _ _) ?_;refine p Qy<|p Qy<|pii (i:=k) U h U U J λhi hf=>pq (λ_ S=>QD (hf.I S) U)<|p Qy<|p Qy<|pii (i:=k) U E U U O λhj hg=>pq (λ_ S=>QD (hg.I S) U)<|p (λ_=>Jc U U)<|pe ?_;have ha:=G.D (O3.C [] Y);refine QZ rfl (λT=>?_) (λT=>?_)
 ·refine Qe<|Qc<|Ql ⟨[.bool false],La,?_,ha⟩;have H:l≠l':=λe=>T (by simp[e]);simp[tup,H]
 refine Qh<|Qw<|Qb<|QN U U<|Qc<|⟨k+1,oa,La,ha,oa,?_⟩;have he:l[k]'J=l'[k]'O:=Lo.1 T;rw[I,Zf J,Zf O,he];exact⟨λh=>(List.cons.inj h).2,λh=>by rw[h]⟩
theorem Qj3 {ua um ue:O0}(h:ZK L w.heap va vm ve a)(h':ZK L' w.heap ua um ue a):Q5 prog 146 [.agg #[va,oF oG a.st,vm,ve],.agg #[ua,oF oG a.st,um,ue]] w λr w'=>r=.bool true/\O3 [] w w':=by
 have hv:=h.ed.le;refine Zs func146 ntmps146 results146 ?_;refine Qe<|Qa<|QS (us:=[va,oF oG a.st,vm,ve]) U λb2 w1 hl hw hm=>Qa<|QS (us:=[ua,oF oG a.st,um,ue]) U λb3 w2 hb hy I=>Qc ?_;have S:=hl.D hb;have J:=hm.I hb;have T:=h.I S;have V:=h'.I S;refine Qd<|Q3 (α:=Unit) [(6,35)] (λ_=>[(35,.bool false)]) (λ_ w'=>O3 [] w2 w') ol ?_ ?_
 ·refine Qw<|Qs U J U U<|Qs U I U U<|Qa<|xf<|(Uk T.al V.al).mono ?_;rintro r3 w3 ⟨he,E⟩;rw[OV rfl]at he;subst he;refine x (Zz U)<|Qb<|Qs U (J.I E) U U<|Qs U (I.I E) U U<|xb (Jc U U) (λhf=>OU U hf) (λhf=>?_);refine QK U<|Qb<|Qs U (J.I E) U U<|Qs U (I.I E) U U<|Qa<|xf<|(Uk (T.mr.I E) (V.mr.I E)).mono ?_;rintro r4 w4 ⟨hg,G⟩;rw[OV rfl]at hg;subst hg;have O:=E.D G;refine x (Zz U)<|QK U<|Qb<|Qs U (J.I O) U U<|QL (T.ed.I O) U<|Qs U (I.I O) U U<|QL (V.ed.I O) U<|xb (Jc U U) (λhh=>OU U hh) (λhh=>?_);refine QK U<|xe ?_;exact⟨(),La,O⟩
 rintro⟨⟩ g w3 E;have Y:=S.D E;have hn:=J.I E;have ho:=I.I E;have h3:=h.I Y;have hp:=h'.I Y;refine ZO rfl ?_;refine Qh<|Qd<|Qe<|Qc<|Qg<|QC (α:=Nat) [(4,5),(36,53)] (λk=>[(5,oF oG k)]) (λk w'=>O3 [] w3 w'/\k<=a.ed.length) (λk=>a.ed.length - k) ol 0 La ⟨O3.Z _ _,Ln _⟩ ?_;rintro k g w4 ⟨G,hk⟩;have h4:=h3.ed.I G;have hq:=hp.ed.I G;have hi:=hn.I G;have hr:=ho.I G;refine Qd<|Qm<|Qs U hi U U<|QL h4 U<|QX U U<|xe<|QG rfl (λhs=>?_) (λhs=>?_)
 ·refine Qx<|Qe<|Qc ?_;exact Ql ⟨[.bool true],La,U,Y.D G⟩
 have ha:k<a.ed.length:=oa
 refine Qh<|Qd<|Qg<|Qd<|QR (O3 [] w4) [oD 0,oD 1,oD 2,oD 3,oD 4,oD 5,oD 6,oD 7,oD 8,oD 9,oD 10] mixed ol od (O3.C _ _) ?_;refine p (QP U)<|pq (λ_ H=>Qq (hi.I H) U U)<|p Qy<|pie (i:=k) U h4 U U ha λhz ht=>pq (λ_ H=>Qv (ht.I H) U U)<|p (QP U)<|pq (λ_ H=>Qq (hr.I H) U U)<|p Qy <|
  pie (i:=k) U hq U U ha λh0 hu=>pq (λ_ H=>Qv (hu.I H) U U)<|p (λ_=>Un U U)<|pe ?_
 refine QZ rfl (λhj=>OU U hj) (λhj=>?_);refine Qh<|Qw<|Qb<|QN U U<|Qc ?_;exact⟨k+1,oa,La,G.D (O3.C _ _),ha⟩
theorem Qam {pS:String}[h:S3 P t]{x:O1}{p q:Ed}(hx:ev f x=.agg (QF p).toArray)(G:ev f y=.agg (QF q).toArray):
  (execOp (ev f) ⟨d,.binOp .eql t x y E,ty,pS,af,gd⟩).run P w=.ok (.value (.bool (decide (p=q)))) w:=by
 have H:(eqGuard .eql t x y (.agg (QF p).toArray) (.agg (QF q).toArray)).run P w=.ok () w:=by simp[eqGuard,h.g]
 simp only[execOp,hx,G,Sem.run_bind,H,Result.andThen_ok,binOp,Ul,Sem.run_pure]
def ex3:Zd:=⟨[0,2],3,[2],[(0,0,2),(0,2,0),(2,2,0)]⟩
def cn3:Zd:=⟨[0,2],2,[1],[(0,0,1),(0,2,0),(1,2,0)]⟩
def se3:List Ed:=[(0,1,0),(0,3,1),(1,1,0)]
theorem Qi5:KD ex3=0:=od
theorem QlQ:KT ex3=cn3:=od
theorem QaT:KD cn3=0:=od
theorem Qmf:QkU cn3 0 [0,0]=0:=od
theorem Qmg:flw cn3 0 [0,0]=(1,1):=od
theorem Qme:Qg5 cn3 2 true=some [[0],[2,0]]:=od
theorem Qno:KD ⟨[1,3],2,[1],se3⟩=0:=od
theorem Qnn:(KT ⟨[1,3],2,[1],se3⟩).ed=se3:=od
theorem Qow:rlE cn3 [3,1]=[(0,3,1),(0,1,0),(1,1,0)]:=od
theorem Qqp:([3,1]:LI).mergeSort (λx y=>decide (x<=y))=[1,3]:=by
 refine List.Perm.eq_of_pairwise (le:=λx y:Int=>x<=y) (λa b _ _ E G=>oa) ?_ og ((Nz _ _).D (List.Perm.swap _ _ _));refine(List.pairwise_mergeSort (le:=λx y:Int=>decide (x<=y)) (λa b c E G=>by simp at *;omega) (λa b=>by simp;omega) [3,1]).imp λh=>oz h
theorem Qnk (l':List Ed)(E:l'.Perm (rlE cn3 [3,1]))(O:l'.Pairwise Qca):l'=se3:=by
 rw[Qow]at E;refine List.Perm.eq_of_pairwise (le:=Qca) (λa b S G H I=>?_) O (by unfold se3 Qca;decide) (E.D (List.Perm.swap _ _ _));have J:=E.mem_iff.1 S;simp only[oK,oJ,or_false]at J;simp only[se3,oK,oJ,or_false]at G;unfold Qca at H I;rcases J with rfl|rfl|rfl <;> rcases G with rfl|rfl|rfl <;> first|rfl|(exfalso;simp only[]at H I;omega)
theorem Qb3 (w:OZ):Q5 prog 142 [] w λr w'=>O3 [] w w'/\Jo w.heap.size w'.heap r ex3:=by
 refine Zs func142 ntmps142 results142 ?_;refine Qe<|Qa<|Qo (us:=qa) U λb0 V I Y J=>xe ?_;have ha:=J.lt;refine Qe<|Qa<|QB (us:=[[oF oG 0],[oF oG 2]]) U U og oe ⟨rfl,rfl,rfl,rfl,Z⟩ λb1 w2 O hh hb=>Qa<|QB (us:=[[oF oG 2]]) rfl rfl og oe ⟨rfl,rfl,Z⟩ λb2 w3 E hi hc =>
  x (Qz ⟨rfl,U,U,Z⟩)<|x (Qz ⟨U,U,U,Z⟩)<|x (Qz ⟨U,U,U,Z⟩)<|Qa<|QB (us:=[QF (0,0,2),QF (0,2,0),QF (2,2,0)]) U U og (by exact(by decide:3*3<=1000000)) ⟨U,U,U,U,U,U,Z⟩ λG w4 H hj he=>?_
 have S:=(O.D E).D H;have hf:=I.size;have hk:=O.size;have hl:=E.size;have hF:Jo V.heap.size w4.heap (.agg #[.slice (some ⟨b1,0,none⟩) 2 2,oF oG 3,.slice (some ⟨b2,0,none⟩) 1 1,.slice (some ⟨G,0,none⟩) 3 3]) ex3 :=
  j6 (a:=ex3) ((hb.I E).I H) (hc.I H) he oa oa oa U U U og og og
 refine x (Qz ⟨U,U,U,U,Z⟩)<|Qa<|Qj (us:=[.slice (some ⟨b1,0,none⟩) 2 2,oF oG 3,.slice (some ⟨b2,0,none⟩) 1 1,.slice (some ⟨G,0,none⟩) 3 3]) (J.I S) U U U U oC λw5 T hg=>xe ?_;refine Ql ⟨[.agg #[.slice (some ⟨b1,0,none⟩) 2 2,oF oG 3,.slice (some ⟨b2,0,none⟩) 1 1,.slice (some ⟨G,0,none⟩) 3 3]],⟨⟨_,U,Qn U (hg.at (L:=[]) oe).cells⟩,Z⟩,(I.D S).O T Y,?_⟩;exact(Kn hF ha T).mono hf
theorem Qf8 (w:OZ):Q5 prog 102 [] w λr w'=>r=.bool true/\O3 [] w w':=by
 refine Zs func102 ntmps102 results102 ?_;refine Qe<|Qc<|Qe<|Qa<|xf<|(Qb3 w).mono ?_;rintro r1 w1 ⟨hE,va,vm,ve,rfl,hF⟩;refine Qa<|xf<|(Qa1 (hF [] oe)).mono ?_;rintro r2 w2 ⟨hG,v2,rfl,_,hH⟩;have hf:=hH Qi5;rw[QlQ]at hf;obtain⟨ca,cm,ce,rfl,hI⟩:=hf;have J:=hI [] oe;refine Qb<|Q8 U U<|Q8 U U<|Qa<|Qo (us:=qa) U λb1 w3 hJ hK hM=>Qa<|Qj (us:=[ca,oF oG 2,cm,ce]) hM U U U U ⟨J.al.one,U,J.mr.one,J.ed.one,Z⟩ λw4 hN O=>Qc ?_;have hg:O3 [] w2 w4:=hJ.O hN hK;have S:=J.I hg;have hO:=(hE.D hG).D hg;refine Qe<|Q2 O U U<|Qa<|QB (us:=[[oF oG 0],[oF oG 0]]) U U og oe ⟨rfl,rfl,rfl,rfl,Z⟩ λg6 w5 hh g7 hP=>Qa<|xf<|(QoM (u:=[0,0]) (S.I hh) (hP.arr (L:=[]) oe (n:=2) (cap:=2) (sz:=1) rfl oa (Lx _)) 0).mono ?_;rintro r6 w6 ⟨hQ,hi⟩;rw[OR (by rw[Qmf];decide),Qmg]at hi;subst hi;refine Qb<|Q8 U U<|Q8 U U<|Q8 U U<|x Qk<|x Qk<|Qc ?_;have V:=hh.D hQ;refine Qe<|Q2 (O.I V) U U<|Qa<|xf<|(QgI (S.I V) QaT ((Z6 _).1 QaT) 2 og true).mono ?_;rintro r7 w7 ⟨hS,hj⟩;rw[Qme]at hj;have hT:∃I G H,r7=.tuple #[I,oF oG 0]/\JL [] w7.heap I [G,H]/\G.2=[0]/\H.2=[2,0]:=by
  rcases hj with⟨h,_⟩|⟨l,I,ps,hl,h2,Y,E⟩
  ·cases h
  cases hl
  match ps,Y,E with
  | [G,H],Y,E =>
   simp only[oX,OI,List.cons.injEq,and_true]at E;exact⟨I,G,H,h2,Y,E.1,E.2⟩
  | [],_,E=>simp at E
  | [_],_,E=>simp at E
  | _::_::_::_,_,E=>simp at E
 obtain⟨I,G,H,rfl,hU,hV,hW⟩:=hT;refine Qb<|Q8 U U<|Q8 U U<|x Qk<|Qc ?_;have ha:=V.D hS;refine Qe<|Q2 (O.I ha) U U<|Qa<|QB (us:=[[oF oG 3],[oF oG 1]]) U U og oe ⟨rfl,rfl,rfl,rfl,Z⟩ λg8 w8 hk g9 hX =>
  Qa<|xf<|(QdU (to:=[3,1]) ((S.I ha).I hk) QaT ((Z6 _).1 QaT) (hX.arr (L:=[]) oe (n:=2) (cap:=2) (sz:=1) rfl oa (Lx _)) rfl og og Qqp Qnk ((Z6 _).1 Qno)).mono ?_
 rintro r9 w9 ⟨hY,v9,rfl,hZ⟩;obtain⟨ra,rm,re,rfl,ga⟩:=hZ;have hR:=ga [] oe;have gb:qX [] w9.heap re se3:=by
  have h:=hR.ed;rw[show(KT ⟨[1,3],cn3.st,cn3.mr,se3⟩).ed=se3 from Qnn]at h;exact h
 refine Qb<|Q8 U U<|Q8 U U<|Qa<|Qo (us:=qa) U λb8 ka gc gg gh=>Qa<|Qj (us:=[ra,oF oG (KT ⟨[1,3],cn3.st,cn3.mr,se3⟩).st,rm,re]) gh U U U U ⟨hR.al.one,U,hR.mr.one,hR.ed.one,Z⟩ λhm gi gj=>Qc ?_;have hn:O3 [] w9 hm:=gc.O gi gg;have ho:=(hk.D hY).D hn;have hb:=ha.D ho;have gk:=S.I hb;have gl:=O.I hb;have gm:=hU.I ho;have gn:=gb.I hn;refine Q3 (α:=Unit) [(0,0),(33,98)] (λz=>[(0,.bool true)]) (λz w'=>O3 [] hm w') ol ?_ ?_
 ·refine Qw<|Qb<|xb (Q9 U U) (λhp=>?_) (λhp=>OU Qi5 hp);refine Qb<|Q2 gl U U<|Qa<|QB (us:=[[oF oG 0],[oF oG 2]]) U U og oe ⟨rfl,rfl,rfl,rfl,Z⟩ λgo kb gp kc gq=>Qa<|QB (us:=[[oF oG 1]]) rfl rfl og oe ⟨rfl,rfl,Z⟩ λgr ke hq kf gs =>
   x (Qz ⟨U,U,U,Z⟩)<|x (Qz ⟨U,U,U,Z⟩)<|x (Qz ⟨U,U,U,Z⟩)<|Qa<|QB (us:=[QF (0,0,1),QF (0,2,0),QF (1,2,0)]) U U og (by exact(by decide:3*3<=1000000)) ⟨U,U,U,U,U,U,Z⟩ λgt gu hc kg gv=>?_
  have hr:=(gp.D hq).D hc;have hL:ZK [] gu.heap (.slice (some ⟨go,0,none⟩) 2 2) (.slice (some ⟨gr,0,none⟩) 1 1) (.slice (some ⟨gt,0,none⟩) 3 3) cn3 :=
   ⟨((gq.I hq).I hc).arr (L:=[]) oe (n:=2) (cap:=2) (sz:=1) rfl oa (Nat.le_refl _),(gs.I hc).arr (L:=[]) oe (n:=1) (cap:=1) (sz:=1) rfl oa (Nat.le_refl _),gv.arr (L:=[]) oe (n:=3) (cap:=3) (sz:=3) rfl oa (Lx _)⟩
  refine x (Qz ⟨U,U,U,U,Z⟩)<|Qa<|xf<|(Qj3 (a:=cn3) (gk.I hr) hL).mono ?_;rintro kh ki ⟨rfl,gw⟩;have hs:=hr.D gw;have T:=gm.I hs;refine QK U<|Qb<|Qb<|xb (Q9 U U) (λht=>?_) (λht=>OU U ht);refine QK U<|Qb<|Qb<|xb (Q9 U U) (λhu=>?_) (λhu=>OU U hu);refine QK U<|Qb<|Qb<|xb (Q9 U U) (λhv=>?_) (λhv=>OU U hv);refine QK U<|Qb<|Qb<|xb (Q9 U U) (λhw=>?_) (λhw=>OU U hw);refine QK U<|Qb<|Qb<|QL T.arr U<|xb (Q9 U U) (λhy=>?_) (λhy=>OU U hy);refine QK U<|Qb<|Qb<|O6 (g:=YE) (i:=0) VU T.arr U U oe λkj gx=>x (QD gx rfl)<|Qa<|QB (us:=[[oF oG 0]]) rfl rfl og oe ⟨rfl,rfl,Z⟩ λkk kn hz ko gy =>
   Qa<|xf<|(Uk (l:=G.2) (l':=[0]) ((T.each G oe).I hz) (gy.arr (L:=[]) oe (n:=1) (cap:=1) (sz:=1) rfl oa (Lx _))).mono ?_
  rintro kq kr ⟨h0,gz⟩;rw[hV,OV rfl]at h0;subst h0;have h1:=hz.D gz;have h5:=T.I h1;refine QK U<|Qb<|Qb<|O6 (g:=YE) (i:=1) VU h5.arr U U oe λkt g0=>x (QD g0 rfl)<|Qa<|QB (us:=[[oF oG 2],[oF oG 0]]) rfl rfl og oe ⟨rfl,rfl,rfl,rfl,Z⟩ λku kv h6 kw g2 =>
   Qa<|xf<|(Uk (l:=H.2) (l':=[2,0]) ((h5.each H oe).I h6) (g2.arr (L:=[]) oe (n:=2) (cap:=2) (sz:=1) rfl oa (Lx _))).mono ?_
  rintro kx kz ⟨h7,g3⟩;rw[hW,OV rfl]at h7;subst h7;have he:=(hs.D h1).D (h6.D g3);have h8:=gj.I he;have h9:=gn.I he;refine QK U<|Qb<|Qb<|xb (Q9 U U) (λhA=>?_) (λhA=>OU U hA);refine QK U<|Qb<|Qs U h8 U U<|QL h9 U<|xb (Q9 U U) (λhB=>?_) (λhB=>OU U hB);refine QK U<|Qb<|Qs U h8 U U<|xie (i:=1) h9 U U og λk0 g4=>x (Qv g4 U U)<|x (Qz ⟨U,U,U,Z⟩)<|xb (Qam (p:=(0,3,1)) (q:=(0,3,1)) U U) (λhD=>?_) (λhD=>OU U hD);refine QK U<|Qc ?_;exact⟨(),La,he⟩
 rintro z g k4 g5;exact Ql ⟨[.bool true],La,U,(hO.D hb).D g5⟩
theorem QgN (w:OZ):Q5 prog 44 [] w λr w'=>r=.bool true/\O3 [] w w':=by
 refine Zs func44 ntmps44 results44 ?_;refine Qe<|Qc<|Qe<|Qa<|xf<|(Qf8 w).mono ?_;rintro G H ⟨rfl,E⟩;refine Qc ?_;exact Ql ⟨[.bool true],La,U,E⟩
theorem CL.cel_rq {c:CL}{k:ZG}(h:c.V=k)(v:O0)(qs:List IV):(CL.mk c.ve c.vc v c.vx c.vk c.ev c.co qs c.ex c.cs).V={ k with rq:=qs.map IV.it }:=by rw[<-h];rfl
theorem CL.cel_ex {c:CL}{k:ZG}(h:c.V=k)(v:O0)(qs:List XV):(CL.mk c.ve c.vc c.vr v c.vk c.ev c.co c.rq qs c.cs).V={ k with ex:=qs.map XV.x }:=by rw[<-h];rfl
theorem CL.cel_cs {c:CL}{k:ZG}(h:c.V=k)(v:O0)(qs:List KV):(CL.mk c.ve c.vc c.vr c.vx v c.ev c.co c.rq c.ex qs).V={ k with cs:=qs.map KV.k }:=by rw[<-h];rfl
theorem Qc4 {c:CL}{k:ZG}(h:ZF [] w.heap c)(J:c.V=k)(G:YN k=0)(O:Kb w 4096):
  Q5 prog 98 [c.val] w λr w'=>O3 [] w w'/\∃va vm ve v1 v2 v3 E,r=.tuple #[.agg #[va,oF oG (spc k).a.st,vm,ve,v1,v2,v3,E],oF oG 0]/\Zj [va,oF oG (spc k).a.st,vm,ve,v1,v2,v3,E]/\Zv [] w'.heap E (spc k).fb.length 4 ((spc k).fb.flatMap ZT):=by
 refine(yw h O).mono ?_;rintro r w' ⟨S,v,rfl,⟨us,T,_,H⟩,I⟩;rw[J]at I ⊢;obtain⟨va,vm,ve,v1,v2,v3,E,cos,rqs,rfl,_,_,V⟩:=I G;have Y:us=[va,oF oG (spc k).a.st,vm,ve,v1,v2,v3,E]:=by
  have h9:=OT (λv=>match v with|Value.agg cs=>cs.toList|_=>[]) T
  simpa using h9.symm
 rw[Y]at H;exact⟨S,va,vm,ve,v1,v2,v3,E,by rw[G],H,(V [] oe).2.2.2.2⟩
theorem Qox {c:CL}{k:ZG}(h:ZF [] w.heap c)(E:c.V=k)(G:YN k=0)(H:(spc k).a.st<4096)(I:Qfc k=true)(J:Kb w 4096):
  Q5 prog 99 [c.val] w λr w'=>O3 [] w w'/\∃xa xm xe vb,r=.tuple #[.agg #[xa,oF oG ((spc k).a.st+1),xm,xe],vb,oF oG 0]/\Zj [xa,xm,xe]/\Qu 3 w.heap.size w' vb (cmB k):=by
 subst E;exact QcL h J G H I
abbrev QnE:LV:=[nS,oF oG 0,nS,nS,nS,nS,nS,nS]
theorem Qp1 {P:Prop}{a b:Int}(e:a=b)(h:¬a=b):P:=OU e h
theorem Qdl (ha:Kb w 4096):Q5 prog 43 [] w λr w'=>r=.bool true/\O3 [] w w':=by
 refine Zs func43 ntmps43 results43 ?_;refine Qe<|Qc<|Qe<|Qa<|xf<|(JX 1 og w).mono ?_;rintro r1 w1 ⟨hG,c1,rfl,gw,gx⟩;refine Qa<|xf<|(JX 2 og w1).mono ?_;rintro r2 w2 ⟨h0,c2,rfl,gy,gz⟩;refine Qa<|xf<|(JX 2 og w2).mono ?_;rintro r3 w3 ⟨hc,c3,rfl,g0,g2⟩;have he:=((gx [] oe).I h0).I hc;have hf:=(gz [] oe).I hc;have hg:=g2 [] oe;refine Qa<|Qo (us:=ZY) U λb1 w4 g3 qf hH=>Qa<|Qo (us:=ZY) U λb2 w5 hI ql hJ=>Qa<|Qo (us:=ZY) U λE w6 h1 qo J=>?_;have qr:=hH.lt;have q0:=hJ.lt;have q1:=J.lt;refine Qa<|Qj (us:=c1.cells) ((hH.I hI).I h1) U U U U he.ones λw7 hh g4=>Qa<|Qj (us:=c2.cells) ((hJ.I h1).J hh om) U U U U hf.ones λw8 hi g5 =>
  Qa<|Qj (us:=c3.cells) ((J.J hh om).J hi om) U U U U hg.ones λw9 hj g6=>xe ?_
 have hk:O3 [] w3 w9:=((((g3.D hI).D h1).O hh oa).O hi oa).O hj oa;have g7:=((hG.D h0).D hc).D hk;have g8:=(g4.J hi om).J hj om;have g9:=g5.J hj om;have J:∀b∈[b1,b2,E],w3.heap.size<=b/\b<w6.heap.size:=λb H=>by
  simp only[oK,oJ,or_false]at H;rcases H with rfl|rfl|rfl <;> omega
 have m1:∀b∈[b1],b∈[b1,b2,E]:=oe
 have m2:∀b∈[b2],b∈[b1,b2,E]:=oe
 have m3:∀b∈[E],b∈[b1,b2,E]:=oe
 have he:=(he.up (L':=[b1,b2,E]) (λb H=>.inr (J b H).1)).I hk;have hf:=(hf.up (L':=[b1,b2,E]) (λb H=>.inr (J b H).1)).I hk;have hg:=(hg.up (L':=[b1,b2,E]) (λb H=>.inr (J b H).1)).I hk;have q2:w6.heap.size<=w9.heap.size:=by have:=hh.size;have:=hi.size;have:=hj.size;omega
 have nB:∀b,w9.heap.size<=b->b∉[b1,b2,E]:=λb H hm=>ou (J b hm).2
 refine Qe<|Qa<|QB (us:=[[oF oG 1]]) U U og oe ⟨rfl,rfl,Z⟩ λhl q3 hK q4 ka=>Qa<|QB (us:=[[oF oG 0]]) rfl rfl og oe ⟨rfl,rfl,Z⟩ λhn q5 h2 j1 kb=>x (Qz ⟨rfl,rfl,rfl,Z⟩) <|
  x (Zt [(0,[.string Ur]),(1,[.slice (some ⟨hl,0,none⟩) 1 1,oF oG 1,.slice (some ⟨hn,0,none⟩) 1 1,nS])] ⟨U,U,U,U,Z⟩) <|
  Qa<|QB (us:=[[.string Ur,.slice (some ⟨hl,0,none⟩) 1 1,oF oG 1,.slice (some ⟨hn,0,none⟩) 1 1,nS]]) U U og (by exact(by decide:1*5<=1000000)) oA λh3 kc h4 j2 ke=>?_
 have ho:=(hK.D h2).D h4;refine Q0 rfl<|Qa<|QA (j:=2) (u:=.slice (some ⟨h3,0,none⟩) 1 1) (g8.I ho) U U oe rfl λh5 hp kf=>xe ?_;have j3:=hK.size;have za:=h2.size;have V:O3 [b1,b2,E] w9 h5:=ho.any.Q (hp.mono m1);have kg:ZF [b1,b2,E] h5.heap (CL.mk c1.ve c1.vc (.slice (some ⟨h3,0,none⟩) 1 1) c1.vx c1.vk c1.ev c1.co [⟨Ur,⟨.slice (some ⟨hl,0,none⟩) 1 1,.slice (some ⟨hn,0,none⟩) 1 1,nS,QaI.a⟩⟩] c1.ex c1.cs):=by
  have G:=he.st V;refine⟨G.ev,G.co,XD.st (w:=kc) ⟨ke.arr (nB _ oa) (n:=1) (cap:=1) (sz:=5) U og (Lx _),λq I=>?_,λq I=>?_⟩ (hp.mono m1),G.ex,G.cs⟩
  ·rw[Lb.1 I];exact⟨((ka.I h2).I h4).arr (nB _ oa) (n:=1) (cap:=1) (sz:=1) U og (Lx _),(kb.I h4).arr (nB _ oa) (n:=1) (cap:=1) (sz:=1) U og (Lx _),Zv.nil _ _ 3⟩
  rw[Lb.1 I];exact Xm og
 refine Qe<|x (Qz ⟨U,U,Z⟩)<|x (Qz ⟨U,U,Z⟩)<|Qa<|QB (us:=[QI (0,1),QI (1,1)]) U U og (by exact(by decide:2*2<=1000000)) oC λh6 zb hL zv kh=>x (Qz ⟨U,U,Z⟩) <|
  Qa<|QB (us:=[[.string YV,.slice (some ⟨h6,0,none⟩) 2 2]]) U U og (by exact(by decide:1*2<=1000000)) oA λh7 ki hM z0 kj=>?_
 have hr:=hL.D hM;refine Q0 rfl<|Qa<|QA (j:=3) (u:=.slice (some ⟨h7,0,none⟩) 1 1) ((g9.J (ho.any.Q hp) om).I hr) U U oe rfl λh8 hs kk=>xe ?_;have z1:=hL.size;have Y:O3 [b1,b2,E] h5 h8:=hr.any.Q (hs.mono m2);have z2:=Y.size;have z3:=V.size;have kn:ZF [b1,b2,E] h8.heap (CL.mk c2.ve c2.vc c2.vr (.slice (some ⟨h7,0,none⟩) 1 1) c2.vk c2.ev c2.co c2.rq [⟨YV,.slice (some ⟨h6,0,none⟩) 2 2,[(0,1),(1,1)]⟩] c2.cs):=by
  have G:=hf.st (V.Q Y);refine⟨G.ev,G.co,G.rq,yD.st (w:=ki) ⟨kj.arr (nB _ oa) (n:=1) (cap:=1) (sz:=2) U og (Lx _),λq I=>?_,λq I=>?_⟩ (hs.mono m2),G.cs⟩
  ·rw[Lb.1 I];exact(kh.I hM).arr (nB _ oa) (n:=2) (cap:=2) (sz:=2) U og (Lx _)
  rw[Lb.1 I];exact Xm og
 refine Qe<|x (Qz ⟨U,U,Z⟩)<|x (Qz ⟨U,U,Z⟩)<|Qa<|QB (us:=[QI (0,1),QI (1,1)]) U U og (by exact(by decide:2*2<=1000000)) oC λhA z4 hN z5 ko=>x (Qz ⟨U,U,U,Z⟩) <|
  Qa<|QB (us:=[[.string Qav,.slice (some ⟨hA,0,none⟩) 2 2,oF oG 1]]) U U og (by exact(by decide:1*3<=1000000)) oA λhB kq hO hb32 kr=>?_
 have ht:=hN.D hO;refine Q0 rfl<|Qa<|QA (j:=4) (u:=.slice (some ⟨hB,0,none⟩) 1 1) (((g6.J (ho.any.Q hp) om).J (hr.any.Q hs) om).I ht) U U oe rfl λS hu kt=>xe ?_;have hz17:=hN.size;have hv:O3 [b1,b2,E] h8 S:=ht.any.Q (hu.mono m3);have ku:ZF [b1,b2,E] S.heap (CL.mk c3.ve c3.vc c3.vr c3.vx (.slice (some ⟨hB,0,none⟩) 1 1) c3.ev c3.co c3.rq c3.ex [⟨Qav,.slice (some ⟨hA,0,none⟩) 2 2,[(0,1),(1,1)],1⟩]):=by
  have G:=hg.st ((V.Q Y).Q hv);refine⟨G.ev,G.co,G.rq,G.ex,yz.st (w:=kq) ⟨kr.arr (nB _ oa) (n:=1) (cap:=1) (sz:=3) U og (Lx _),λq I=>?_,λq I=>?_⟩ (hu.mono m3)⟩
  ·rw[Lb.1 I];exact(ko.I hO).arr (nB _ oa) (n:=2) (cap:=2) (sz:=2) U og (Lx _)
  rw[Lb.1 I];exact Xm og
 have hP:ZF [] S.heap _:=((kg.st Y).st hv).up (L':=[]) oe;have kv:ZF [] S.heap _:=(kn.st hv).up (L':=[]) oe;have kw:ZF [] S.heap _:=ku.up (L':=[]) oe;have hQ:=(kf.J (hr.any.Q hs) om).J (ht.any.Q hu) om;have kx:=kk.J (ht.any.Q hu) om;have hR:O3 [] w S:=g7.then ((V.Q Y).Q hv) (λb H=>.inr (ov (J b H).1 ((hG.D h0).D hc).size));have hS:=CL.cel_rq gw (.slice (some ⟨h3,0,none⟩) 1 1) [⟨Ur,⟨.slice (some ⟨hl,0,none⟩) 1 1,.slice (some ⟨hn,0,none⟩) 1 1,nS,QaI.a⟩⟩];have kz:=CL.cel_ex gy (.slice (some ⟨h7,0,none⟩) 1 1) [⟨YV,.slice (some ⟨h6,0,none⟩) 2 2,[(0,1),(1,1)]⟩];have k0:=CL.cel_cs g0 (.slice (some ⟨hB,0,none⟩) 1 1) [⟨Qav,.slice (some ⟨hA,0,none⟩) 2 2,[(0,1),(1,1)],1⟩];refine Qe<|Q2 hQ U U<|Qa<|xf<|(Qc4 (k:=k1C) hP hS QpA (ha.I hR)).mono ?_;rintro r20 k4 ⟨k5,sa,sm,se,s1,s2,s3,s4,rfl,k6,hT⟩;rw[Qpz]at hT;refine Qb<|Q8 U U<|Q8 U U<|Qa<|Qo (us:=QnE) U λb4 w21 k7 k8 k9=>Qa<|Qj (us:=[sa,oF oG (spc k1C).a.st,sm,se,s1,s2,s3,s4]) k9 U U U U k6 λma mf mg=>Qc ?_;have hU:O3 [] k4 ma:=k7.O mf k8;have hw:=k5.D hU;have hV:=hR.D hw;refine Qe<|Q2 (hQ.I hw) U U<|Qa<|xf<|(Qox (k:=k1C) (hP.I hw) hS QpA (by rw[QmR];decide) QnS (ha.I hV)).mono ?_;rintro r23 hW ⟨mh,xa,xm,mj,vb,rfl,hC,hX⟩;rw[QnT]at hX;have mo:QQ [] hW.heap vb [2]:=Qu.ints (L:=[]) hX oe oe;refine Qb<|Q8 U U<|Q8 U U<|Q8 U U<|Qa<|Qo (us:=qa) U λb6 w24 mq ms mt=>Qa<|Qj (us:=[xa,oF oG ((spc k1C).a.st+1),xm,mj]) mt U U U U ⟨hC.1,U,hC.2.1,hC.2.2.1,Z⟩ λmu mv mw=>x Qk<|Qc ?_;have hY:O3 [] hW mu:=mq.O mv ms;have hy:=mh.D hY;have hD:=hw.D hy;have hZ:=hV.D hy;refine Qe<|Q2 (kx.I hD) U U<|Qa<|xf<|(Qc4 (k:=k2C) (kv.I hD) kz QqE (ha.I hZ)).mono ?_;rintro r26 my ⟨mz,ta,tm,te,t1,t2,t3,t4,rfl,m4,ga⟩;rw[Qpx]at ga;refine Qb<|Q8 U U<|Q8 U U<|Qa<|Qo (us:=QnE) U λb9 w27 m5 m6 m7=>Qa<|Qj (us:=[ta,oF oG (spc k2C).a.st,tm,te,t1,t2,t3,t4]) m7 U U U U m4 λm8 m9 pa=>Qc ?_;have gb:O3 [] my m8:=m5.O m9 m6;have T:=mz.D gb;have gc:=hD.D T;have gg:=hZ.D T;refine Qe<|Q2 (kt.I gc) U U<|Qa<|xf<|(Qc4 (k:=k3C) (kw.I gc) k0 QqD (ha.I gg)).mono ?_;rintro r29 pc ⟨pd,ua,um,ue,u1,u2,u3,u4,rfl,pf,gh⟩;rw[Qpv]at gh;refine Qb<|Q8 U U<|Q8 U U<|Qa<|Qo (us:=QnE) U λb11 w30 pg ph pj=>Qa<|Qj (us:=[ua,oF oG (spc k3C).a.st,um,ue,u1,u2,u3,u4]) pj U U U U pf λgi pm pn=>Qc ?_;have gj:O3 [] pc gi:=pg.O pm ph;have O:=pd.D gj;have po:=gg.D O;have pp:=((mg.I hy).I T).I O;have pu:=(mw.I T).I O;have gk:=pa.I O;have pw:=((((hT.I hU).I hy).I T).I O);have pz:=(ga.I gb).I O;have p0:=gh.I gj;have p1:=((mo.I hY).I T).I O;refine Q3 (α:=Unit) [(0,0),(55,105)] (λz=>[(0,.bool true)]) (λz w'=>O3 [] gi w') ol ?_ ?_
 ·refine Qw<|Qb<|xb (Q9 U U) (λgl=>?_) (λgl=>OU U gl);refine Qb<|Qb<|xb (Q9 U U) (λgm=>?_) (λgm=>OU U gm);refine QK U<|Qb<|Qb<|xb (Q9 U U) (λgn=>?_) (λgn=>OU U gn);refine QK U<|Qb<|Qb<|xb (Q9 U U) (λgo=>?_) (λgo=>OU U go);refine QK U<|Qb<|Qs U pp U U<|x (Qz ⟨U,U,U,U,Z⟩)<|Qa<|QB (us:=[ZT ⟨1,3,0,1⟩]) U U og (by exact(by decide:1*4<=1000000)) oA λb73 w32 gp hb73 p2 =>
   Qa<|xf<|(qi (l:=[⟨1,3,0,1⟩]) (pw.I gp) (p2.arr (L:=[]) oe (n:=1) (cap:=1) (sz:=4) rfl og (Lx _))).mono ?_
  rintro r74 w33 ⟨rfl,p3⟩;have hE:=gp.D p3;refine QK U<|Qb<|Qs U (pu.I hE) U U<|xb (Q9 U U) (λgq=>?_) (λgq=>Qp1 (by rw[QmR];rfl) gq);refine QK U<|Qb<|Qb<|Qa<|QB (us:=[[oF oG 2]]) U U og oe ⟨rfl,rfl,Z⟩ λb83 w34 gr hb83 p4 =>
   Qa<|xf<|(Jt (l:=[2]) (l':=[2]) ((p1.I hE).I gr) (p4.arr (L:=[]) oe (n:=1) (cap:=1) (sz:=1) rfl oa (Lx _))).mono ?_
  rintro r84 w35 ⟨gs,p5⟩;rw[OV rfl]at gs;subst gs;have hz:=hE.D (gr.D p5);refine QK U<|Qb<|Q0 U<|Qs U (gk.I hz) U U<|xb (Q9 U U) (λgt=>?_) (λgt=>Qp1 Qpw gt);refine QK U<|Qb<|Qs U (gk.I hz) U U<|x (Qz ⟨U,U,U,U,Z⟩)<|Qa<|QB (us:=[ZT ⟨3,1,0,-1⟩]) U U og (by exact(by decide:1*4<=1000000)) oA λb96 w36 gu hb96 p6 =>
   Qa<|xf<|(qi (l:=[⟨3,1,0,-1⟩]) ((pz.I hz).I gu) (p6.arr (L:=[]) oe (n:=1) (cap:=1) (sz:=4) rfl og (Lx _))).mono ?_
  rintro r97 w37 ⟨rfl,p7⟩;have hF:=hz.D (gu.D p7);refine QK U<|Qb<|Qs U (pn.I hF) U U<|x (Qz ⟨U,U,U,U,Z⟩)<|Qa<|QB (us:=[ZT ⟨3,2,0,-1⟩]) U U og (by exact(by decide:1*4<=1000000)) oA λb103 w38 gv hb103 p8 =>
   Qa<|xf<|(qi (l:=[⟨3,2,0,-1⟩]) ((p0.I hF).I gv) (p8.arr (L:=[]) oe (n:=1) (cap:=1) (sz:=4) rfl og (Lx _))).mono ?_
  rintro r104 w39 ⟨rfl,p9⟩;refine QK U<|Qc ?_;exact⟨(),La,hF.D (gv.D p9)⟩
 rintro z g w40 qc;exact Ql ⟨[.bool true],La,U,po.D qc⟩
section
variable {s:Zd}{l:List Ug}
end
section
variable {s:Zd}{l:List Ug}
end
def xK (n:Nat)(d:LI):Prop:=∀x,x<n->0<=O4 d x->O4 d x<=x/\O4 d (O4 d x).toNat=O4 d x
section
variable {s:Zd}{l:List Ug}
end
section
variable {p s:Zd}{pairs:List (LI)}
end
section
variable {s:Zd}{l:List Ug}
end
section
variable {s:Zd}{l:List Ug}{nm:LI}
end
section
variable {s:Zd}{l:List Ug}
end
theorem QdZ (E:Kb w 4096):Q5 prog 12 [] w λr w'=>r=.bool true/\O3 [] w w':=by
 refine Zs func12 ntmps12 results12 ?_;refine Qe<|Qc<|Q3 (α:=Unit) [(0,4)] (λz=>[(0,.bool true)]) (λz w'=>O3 [] w w') ol ?_ ?_
 ·refine Qw<|Qa<|xf<|(Qdl E).mono ?_;rintro O G ⟨rfl,H⟩;refine Qb<|Qa<|xf<|(QgN G).mono ?_;rintro r2 S ⟨rfl,I⟩;refine QK U<|Qc ?_;exact⟨(),La,H.D I⟩
 rintro z g T J;exact Ql ⟨[.bool true],La,U,J⟩
def YU:ByteArray:=⟨#[98,117,102,102,101,114]⟩
def Uy:XG:=⟨YU,⟨[1,2],2,[0,1],[(0,1,1),(1,2,0)]⟩⟩
def QaE:ZG:={ mzC 3 with rq:=[Uy],ex:=[Qi3 1 2] }
theorem QnR:Zm QaE=0:=od
open Go.ChangeShapes Go.WideShapes Go.RowKit
section
variable {H:Type}{enc:TypeId×O0->H}
theorem jQ (hl:laidOutB P=true){W W':OZ}(G:O3 [] W W'){sp:Nat->Bool}:∀{ts:List TypeId}{vs:LV}{ds:List (DataW H)}{ps:List MemPlace},
  (ts.all λt=>P.readableRec t && decide (t<P.types.size))=true->DataW.TrodAll enc P W 0 (λ_=>true) true ts vs ds ps->(∀x∈ps,x.block<W.heap.size)->(∀x∈ps,sp x.block=true)->DataW.TrodAll enc P W' 0 sp true ts vs ds ps
 | [],vs,ds,ps,_,h,_,_=>by
  obtain⟨rfl,rfl,rfl⟩:=trodAll_nil h;exact trodAll_mk0
 | t::ts,vs,ds,ps,E,h,I,hsp=>by
  obtain⟨v,T,d,ds1,a,b,rfl,rfl,rfl,J,O⟩:=trodAll_cons h;simp only[oR,oL,decide_eq_true_eq]at E;have S:Below W.heap.size W W':=G.below;refine trodAll_cons_mk (WideElems.Trod_stays hl E.1.1 E.1.2 J (λx hx=>S.same (I x (Mr _ hx))) (λx hx=>hsp x (Mr _ hx))) ?_;exact jQ hl G (oz E.2) O (λx hx=>I x (Ns _ hx)) (λx hx=>hsp x (Ns _ hx))
theorem Qip {f:Func}{s:ChangeSpec}{apart fresh handsOn again:Bool}{W:OZ}{args:Array O0}{ds gs:List (DataW H)}{before:List MemPlace}{tb:TypeId}
  (hl:laidOutB P=true) (hf:(f.params.toList.all λt=>P.readableRec t && decide (t<P.types.size))=true) (J:f.resultTypes=#[tb]) (O:P.underlying tb=some .bool) (S:s.vars=[])
  (E:s.fn H (ds++gs)={ results:=[.lit (.bool true)],args:=ds })
  (G:DataW.Whole enc P f.params.toList s.vars apart W args.toList ds gs before) (T:O3 [] W W'):s.post enc P f apart fresh handsOn again W args (.bool true) W':=by
 have I:=G.lt;have hg:=G;obtain⟨p,q,hA,hV,rfl,hz,hn⟩:=G;rw[S]at hV;obtain⟨rfl,rfl⟩:=trodVars_none hV;rw[LS]at *;have V:∀sp:Nat->Bool,(∀x∈p,sp x.block=true)->DataW.TrodAll enc P W' 0 sp true f.params.toList args.toList ds p:=λsp hsp=>jQ hl T hf hA I hsp;have Y:∀(b:Nat) (sp:Nat->Bool) (hd:Bool),DataW.TrodAll enc P W' b sp hd f.resultTypes.toList ((Value.bool true).resultList f.resultTypes.size) [.lit (.bool true)] []:=λb sp hd=>by
  rw[J];exact trodAll_mk1 (shut_bool O true)
 have hb:Below W.heap.size W W':=T.below;have hc:∀sp:Nat->Bool,DataW.TrodVars enc P W' sp s.vars ([]:List (DataW H)) []:=λsp=>by rw[S];rfl
 have hh:(s.fn H ds).results=[.lit (.bool true)]:=by rw[E]
 have hi:(s.fn H ds).args=ds:=by rw[E]
 have hj:(s.fn H ds).vars=[]:=by rw[E]
 have hk:∀(j:Nat) (t:TypeId) (r:O0),f.resultTypes[j]?=some t->((Value.bool true).resultList f.resultTypes.size)[j]?=some r->Value.okWide P W' .any 0 t r:=ok_one J U (okWide_bool_mk O true);refine⟨ds,[],p,[],p,[],hg,?_,?_,?_,?_,λ_=>⟨hk,[.lit (.bool true)]++ds,[],([]++p)++[],⟨[]++p,[],?_,?_,U,?_,?_⟩,?_⟩⟩
 ·rw[LS,hh];exact Y _ _ _
 ·rw[LS,hi];exact V _ (λx hx=>oz (I x hx))
 ·rw[LS,hj];exact hc _
 ·exact World.keptBut_mono (λ_ f=>f.elim) (hb.frame (λ_=>False))
 ·exact trodAll_append (V _ (λ_ _=>U)) (Y _ _ _)
 ·exact hc _
 ·intro b off hp;have he:MemPlace.cell b off∈p:=by simpa using hp
  rw[hb.frozen (p:=⟨b,off,none⟩) (I _ he)];exact hz b off he
 ·intro ha;have:=hn ha;simpa using this
 intro x hx _;simpa using hx
end
open Go.ChangeShapes Go.WideShapes Go.RowKit Go.Lg
theorem QdL:∀(l:LV),(∀v∈l,∃n:Nat,v=.int .u8 (n:Int)/\n<256)->∃ns:LN,l=bys ns/\ns.length=l.length/\∀n∈ns,n<256
 | [],_=>⟨[],U,U,oe⟩
 | v::l,h=>by
  obtain⟨n,rfl,G⟩:=h v Lt;obtain⟨ns,H,I,J⟩:=QdL l (λv O=>h v (Lk _ O));refine⟨n::ns,by rw[H];rfl,by simp[I],λm E=>?_⟩;rcases Li.1 E with rfl|E
  ·exact G
  exact J m E
theorem Qm8 {n:Int}(h:(Lit.int .u8 n).wf=true):∃m:Nat,n=m/\m<256:=by
 simp only[Lit.wf,oL,decide_eq_true_eq]at h;rw[show IntKind.u8.min=0 from rfl,show IntKind.u8.max=255 from rfl]at h;exact⟨n.toNat,oa,oa⟩
theorem Qnj {s:TypeId×Nat}(h:w.shape? b=some s):b<w.heap.size:=by
 unfold World.shape? at h;cases E:w.heap[b]? with
 | none=>simp[E]at h
 | some o=>exact(LH.1 E).1
theorem QlH {base:Nat}{a:Addr}{e:TypeId}(h:w.has P .any base a e n):a.block<w.heap.size:=by
 obtain⟨_,_,row,cells,E,_⟩:=h;exact Qnj E
theorem QkO {base:Nat}{t e:TypeId}{a:Addr}{c:Nat}(E:P.underlying t=some (.slice e))(h:Cell.okWide P w .any base t (.slice (some a) n c)):a.block<w.heap.size:=by
 simp only[Cell.okWide,Cell.ok,E]at h;exact QlH h.2.2
theorem Qim {α:Type}{p:Nat->α->Prop}:∀(n:Nat),(∀i,i<n->∃e,p i e)->∃l:List α,l.length=n/\∀i (h:i<l.length),p i (l[i]'h)
 | 0,_=>⟨[],U,λi h=>by simp at h⟩
 | n+1,h=>by
  obtain⟨l,E,I⟩:=Qim n (λi hi=>h i oa);obtain⟨e,J⟩:=h n oa;refine⟨l++[e],by simp[E],λi hi=>?_⟩;by_cases G:i<l.length
  ·rw[MC G];exact I i G
  have:i=n:=by simp at hi;omega
  subst this;rw[M5 oa];simpa[E]using J
theorem zR {α:Type}{f:α->Option O0}:∀{L:List α}{l:LV},L.mapM f=some l->l.length=L.length/\∀(i:Nat) (a:α),L[i]?=some a->f a=l[i]?
 | [],l,h=>by
  simp at h;subst h;exact⟨U,λi a h=>by simp at h⟩
 | x::L,l,h=>by
  simp only[List.mapM_cons,Option.bind_eq_bind,Option.pure_def,Option.bind_eq_some_iff]at h;obtain⟨v,E,S,G,I⟩:=h;cases I
  obtain⟨J,O⟩:=zR G;refine⟨by simp[J],λi a hi=>?_⟩;cases i with
  | zero=>simp at hi;subst hi;simpa using E
  | succ i=>simpa using O i a (oz hi)
def kT (P:O2)(k:IntKind):Nat->TypeId->Bool
 | 0,_=>false
 | m+1,t=>match P.underlying t with
  | some (.int k')=>k' == k
  | some (.array n e)=>kT P k m e && decide (0<P.cellsOf e) && decide (P.cellsOf t=n*P.cellsOf e)
  | some (.struct fs)=>(oT (P.cellsOf t)).all λj=>fs.toList.any λf=>kT P k m f.type && decide (f.offset<=j/\j<f.offset+P.cellsOf f.type)
  | _=>false
theorem QaS {c:O0}(h:cs[j]?=some c)(E:o<=j)(G:j<o+n):c∈(cs.drop o).take n:=by
 refine Mq (i:=j - o) ?_;rw[LT,OS oa,MA,show o+(j - o)=j by omega];exact h
section
variable {H:Type}{enc:TypeId×O0->H}{W:OZ}{base b0:Nat}{sp:Nat->Bool}{held:Bool}
theorem Uw {k:IntKind}:∀(m:Nat) {t:TypeId}{cs:LV}{fuel:Nat}{x:DataW H×List MemPlace},kT P k m t=true->DataW.trod enc P W b0 sp held fuel t cs=some x->∀c∈cs,∃n,c=.int k n/\(Lit.int k n).wf=true
 | 0,_,_,_,_,h,_,_,_=>by cases h
 | m+1,t,cs,fuel,x,h,O,c,S=>by
  unfold kT at h;obtain⟨j,V,Y⟩:=LO S;have T:cs[j]?=some c:=by rw[LF V,Y]
  split at h
  ·rename_i k' G;have hk:k'=k:=by simpa using h
   subst hk;obtain⟨n,I,_,E⟩:=DataW.trod_int G O;rw[I]at S;exact⟨n,Lb.1 S,E⟩
  ·rename_i n e G;simp only[oL,decide_eq_true_eq]at h;obtain⟨⟨I,E⟩,h3⟩:=h;obtain⟨xs,m',_,_,hl,ha,hx⟩:=DataW.trod_array G O;have hb:=Nat.div_add_mod j (P.cellsOf e);have hn:=OO j E;have hi:j / P.cellsOf e<n:=by
    refine(Nat.div_lt_iff_lt_mul E).2 ?_;omega
   have J:=hx (j / P.cellsOf e) hi;rw[LF (show j / P.cellsOf e<xs.length by omega)]at J;rw[Nat.mul_comm]at hb;exact Uw m I J c (QaS T oa oa)
  ·rename_i fs G;obtain⟨xs,m',_,_,hl,ha,hx⟩:=DataW.trod_struct G O;have I:=Md.1 h j (Np.2 oa);obtain⟨f,he,E⟩:=Nm.1 I;simp only[oL,decide_eq_true_eq]at E;obtain⟨i,hi,hg⟩:=LO he;have hh:i<fs.size:=by simpa using hi
   have hm:fs[i]?=some f:=by rw[Mw hh,<-hg];simp
   have J:=hx i f hm;rw[LF (show i<xs.length by omega)]at J;exact Uw m E.1 J c (QaS T E.2.1 E.2.2)
  cases h
theorem UD {k:IntKind}{m:Nat}{fs:Array Field}{xs:List (DataW H×List MemPlace)}{I:Nat}(V:xs.length=fs.size)
  (hx:∀(i:Nat) (f:Field),fs[i]?=some f->DataW.trod enc P W b0 sp held I f.type ((cs.drop f.offset).take (P.cellsOf f.type))=xs[i]?)  {f:Field} {c:O0} (E:fs[i]?=some f) (J:kT P k m f.type=true) (O:f.offset<=j) (S:j<f.offset+P.cellsOf f.type) (T:cs[j]?=some c):
  ∃n,c=.int k n/\(Lit.int k n).wf=true:=by
 have G:=hx i f E;have hi:i<fs.size:=(LH.1 E).1;rw[LF (show i<xs.length by omega)]at G;exact Uw m J G c (QaS T O S)
theorem Qhe {c:O0}(h:∃n,c=.int .u8 n/\(Lit.int .u8 n).wf=true):∃n:Nat,c=.int .u8 (n:Int)/\n<256:=by
 obtain⟨n,rfl,E⟩:=h;obtain⟨m,rfl,G⟩:=Qm8 E;exact⟨m,U,G⟩
end
theorem Qpn {W:OZ}{base:Nat}{ts:List TypeId}{cs:Array O0}(h:∀(i:Nat) (v:O0),cs[i]?=some v->∃u,ts[i % ts.length]?=some u/\Cell.okWide P W .any base u v)(i:Nat)(t:TypeId)(v:O0)(G:cs[i]?=some v)(I:ts[i % ts.length]?=some t):Cell.okWide P W .any base t v:=by
 obtain⟨u,E,k⟩:=h i v G;rw[I]at E;cases E
 exact k
theorem Qob {H:Type}{enc:TypeId×O0->H}{W:OZ}{b0 m:Nat}{sp:Nat->Bool}{held:Bool}{fs:Array Field}{xs:List (DataW H×List MemPlace)}
  (h:∀(i:Nat) (f:Field),fs[i]?=some f->DataW.trod enc P W b0 sp held m f.type ((cs.drop f.offset).take (P.cellsOf f.type))=xs[i]?) (i:Nat) {f:Field}  {c:O0} (E:fs[i]?=some f) (G:f.type=t) (I:f.offset=o) (J:P.cellsOf t=1) (O:(cs.drop o).take 1=[c]) (hi:i<xs.length):
  DataW.trod enc P W b0 sp held m t [c]=some (xs[i]'hi):=by
 have e:=h i f E;rw[G,I,J,O]at e;rw[e];simp[hi]
theorem Qo7 {W:OZ}{l:List (String×DataW Unit)}{a b:String×DataW Unit}(hl:l=[a,b,("internal/strconv.uint64pow10",Lib.tabData .u64 Lib.pow10Tab)]) (h:laidMetH prog l W) (E:(l.all λx=>x.2.handleName?.isNone)=true):Tb W:=by
 rw[Go.MakeChecks.laidMetH_plain _ _ _ E,hl]at h;exact Lib.tabIs_of_head (n:=20) (g:=0) od (t:=454) od od (e:=300) od od od h.tail.tail
structure PwV where
 ns:LN
 ad:Option Addr
 n:Nat
 cp:Nat
 f0:Int
 f1:Int
 f2:Int
 bd:Int
def PwV.pl (l:PwV)(rs:List X4V):PlV:=⟨l.ns,.slice l.ad l.n l.cp,rs,l.f0,l.f1,l.f2,l.bd⟩
abbrev XY (l:PwV):LV:=bys l.ns++[.slice l.ad l.n l.cp,.int .i8 l.f0,.int .i8 l.f1,.int .i8 l.f2,.int .i8 l.bd]
structure PwA (w:OZ)(l:PwV):Prop where
 n:l.ns.length=147
 b:∀n∈l.ns,n<256
 f0:i8R l.f0
 f1:i8R l.f1
 f2:i8R l.f2
 bd:i8R l.bd
 r:l.n<=4->∃rs:List X4V,rs.length=l.n/\Zv [] w.heap (.slice l.ad l.n l.cp) l.n 4 (rs.flatMap Xf)
theorem PwA.pl {w w':OZ}{l:PwV}(h:PwA w l)(G:O3 [] w w')(I:l.n<=4):∃rs,PlA [] w'.heap (l.pl rs)/\rs.length=l.n:=by
 obtain⟨rs,E,J⟩:=h.r I;exact⟨rs,⟨h.n,h.b,by show Zv _ _ _ rs.length 4 _;rw[E];exact J.I G,h.f0,h.f1,h.f2,h.bd⟩,E⟩
theorem Qpg {l:PwV}(h:l.ns.length=147):(XY l)[147]?=some (.slice l.ad l.n l.cp):=by
 show(XY l)[147+0]?=_;rw[XY,MG (by rw[XB];omega),XB,h,MF];rfl
theorem QeP {c:O0}(h:∃n,c=.int .i8 n/\(Lit.int .i8 n).wf=true):∃n:Int,c=.int .i8 n/\i8R n:=by
 obtain⟨n,rfl,h⟩:=h;simp only[Lit.wf,oL,decide_eq_true_eq]at h;rw[show IntKind.i8.min=-128 from rfl,show IntKind.i8.max=127 from rfl]at h;exact⟨n,U,oa⟩
def QmX (P:O2)(fs:Array Field)(n:Nat):Bool:=(oT n).all λj=>fs.toList.any λf=>kT P .u8 5 f.type && decide (f.offset<=j/\j<f.offset+P.cellsOf f.type)
section
variable {H:Type}{enc:TypeId×O0->H}{W:OZ}{base b0:Nat}{sp:Nat->Bool}{held:Bool}
theorem QjL {fs:Array Field}{m:Nat}{xs:List (DataW H×List MemPlace)}(h:QmX P fs n=true)(G:xs.length=fs.size)
  (hx:∀(i:Nat) (f:Field),fs[i]?=some f->DataW.trod enc P W b0 sp held m f.type ((cs.drop f.offset).take (P.cellsOf f.type))=xs[i]?)  {c:O0} (I:j<n) (J:cs[j]?=some c):∃k:Nat,c=.int .u8 (k:Int)/\k<256:=by
 have O:=Md.1 h j (Np.2 I);obtain⟨f,S,E⟩:=Nm.1 O;simp only[oL,decide_eq_true_eq]at E;obtain⟨i,hi,T⟩:=LO S;have V:i<fs.size:=by simpa using hi
 have Y:fs[i]?=some f:=by rw[Mw V,<-T];simp
 exact Qhe (UD G hx Y E.1 E.2.1 E.2.2 J)
theorem QpZ {t e:TypeId}{c:O0}{fuel:Nat}{x:DataW H×List MemPlace}(J:P.underlying t=some (.slice e))(he:kT P .u8 5 e=true)(hc:P.cellsOf e=4)
  (hb:Cell.okWide P W .any base t c) (hf:DataW.trod enc P W b0 sp held fuel t [c]=some x):∃a n cp,c=.slice a n cp/\(n<=12->∃u:List X4V,u.length=n/\Zv [] W.heap (.slice a n cp) n 4 (u.flatMap Xf)):=by
 rcases DataW.trod_slice J hf with⟨E,_⟩|⟨a,len,cap,elems,rest,m,_,E,_,_,hl,_,ho,hg,_,_⟩
 ·simp at E;subst E;exact⟨none,0,0,U,λ_=>⟨[],U,Zv.nil _ _ _⟩⟩
 simp at E;subst E;refine⟨some a,len,cap,U,λhp=>?_⟩;have each:∀i,i<len->∃d:X4V,∀r v,(Xf d)[r]?=some v->W.cell? (a.add (i*4+r))=some v:=by
  intro i hi;have O:=hg i hi;rw[hc,LF (show i<elems.length by omega)]at O;obtain⟨cs,E,hh⟩:=MP.1 O;have hk:=Uw 5 he hh;obtain⟨ns,h1,h2,I⟩:=QdL cs (λv G=>Qhe (hk v G));unfold World.cells? at E;split at E
  ·have hq:cs.length=4:=by
    simpa using(zR E).1
   refine⟨⟨ns,oa,I⟩,λr v G=>?_⟩;have S:cs[r]?=some v:=by rw[h1];exact G
   have hm:r<4:=by have:=(L7.1 S).1;omega
   have T:=(zR E).2 r r (by simp[hm]);rw[Lg.Addr.add_add,S]at T;exact T
  cases E
 obtain⟨u,V,hu⟩:=Qim len each;refine⟨u,V,?_⟩;have Y:(u.flatMap Xf).length=u.length*4:=Go.Lg.YZ Xf 4 zt u;refine⟨by rw[Y,V],oa,.inr ⟨a,cap,rfl,oa,λ_ _=>oe,λ_ _=>QkO J hb,λj v G=>?_⟩⟩;have hj:j<u.length*4:=by
  rw[<-Y];exact(L7.1 G).1
 have hi:j / 4<u.length:=oa
 have hn:=Xx Xf 4 zt u (j / 4) hi;have ha:j=j / 4*4+j % 4:=oa
 have I:(Xf (u[j / 4]'hi))[j % 4]?=some v:=by
  rw[<-hn,LT,OS (OO _ oa),MA,<-ha];exact G
 rw[<-Kh];have:=hu (j / 4) hi (j % 4) v I;rw[<-ha]at this;exact this
theorem QgE {v:O0}{d:DataW H}{ps:List MemPlace}{tp te:Nat}{fs:Array Field}{f7 f8 f9:Field}(T:P.underlying t=some (.struct fs))(V:(P.cellTypes P.depth t).map (λts=>(ts.length,ts[147]?))=some (152,some tp))(hc:P.cellsOf t=152)
  (Y:fs[7]?=some f7) (J:fs[8]?=some f8) (g9:fs[9]?=some f9) (hi:f7.type=tp) (o7:f7.offset=147) (o8:f8.offset=148) (o9:f9.offset=151) (c7:P.cellsOf tp=1) (c8:P.cellsOf f8.type=3) (c9:P.cellsOf f9.type=1)
  (kb:QmX P fs 147=true) (O:kT P .i8 5 f8.type=true) (k9:kT P .i8 5 f9.type=true) (hk:P.underlying tp=some (.slice te)) (hn:kT P .u8 5 te=true) (ho:P.cellsOf te=4)
  (ha:Value.okWide P W .any base t v) (h:DataW.Trod enc P W b0 sp held t v d ps):∃l:PwV,v=.agg (XY l).toArray/\PwA W l:=by
 simp only[Value.okWide,T]at ha;obtain⟨cs,rfl,hb,ts,hp,_,hq⟩:=ha;rw[hp]at V;have he:=Option.some.inj V;have hr:ts.length=152:=OT Prod.fst he;have hs:ts[147]?=some tp:=OT Prod.snd he;rw[hc]at hb;obtain⟨l⟩:=cs;have hl:l.length=152:=hb;obtain⟨fuel,hf⟩:=h;obtain⟨xs,m,_,_,_,G,ht⟩:=DataW.trod_struct T hf;have E:∀(i:Nat) (f:Field),fs[i]?=some f->DataW.trod enc P W b0 sp held m f.type ((l.drop f.offset).take (P.cellsOf f.type))=xs[i]?:=ht;have hz:7<fs.size:=(LH.1 Y).1;have g0:∀c∈l.take 147,∃n:Nat,c=.int .u8 (n:Int)/\n<256:=λc hm=>by
  obtain⟨j,hj,hg⟩:=LO hm;have hv:j<147:=by simp at hj;omega
  have hw:l[j]?=some c:=by
   rw[Nd]at hg;rw[LF oa,hg]
  exact QjL kb G E hv hw
 obtain⟨ns,e1,e2,e3⟩:=QdL _ g0;have hy:ns.length=147:=by rw[e2];simp;omega
 have I:∀j,j<152->∃c,l[j]?=some c:=λj hj=>⟨l[j]'oa,LF oa⟩;obtain⟨S,q1⟩:=I 147 oa;obtain⟨x2,q2⟩:=I 148 oa;obtain⟨x3,q3⟩:=I 149 oa;obtain⟨x4,q4⟩:=I 150 oa;obtain⟨x5,q5⟩:=I 151 oa;have hh:l.drop 147=[S,x2,x3,x4,x5]:=by
  apply M0;intro i;rw[MA]
  match i with
  | 0=>exact q1
  | 1=>exact q2
  | 2=>exact q3
  | 3=>exact q4
  | 4=>exact q5
  | i+5=>rw[ML oa];rfl
 obtain⟨y2,rfl,z2⟩:=QeP (UD G E J O oa oa q2);obtain⟨y3,rfl,z3⟩:=QeP (UD G E J O oa oa q3);obtain⟨y4,rfl,z4⟩:=QeP (UD G E J O oa oa q4);obtain⟨y5,rfl,z5⟩:=QeP (UD G E g9 k9 oa oa q5);have w7:=Qpn hq 147 tp S (oz q1) (by rw[hr];exact hs);have t7:=Qob (c:=S) E 7 Y hi o7 c7 (by rw[hh];rfl) oa;obtain⟨a,n,cp,rfl,hP⟩:=QpZ hk hn ho w7 t7;refine⟨⟨ns,a,n,cp,y2,y3,y4,y5⟩,?_,hy,e3,z2,z3,z4,z5,λh3=>hP (by have h4:n<=4:=h3;omega)⟩;show Value.agg l.toArray=.agg (bys ns++_).toArray;rw[<-e1,<-hh,MB]
end
theorem Qp0 {H:Type}{enc:TypeId×O0->H}{W:OZ}{base b0:Nat}{sp:Nat->Bool}{held:Bool}{v:O0}{d:DataW H}{ps:List MemPlace}(E:Value.okWide prog W .any base 36 v)(h:DataW.Trod enc prog W b0 sp held 36 v d ps):
  ∃l:PwV,v=.agg (XY l).toArray/\PwA W l :=
 QgE underlying36 (tp:=32) od od U U U U U U U od od od od od od underlying32 od od E h
theorem Qj2 {l:PwV}(h:PwA w l):Q5 prog 5 [.agg (XY l).toArray] w λr w'=>r=.bool (decide (l.n<=4))/\O3 [] w w':=by
 have E:=Qpg h.n;refine Zs func5 ntmps5 results5 ?_;refine Qe<|Qa<|QS (us:=XY l) U λb1 I G J H=>Qc<|Qe<|Qs U H U E<|x (Uo U)<|x (KL U U)<|Qc<|Ql ⟨[_],La,?_,G⟩;exact OT Value.bool (decide_eq_decide.2 oa)
section
variable {P:LI->Prop}
end
abbrev mB (c:ZG)(m:UU):Zd:=(spc (X8 c m)).a
abbrev mL (c:ZG)(m:UU):Lf:=Qal (mB c m) (fbs (spc (X8 c m))) (unc c.ev)
section
variable (h:D25 c)
abbrev suL (c:ZG):Lf:=Qal (spc c).a (fbs (spc c)) (unc c.ev)
end
abbrev KR (c:ZG):LI×LI×List Q4:=(kpK (suL c) (spc c).a.st.toNat,kpD (suL c) (dsts (spc c).a (suL c)) (spc c).a.st.toNat,rmS (spc c).a (fbs (spc c)) (unc c.ev))
theorem Qfr {b:Zd}:a=b↔(a.al=b.al/\a.st=b.st/\a.mr=b.mr/\a.ed=b.ed):=⟨λh=>by subst h;exact⟨U,U,U,U⟩,λh=>by cases a;cases b;simp_all⟩
theorem QeW {a b:JY}:a=b↔(a.nm=b.nm/\a.co=b.co/\a.ob=b.ob/\a.fo=b.fo/\a.fl=b.fl):=⟨λh=>by subst h;exact⟨U,U,U,U,U⟩,λh=>by cases a;cases b;simp_all⟩
theorem QeN {a b:XG}:a=b↔(a.nm=b.nm/\a.a=b.a):=⟨λh=>by subst h;exact⟨U,U⟩,λh=>by cases a;cases b;simp_all⟩
theorem zn {a b:qz}:a=b↔(a.nm=b.nm/\a.ls=b.ls):=⟨λh=>by subst h;exact⟨U,U⟩,λh=>by cases a;cases b;simp_all⟩
theorem UI {a b:xI}:a=b↔(a.nm=b.nm/\a.ts=b.ts/\a.bd=b.bd):=⟨λh=>by subst h;exact⟨U,U,U⟩,λh=>by cases a;cases b;simp_all⟩
theorem Qfj {a b:ZG}:a=b↔(a.ev=b.ev/\a.co=b.co/\a.rq=b.rq/\a.ex=b.ex/\a.cs=b.cs):=⟨λh=>by subst h;exact⟨U,U,U,U,U⟩,λh=>by cases a;cases b;simp_all⟩
instance:DecidableEq Zd:=λ_ _=>decidable_of_iff _ Qfr.symm
instance:DecidableEq JY:=λ_ _=>decidable_of_iff _ QeW.symm
instance:DecidableEq XG:=λ_ _=>decidable_of_iff _ QeN.symm
instance:DecidableEq qz:=λ_ _=>decidable_of_iff _ zn.symm
instance:DecidableEq xI:=λ_ _=>decidable_of_iff _ UI.symm
instance:DecidableEq ZG:=λ_ _=>decidable_of_iff _ Qfj.symm
abbrev Ky:=Int×ByteArray
structure xH where
 ky:Ky
 vr:Int
 sp:Zd
 kp:LI
 ds:LI
 rm:List Q4
 c:ZG
structure Rp where
 kept:List Ky
 made:List Ky
 gone:List Ky
def ZM (c:ZG)(m:UU):Ky:=(m.kd,if m.kd=1 then(c.rq.getD m.ix.toNat ⟨.empty,Uf⟩).nm else if m.kd=2 then(c.ex.getD m.ix.toNat ⟨.empty,[]⟩).nm else(c.cs.getD m.ix.toNat ⟨.empty,[],0⟩).nm)
def KM (c:ZG)(v:Int)(m:UU):xH:=⟨ZM c m,v,suA (X8 c m),(KR (X8 c m)).1,(KR (X8 c m)).2.1,(KR (X8 c m)).2.2,X8 c m⟩
def Ks (l:List xH)(k:Ky):Option xH:=l.find? λp=>decide (p.ky=k)
def Kj (c:ZG)(bf:List xH)(v:Int)(m:UU):Int×xH×Bool :=
 if zi c m≠0 then(zi c m,KM c v m,false)else match Ks bf (ZM c m)with
 | some p=>if p.c=X8 c m then(0,p,true)else(YN (X8 c m),KM c v m,false)
 | none=>(YN (X8 c m),KM c v m,false)
def blL (c:ZG)(bf:List xH)(v:Int):List UU->List xH->List Ky->List Ky->Int×List xH×List Ky×List Ky
 | [],o,k,n=>(0,o,k,n)
 | m::l,o,k,n=>if(Kj c bf v m).1≠0 then((Kj c bf v m).1,[],[],[])else
  if(Kj c bf v m).2.2=true then blL c bf v l (o++[(Kj c bf v m).2.1]) (k++[ZM c m]) n else blL c bf v l (o++[(Kj c bf v m).2.1]) k (n++[ZM c m])
def Ki (c:ZG)(bf:List xH)(v:Int):=blL c bf v (O7 c) [] [] []
def X9 (c:ZG)(bf:List xH)(v:Int):Int:=if Zm c≠0 then Zm c else(Ki c bf v).1
def UP (c:ZG)(bf:List xH)(v:Int):List xH:=(Ki c bf v).2.1
def QqR (c:ZG)(bf:List xH):List Ky:=(bf.filter λp=>decide (p.ky∉(O7 c).map (ZM c))).map (·.ky)
def Xs (c:ZG)(bf:List xH)(v:Int):Rp:=⟨(Ki c bf v).2.2.1,(Ki c bf v).2.2.2,QqR c bf⟩
structure Sys where
 c:ZG
 ps:List xH
 made:Int
 rs:List Rp
 un:List (ZG×List xH)
def K6 (c:ZG):Int:=if(YK c).1≠0 then(YK c).1 else if Zm c≠0 then Zm c else X9 c [] 0
def Qdf (c:ZG):Sys:=⟨c,UP c [] 0,((Xs c [] 0).made.length:Int),[],[]⟩
def edI (c:ZG)(es:List (Bool×Ys)):Int×List Ys:=if(YK c).1≠0 then((YK c).1,[])else yM (YK c).2 es
def qF (c:ZG)(es:List (Bool×Ys)):Int×ZG:=if(edI c es).1≠0 then((edI c es).1,UL)else if(VF c.ev (edI c es).2).1≠0 then((VF c.ev (edI c es).2).1,UL)else if Zm (VF c.ev (edI c es).2).2≠0 then(Zm (VF c.ev (edI c es).2).2,UL)else(0,(VF c.ev (edI c es).2).2)
def edE (s:Sys)(es:List (Bool×Ys)):Int:=if es.length=0 then 12 else if s.un.length=64 then 3 else if(qF s.c es).1≠0 then(qF s.c es).1 else X9 (qF s.c es).2 s.ps ((s.un.length:Int)+1)
def edS (s:Sys)(es:List (Bool×Ys)):Sys:=⟨(qF s.c es).2,UP (qF s.c es).2 s.ps ((s.un.length:Int)+1),s.made+((Xs (qF s.c es).2 s.ps ((s.un.length:Int)+1)).made.length:Int),s.rs++[Xs (qF s.c es).2 s.ps ((s.un.length:Int)+1)],s.un++[(s.c,s.ps)]⟩
def unS (s:Sys):Sys:=⟨(s.un.getLastD (s.c,s.ps)).1,(s.un.getLastD (s.c,s.ps)).2,s.made,s.rs.dropLast,s.un.dropLast⟩
abbrev Xa (k:Ky):LV:=[oF oG k.1,.string k.2]
theorem QlR (a b:JY):Kz (Zu a) (Zu b)=decide (a=b):=by
 rw[Bool.eq_iff_iff];simp only[Kz,eqV,oL,beq_iff_eq,decide_eq_true_eq,QeW,and_true]
theorem QhZ (a b:Int×Int):Kz (QI a) (QI b)=decide (a=b):=by
 rw[Bool.eq_iff_iff];simp only[Kz,eqV,oL,beq_iff_eq,decide_eq_true_eq,Prod.ext_iff,and_true]
theorem Qns (a b:Q4):Kz (q4C a) (q4C b)=decide (a=b):=by
 rw[Bool.eq_iff_iff];simp only[Kz,eqV,oL,beq_iff_eq,decide_eq_true_eq,Prod.ext_iff,and_true]
theorem QaB (a b:Ky):Kz (Xa a) (Xa b)=decide (a=b):=by
 rw[Bool.eq_iff_iff];simp only[Kz,eqV,oL,beq_iff_eq,decide_eq_true_eq,Prod.ext_iff,and_true]
instance skEvt:Sk prog 146 [1,2,2,2,0]:=⟨⟨_,underlying146,.str og U underlying9<|.flag og U underlying4<|.flag og U underlying4<|.flag og U underlying4<|.int og U underlying3 .nil⟩,od,od⟩
instance skLoc:Sk prog 73 [0,0]:=⟨⟨_,underlying73,.int og U underlying3<|.int og U underlying3 .nil⟩,od,od⟩
instance skTrm:Sk prog 78 [0,0]:=⟨⟨_,underlying78,.int og U underlying3<|.int og U underlying3 .nil⟩,od,od⟩
instance skRmv:Sk prog 253 [0,0,0,0]:=⟨⟨_,underlying253,.int og U underlying3<|.int og U underlying3<|.int og U underlying3<|.int og U underlying3 .nil⟩,od,od⟩
instance skKey:Sk prog 114 [0,1]:=⟨⟨_,underlying114,.int og U underlying3<|.str og U underlying9 .nil⟩,od,od⟩
theorem Qgp {v:O0}{l l':List (JY)}(h:Zv L w.heap v l.length 5 (l.flatMap Zu))(E:Zv L' w.heap v' l'.length 5 (l'.flatMap Zu)):
  Q5 prog 72 [v,v'] w λr w'=>r=.bool (decide (l=l'))/\O3 [] w w':=by
 have hf:=h.le;refine Zs func72 ntmps72 results72 ?_;refine Qe<|Qc<|Qd<|Qm<|QL h U<|Qb<|QL E U<|ZA U U<|xe<|QZ rfl (λT=>?_) (λT=>?_)
 ·refine Qe<|Qc<|Ql ⟨[.bool false],La,?_,O3.Z _ _⟩;have:l≠l':=λe=>T (by rw[e]);simp[tup,this]
 refine Qh<|Qd<|Qm<|QL h U<|Qb<|xe<|Qg<|QC (α:=Nat) [(4,5),(13,25)] (λk=>[(13,oF oG k)]) (λk w'=>O3 [] w w'/\k<=l.length/\(l=l'↔l.drop k=l'.drop k)) (λk=>l.length - k) ol 0 La ⟨O3.Z _ _,Ln _,oe⟩ ?_;rintro k g V ⟨G,hk,J⟩
 replace h:=h.I G
 replace E:=E.I G;refine Qe<|QX U U<|xe<|Qd<|QG U (λha=>?_) (λha=>?_)
 ·refine Qx<|Qe<|Qc<|Ql ⟨[.bool true],La,?_,G⟩;rw[Lr oa,Lr oa]at J;simp[tup,J]
 have H:k<l.length:=oa
 have I:k<l'.length:=oa
 refine Qh<|Qd<|Qg<|Qm<|Qc<|Qd<|QR (O3 [] V) [oD 0,oD 1,oD 2,oD 3,oD 4,oD 5,oD 6,oD 7,oD 8] mixed ol od (O3.C _ _) ?_;refine p Qy<|p Qy<|Lg.pig (g:=Zu) (i:=k) U UE h U U H λhg hb=>pq (λ_ O=>Qv (hb.I O) U U) <|
  p Qy<|p Qy<|Lg.pig (g:=Zu) (i:=k) U UE E U U I λhh he=>pq (λ_ O=>Qv (he.I O) U U)<|p (λ_=>(K2 (xs:=Zu (l[k]'H)) (ys:=Zu (l'[k]'I)) U U U).D (by rw[QlR]))<|pe ?_
 have Y:=G.D (O3.C [] V);refine QW rfl (λS=>?_) (λS=>?_)
 ·refine Qe<|Qc<|Ql ⟨[.bool false],La,?_,Y⟩;have:l≠l':=λe=>by subst e;simp at S
  simp[tup,this]
 refine Qh<|Qw<|QN U U<|Qb<|xe<|⟨k+1,oa,La,Y,oa,?_⟩;have e:l[k]'H=l'[k]'I:=by simpa using S
 rw[J,Zf H,Zf I,e];exact⟨λh=>(List.cons.inj h).2,λh=>by rw[h]⟩
theorem Qgo {v:O0}{l l':xt}(h:Zv L w.heap v l.length 2 (l.flatMap QI))(E:Zv L' w.heap v' l'.length 2 (l'.flatMap QI)):
  Q5 prog 76 [v,v'] w λr w'=>r=.bool (decide (l=l'))/\O3 [] w w':=by
 have hf:=h.le;refine Zs func76 ntmps76 results76 ?_;refine Qe<|Qc<|Qd<|Qm<|QL h U<|Qb<|QL E U<|ZA U U<|xe<|QZ rfl (λT=>?_) (λT=>?_)
 ·refine Qe<|Qc<|Ql ⟨[.bool false],La,?_,O3.Z _ _⟩;have:l≠l':=λe=>T (by rw[e]);simp[tup,this]
 refine Qh<|Qd<|Qm<|QL h U<|Qb<|xe<|Qg<|QC (α:=Nat) [(4,5),(13,25)] (λk=>[(13,oF oG k)]) (λk w'=>O3 [] w w'/\k<=l.length/\(l=l'↔l.drop k=l'.drop k)) (λk=>l.length - k) ol 0 La ⟨O3.Z _ _,Ln _,oe⟩ ?_;rintro k g V ⟨G,hk,J⟩
 replace h:=h.I G
 replace E:=E.I G;refine Qe<|QX U U<|xe<|Qd<|QG U (λha=>?_) (λha=>?_)
 ·refine Qx<|Qe<|Qc<|Ql ⟨[.bool true],La,?_,G⟩;rw[Lr oa,Lr oa]at J;simp[tup,J]
 have H:k<l.length:=oa
 have I:k<l'.length:=oa
 refine Qh<|Qd<|Qg<|Qm<|Qc<|Qd<|QR (O3 [] V) [oD 0,oD 1,oD 2,oD 3,oD 4,oD 5,oD 6,oD 7,oD 8] mixed ol od (O3.C _ _) ?_;refine p Qy<|p Qy<|Lg.pig (g:=QI) (i:=k) U Yv h U U H λhg hb=>pq (λ_ O=>Qv (hb.I O) U U) <|
  p Qy<|p Qy<|Lg.pig (g:=QI) (i:=k) U Yv E U U I λhh he=>pq (λ_ O=>Qv (he.I O) U U)<|p (λ_=>(K2 (xs:=QI (l[k]'H)) (ys:=QI (l'[k]'I)) U U U).D (by rw[QhZ]))<|pe ?_
 have Y:=G.D (O3.C [] V);refine QW rfl (λS=>?_) (λS=>?_)
 ·refine Qe<|Qc<|Ql ⟨[.bool false],La,?_,Y⟩;have:l≠l':=λe=>by subst e;simp at S
  simp[tup,this]
 refine Qh<|Qw<|QN U U<|Qb<|xe<|⟨k+1,oa,La,Y,oa,?_⟩;have e:l[k]'H=l'[k]'I:=by simpa using S
 rw[J,Zf H,Zf I,e];exact⟨λh=>(List.cons.inj h).2,λh=>by rw[h]⟩
theorem Qgn {v:O0}{l l':xt}(h:Zv L w.heap v l.length 2 (l.flatMap QI))(E:Zv L' w.heap v' l'.length 2 (l'.flatMap QI)):
  Q5 prog 79 [v,v'] w λr w'=>r=.bool (decide (l=l'))/\O3 [] w w':=by
 have hf:=h.le;refine Zs func79 ntmps79 results79 ?_;refine Qe<|Qc<|Qd<|Qm<|QL h U<|Qb<|QL E U<|ZA U U<|xe<|QZ rfl (λT=>?_) (λT=>?_)
 ·refine Qe<|Qc<|Ql ⟨[.bool false],La,?_,O3.Z _ _⟩;have:l≠l':=λe=>T (by rw[e]);simp[tup,this]
 refine Qh<|Qd<|Qm<|QL h U<|Qb<|xe<|Qg<|QC (α:=Nat) [(4,5),(13,25)] (λk=>[(13,oF oG k)]) (λk w'=>O3 [] w w'/\k<=l.length/\(l=l'↔l.drop k=l'.drop k)) (λk=>l.length - k) ol 0 La ⟨O3.Z _ _,Ln _,oe⟩ ?_;rintro k g V ⟨G,hk,J⟩
 replace h:=h.I G
 replace E:=E.I G;refine Qe<|QX U U<|xe<|Qd<|QG U (λha=>?_) (λha=>?_)
 ·refine Qx<|Qe<|Qc<|Ql ⟨[.bool true],La,?_,G⟩;rw[Lr oa,Lr oa]at J;simp[tup,J]
 have H:k<l.length:=oa
 have I:k<l'.length:=oa
 refine Qh<|Qd<|Qg<|Qm<|Qc<|Qd<|QR (O3 [] V) [oD 0,oD 1,oD 2,oD 3,oD 4,oD 5,oD 6,oD 7,oD 8] mixed ol od (O3.C _ _) ?_;refine p Qy<|p Qy<|Lg.pig (g:=QI) (i:=k) U Yv h U U H λhg hb=>pq (λ_ O=>Qv (hb.I O) U U) <|
  p Qy<|p Qy<|Lg.pig (g:=QI) (i:=k) U Yv E U U I λhh he=>pq (λ_ O=>Qv (he.I O) U U)<|p (λ_=>(K2 (xs:=QI (l[k]'H)) (ys:=QI (l'[k]'I)) U U U).D (by rw[QhZ]))<|pe ?_
 have Y:=G.D (O3.C [] V);refine QW rfl (λS=>?_) (λS=>?_)
 ·refine Qe<|Qc<|Ql ⟨[.bool false],La,?_,Y⟩;have:l≠l':=λe=>by subst e;simp at S
  simp[tup,this]
 refine Qh<|Qw<|QN U U<|Qb<|xe<|⟨k+1,oa,La,Y,oa,?_⟩;have e:l[k]'H=l'[k]'I:=by simpa using S
 rw[J,Zf H,Zf I,e];exact⟨λh=>(List.cons.inj h).2,λh=>by rw[h]⟩
theorem VX {f:α->β}{l l':List α}(h:l.length≠l'.length):l.map f≠l'.map f:=λe=>h (by have:=OT oP e;rwa [Lh,Lh]at this)
theorem K7 {f:α->β}{l l':List α}{k:Nat}(h:k<l.length)(E:k<l'.length):(l.drop k).map f=(l'.drop k).map f↔f (l[k]'h)=f (l'[k]'E)/\(l.drop (k+1)).map f=(l'.drop (k+1)).map f:=by
 rw[LE h,LE E,LG,LG];exact List.cons_eq_cons
theorem QeZ {v:O0}{l l':List IV}[Fu prog gf fn](h:Zv L w.heap v l.length 5 (l.flatMap QO))(E:Zv L' w.heap v' l'.length 5 (l'.flatMap QO))
  (h1:∀q∈l,Zj (QO q)) (hl:∀q∈l',Zj (QO q)) (hk:∀(k:Nat) (h:k<l.length) (E:k<l'.length) (G:OZ),O3 [] w G->Q5 prog gf [.agg (QO (l[k]'h)).toArray,.agg (QO (l'[k]'E)).toArray] G λr w'=>r=.bool (decide ((l[k]'h).it=(l'[k]'E).it))/\O3 [] G w'):
  Q5 prog 73 [v,v',.func (.func gf) #[] #[]] w λr w'=>r=.bool (decide (l.map (·.it)=l'.map (·.it)))/\O3 [] w w':=by
 have h4:=h.le;refine Zs func73 ntmps73 results73 ?_;refine Qe<|Qc<|Qd<|Qm<|QL h U<|Qb<|QL E U<|ZA U U<|xe<|QZ rfl (λhb=>?_) (λhb=>?_)
 ·refine Qe<|Qc<|Ql ⟨[.bool false],La,?_,O3.Z _ _⟩;have:l.map (·.it)≠l'.map (·.it):=VX λe=>hb (by rw[e]);simp[tup,this]
 refine Qh<|Qd<|Qm<|QL h U<|Qb<|xe<|Qg<|QC (α:=Nat) [(6,9),(17,31)] (λk=>[(17,oF oG k)]) (λk w'=>O3 [] w w'/\k<=l.length/\(l.map (·.it)=l'.map (·.it)↔(l.drop k).map (·.it)=(l'.drop k).map (·.it))) (λk=>l.length - k) ol 0 La ⟨O3.Z _ _,Ln _,oe⟩ ?_;rintro k g G ⟨J,hk1,O⟩;refine Qe<|QX U U<|xe<|Qd<|QG U (λhn=>?_) (λhn=>?_)
 ·refine Qx<|Qe<|Qc<|Ql ⟨[.bool true],La,?_,J⟩;rw[Lr oa,Lr oa]at O;simp[tup,O]
 have H:k<l.length:=oa
 have I:k<l'.length:=oa
 have T:=hk k H I;have S:=K7 (f:=(·.it)) H I;have hm:=h1 _ (Lm H);have hc:=hl _ (Lm I);refine Qh<|Qd<|Qg<|Qm<|O6 (g:=QO) (i:=k) Yj (h.I J) U U H λh5 hf=>?_;refine Zk (l[k]'H) λq hq=>?_;rw[hq]at hf T hm S;refine x (Qv hf U U)<|Qa<|Qo (us:=[.string .empty,nS,oF oG 0,nS,nS]) U λb8 w2 ho hp hr=>x Qk<|Qa<|Qj (us:=QO q) hr U U U U hm λw3 ht hu=>xe ?_;have hg:O3 [] G w3:=ho.O ht hp;refine Qm<|Qb<|O6 (g:=QO) (i:=k) Yj ((E.I J).I hg) U U I λh6 hh=>?_;refine Zk (l'[k]'I) λV hv=>?_;rw[hv]at hh T hc S;refine x (Qv hh U U)<|Qa<|Qo (us:=[.string .empty,nS,oF oG 0,nS,nS]) U λb9 w4 hw hy hz=>Qa<|Qj (us:=QO V) hz U U U U hc λw5 h0 h2=>xe ?_;have hi:O3 [] w3 w5:=hw.O h0 hy;have Y:=(J.D hg).D hi;refine Qm<|Q2 (hu.I hi) U U<|Q2 h2 U U<|Qa<|xc (first:=[]) (capt:=[]) U<|(T w5 Y).mono ?_;rintro r6 w6 ⟨rfl,hj⟩;refine x (Zz U)<|xe<|QW rfl (λha=>?_) (λha=>?_)
 ·refine Qe<|Qc<|Ql ⟨[.bool false],La,?_,Y.D hj⟩;have h3:¬q.it=V.it:=by simpa using ha
  have:l.map (·.it)≠l'.map (·.it):=λe=>h3 (S.1 (O.1 e)).1;simp[tup,this]
 refine Qh ?_;have he:q.it=V.it:=by simpa using ha
 refine Qw<|QN U U<|Qb<|xe ?_;exact⟨k+1,oa,La,Y.D hj,oa,O.D (S.D ⟨λh=>h.2,λh=>⟨he,h⟩⟩)⟩
theorem QlT {v:O0}{l l':List XV}[Fu prog gf fn](h:Zv L w.heap v l.length 2 (l.flatMap Q6))(E:Zv L' w.heap v' l'.length 2 (l'.flatMap Q6))
  (h1:∀q∈l,Zj (Q6 q)) (hl:∀q∈l',Zj (Q6 q)) (hk:∀(k:Nat) (h:k<l.length) (E:k<l'.length) (G:OZ),O3 [] w G->Q5 prog gf [.agg (Q6 (l[k]'h)).toArray,.agg (Q6 (l'[k]'E)).toArray] G λr w'=>r=.bool (decide ((l[k]'h).x=(l'[k]'E).x))/\O3 [] G w'):
  Q5 prog 74 [v,v',.func (.func gf) #[] #[]] w λr w'=>r=.bool (decide (l.map (·.x)=l'.map (·.x)))/\O3 [] w w':=by
 have h4:=h.le;refine Zs func74 ntmps74 results74 ?_;refine Qe<|Qc<|Qd<|Qm<|QL h U<|Qb<|QL E U<|ZA U U<|xe<|QZ rfl (λhb=>?_) (λhb=>?_)
 ·refine Qe<|Qc<|Ql ⟨[.bool false],La,?_,O3.Z _ _⟩;have:l.map (·.x)≠l'.map (·.x):=VX λe=>hb (by rw[e]);simp[tup,this]
 refine Qh<|Qd<|Qm<|QL h U<|Qb<|xe<|Qg<|QC (α:=Nat) [(6,9),(17,31)] (λk=>[(17,oF oG k)]) (λk w'=>O3 [] w w'/\k<=l.length/\(l.map (·.x)=l'.map (·.x)↔(l.drop k).map (·.x)=(l'.drop k).map (·.x))) (λk=>l.length - k) ol 0 La ⟨O3.Z _ _,Ln _,oe⟩ ?_;rintro k g G ⟨J,hk1,O⟩;refine Qe<|QX U U<|xe<|Qd<|QG U (λhn=>?_) (λhn=>?_)
 ·refine Qx<|Qe<|Qc<|Ql ⟨[.bool true],La,?_,J⟩;rw[Lr oa,Lr oa]at O;simp[tup,O]
 have H:k<l.length:=oa
 have I:k<l'.length:=oa
 have T:=hk k H I;have S:=K7 (f:=(·.x)) H I;have hm:=h1 _ (Lm H);have hc:=hl _ (Lm I);refine Qh<|Qd<|Qg<|Qm<|O6 (g:=Q6) (i:=k) Xi (h.I J) U U H λh5 hf=>?_;refine Zk (l[k]'H) λq hq=>?_;rw[hq]at hf T hm S;refine x (Qv hf U U)<|Qa<|Qo (us:=[.string .empty,nS]) U λb8 w2 ho hp hr=>x Qk<|Qa<|Qj (us:=Q6 q) hr U U U U hm λw3 ht hu=>xe ?_;have hg:O3 [] G w3:=ho.O ht hp;refine Qm<|Qb<|O6 (g:=Q6) (i:=k) Xi ((E.I J).I hg) U U I λh6 hh=>?_;refine Zk (l'[k]'I) λV hv=>?_;rw[hv]at hh T hc S;refine x (Qv hh U U)<|Qa<|Qo (us:=[.string .empty,nS]) U λb9 w4 hw hy hz=>Qa<|Qj (us:=Q6 V) hz U U U U hc λw5 h0 h2=>xe ?_;have hi:O3 [] w3 w5:=hw.O h0 hy;have Y:=(J.D hg).D hi;refine Qm<|Q2 (hu.I hi) U U<|Q2 h2 U U<|Qa<|xc (first:=[]) (capt:=[]) U<|(T w5 Y).mono ?_;rintro r6 w6 ⟨rfl,hj⟩;refine x (Zz U)<|xe<|QW rfl (λha=>?_) (λha=>?_)
 ·refine Qe<|Qc<|Ql ⟨[.bool false],La,?_,Y.D hj⟩;have h3:¬q.x=V.x:=by simpa using ha
  have:l.map (·.x)≠l'.map (·.x):=λe=>h3 (S.1 (O.1 e)).1;simp[tup,this]
 refine Qh ?_;have he:q.x=V.x:=by simpa using ha
 refine Qw<|QN U U<|Qb<|xe ?_;exact⟨k+1,oa,La,Y.D hj,oa,O.D (S.D ⟨λh=>h.2,λh=>⟨he,h⟩⟩)⟩
theorem QlU {v:O0}{l l':List KV}[Fu prog gf fn](h:Zv L w.heap v l.length 3 (l.flatMap Zc))(E:Zv L' w.heap v' l'.length 3 (l'.flatMap Zc))
  (h1:∀q∈l,Zj (Zc q)) (hl:∀q∈l',Zj (Zc q)) (hk:∀(k:Nat) (h:k<l.length) (E:k<l'.length) (G:OZ),O3 [] w G->Q5 prog gf [.agg (Zc (l[k]'h)).toArray,.agg (Zc (l'[k]'E)).toArray] G λr w'=>r=.bool (decide ((l[k]'h).k=(l'[k]'E).k))/\O3 [] G w'):
  Q5 prog 77 [v,v',.func (.func gf) #[] #[]] w λr w'=>r=.bool (decide (l.map (·.k)=l'.map (·.k)))/\O3 [] w w':=by
 have h4:=h.le;refine Zs func77 ntmps77 results77 ?_;refine Qe<|Qc<|Qd<|Qm<|QL h U<|Qb<|QL E U<|ZA U U<|xe<|QZ rfl (λhb=>?_) (λhb=>?_)
 ·refine Qe<|Qc<|Ql ⟨[.bool false],La,?_,O3.Z _ _⟩;have:l.map (·.k)≠l'.map (·.k):=VX λe=>hb (by rw[e]);simp[tup,this]
 refine Qh<|Qd<|Qm<|QL h U<|Qb<|xe<|Qg<|QC (α:=Nat) [(6,9),(17,31)] (λk=>[(17,oF oG k)]) (λk w'=>O3 [] w w'/\k<=l.length/\(l.map (·.k)=l'.map (·.k)↔(l.drop k).map (·.k)=(l'.drop k).map (·.k))) (λk=>l.length - k) ol 0 La ⟨O3.Z _ _,Ln _,oe⟩ ?_;rintro k g G ⟨J,hk1,O⟩;refine Qe<|QX U U<|xe<|Qd<|QG U (λhn=>?_) (λhn=>?_)
 ·refine Qx<|Qe<|Qc<|Ql ⟨[.bool true],La,?_,J⟩;rw[Lr oa,Lr oa]at O;simp[tup,O]
 have H:k<l.length:=oa
 have I:k<l'.length:=oa
 have T:=hk k H I;have S:=K7 (f:=(·.k)) H I;have hm:=h1 _ (Lm H);have hc:=hl _ (Lm I);refine Qh<|Qd<|Qg<|Qm<|O6 (g:=Zc) (i:=k) Xb (h.I J) U U H λh5 hf=>?_;refine Zk (l[k]'H) λq hq=>?_;rw[hq]at hf T hm S;refine x (Qv hf U U)<|Qa<|Qo (us:=[.string .empty,nS,oF oG 0]) U λb8 w2 ho hp hr=>x Qk<|Qa<|Qj (us:=Zc q) hr U U U U hm λw3 ht hu=>xe ?_;have hg:O3 [] G w3:=ho.O ht hp;refine Qm<|Qb<|O6 (g:=Zc) (i:=k) Xb ((E.I J).I hg) U U I λh6 hh=>?_;refine Zk (l'[k]'I) λV hv=>?_;rw[hv]at hh T hc S;refine x (Qv hh U U)<|Qa<|Qo (us:=[.string .empty,nS,oF oG 0]) U λb9 w4 hw hy hz=>Qa<|Qj (us:=Zc V) hz U U U U hc λw5 h0 h2=>xe ?_;have hi:O3 [] w3 w5:=hw.O h0 hy;have Y:=(J.D hg).D hi;refine Qm<|Q2 (hu.I hi) U U<|Q2 h2 U U<|Qa<|xc (first:=[]) (capt:=[]) U<|(T w5 Y).mono ?_;rintro r6 w6 ⟨rfl,hj⟩;refine x (Zz U)<|xe<|QW rfl (λha=>?_) (λha=>?_)
 ·refine Qe<|Qc<|Ql ⟨[.bool false],La,?_,Y.D hj⟩;have h3:¬q.k=V.k:=by simpa using ha
  have:l.map (·.k)≠l'.map (·.k):=λe=>h3 (S.1 (O.1 e)).1;simp[tup,this]
 refine Qh ?_;have he:q.k=V.k:=by simpa using ha
 refine Qw<|QN U U<|Qb<|xe ?_;exact⟨k+1,oa,La,Y.D hj,oa,O.D (S.D ⟨λh=>h.2,λh=>⟨he,h⟩⟩)⟩
theorem Qdp {a b:XG}:a=b↔(a.nm=b.nm/\a.a.st=b.a.st/\a.a.al=b.a.al/\a.a.mr=b.a.mr/\a.a.ed=b.a.ed):=by
 rw[QeN,Qfr];exact⟨λ⟨E,G,H,I,J⟩=>⟨E,H,G,I,J⟩,λ⟨E,G,H,I,J⟩=>⟨E,H,G,I,J⟩⟩
theorem Qe0 {q E:IV}(h:ZK [] w.heap q.p.va q.p.vm q.p.ve q.p.a)(S:ZK [] w.heap E.p.va E.p.vm E.p.ve E.p.a):
  Q5 prog 70 [.agg (QO q).toArray,.agg (QO E).toArray] w λr w'=>r=.bool (decide (q.it=E.it))/\O3 [] w w':=by
 refine Zs func70 ntmps70 results70 ?_;refine Qe<|Qa<|QS (us:=QO q) U λb2 Y T ha J=>Qa<|QS (us:=QO E) U λb3 w2 H hb O=>Qc ?_;have G:=T.D H;refine Qe<|Qs U (J.I H) U U<|Qs U O U U<|xb (Xv U U) (λI=>?_) (λI=>?_)
 ·refine Qb<|Q0 U<|x (Qv (((J.I H).at (L:=[]) oe).from 1) rfl rfl)<|Q0 rfl<|x (Qv ((O.at (L:=[]) oe).from 1) rfl rfl)<|Qa<|xf<|(QcK (h.I G) (S.I G)).mono ?_;rintro r4 w4 ⟨rfl,V⟩;refine QK U<|Qc ?_;exact Ql ⟨[.bool _],La,OT Value.bool (decide_eq_decide.2 ⟨λh=>Qdp.2 ⟨I,h⟩,λh=>(Qdp.1 h).2⟩),G.D V⟩
 refine Qb<|Qr<|Qr<|Qr<|Qr<|Qr<|QK U<|Qc ?_;exact Ql ⟨[.bool false],La,OT Value.bool (OX λh=>I (Qdp.1 h).1).symm,G⟩
theorem QlW {q E:XV}(h:yT [] w.heap q.v q.ls)(S:yT [] w.heap E.v E.ls):
  Q5 prog 75 [.agg (Q6 q).toArray,.agg (Q6 E).toArray] w λr w'=>r=.bool (decide (q.x=E.x))/\O3 [] w w':=by
 refine Zs func75 ntmps75 results75 ?_;refine Qe<|Qa<|QS (us:=Q6 q) U λb2 Y T ha J=>Qa<|QS (us:=Q6 E) U λb3 w2 H hb O=>Qc ?_;have G:=T.D H;refine Qe<|Qs U (J.I H) U U<|Qs U O U U<|xb (Xv U U) (λI=>?_) (λI=>?_)
 ·refine Qb<|Qs U (J.I H) U U<|Qs U O U U<|Qa<|xf<|(Qgo (h.I G) (S.I G)).mono ?_;rintro r4 w4 ⟨rfl,V⟩;refine QK U<|Qc ?_;exact Ql ⟨[.bool _],La,OT Value.bool (decide_eq_decide.2 ⟨λh=>zn.2 ⟨I,h⟩,λh=>(zn.1 h).2⟩),G.D V⟩
 refine Qb<|Qr<|Qr<|Qr<|Qr<|Qr<|QK U<|Qc ?_;exact Ql ⟨[.bool false],La,OT Value.bool (OX λh=>I (zn.1 h).1).symm,G⟩
theorem QlV {q E:KV}(h:yT [] w.heap q.v q.ts)(T:yT [] w.heap E.v E.ts):
  Q5 prog 78 [.agg (Zc q).toArray,.agg (Zc E).toArray] w λr w'=>r=.bool (decide (q.k=E.k))/\O3 [] w w':=by
 refine Zs func78 ntmps78 results78 ?_;refine Qe<|Qa<|QS (us:=Zc q) U λb2 w1 V ha I=>Qa<|QS (us:=Zc E) U λb3 w2 H hb J=>Qc ?_;have G:=V.D H;refine Qe<|Qs U (I.I H) U U<|Qs U J U U<|xb (Xv U U) (λO=>?_) (λO=>?_)
 ·refine Qb<|Qs U (I.I H) U U<|Qs U J U U<|xb (Q9 U U) (λS=>?_) (λS=>?_)
  ·refine QK U<|Qb<|Qs U (I.I H) U U<|Qs U J U U<|Qa<|xf<|(Qgn (h.I G) (T.I G)).mono ?_;rintro r4 w4 ⟨rfl,Y⟩;refine QK U<|Qc ?_;exact Ql ⟨[.bool _],La,OT Value.bool (decide_eq_decide.2 ⟨λh=>UI.2 ⟨O,h,S⟩,λh=>(UI.1 h).2.1⟩),G.D Y⟩
  refine QK U<|Qb<|Qr<|Qr<|Qr<|Qr<|Qr<|QK U<|Qc ?_;exact Ql ⟨[.bool false],La,OT Value.bool (OX λh=>S (UI.1 h).2.2).symm,G⟩
 refine Qb<|Qr<|Qr<|Qr<|Qr<|Qr<|QK U<|Qb<|Qr<|Qr<|Qr<|Qr<|Qr<|QK U<|Qc ?_;exact Ql ⟨[.bool false],La,OT Value.bool (OX λh=>O (UI.1 h).1).symm,G⟩
theorem V9 {c G:CL}(h0:ZF L w.heap c)(ht:ZF L' w.heap G):
  Q5 prog 29 [c.val,G.val] w λr w'=>r=.bool (decide (c.V=G.V))/\O3 [] w w':=by
 have h:=h0.up (L':=[]) oe;have E:=ht.up (L':=[]) oe;have Y:c.V=G.V↔(c.ev=G.ev/\c.co.map (·.it)=G.co.map (·.it)/\c.rq.map (·.it)=G.rq.map (·.it)/\c.ex.map (·.x)=G.ex.map (·.x)/\c.cs.map (·.k)=G.cs.map (·.k)):=Qfj;have hh:∀{b:Bool},(c.V=G.V->b=true)->b=false->Value.bool false=.bool (decide (c.V=G.V)):=λh1 h2=>OT Value.bool (OX λe=>by rw[h1 e]at h2;cases h2).symm;have hi:∀{c:CL},ZF [] w.heap c->(∀q∈c.co,Zj (QO q))/\∀q∈c.rq,Zj (QO q):=λJ=>⟨λq H=>⟨U,(J.co.each q H).al.one,U,(J.co.each q H).mr.one,(J.co.each q H).ed.one,Z⟩,λq H=>⟨U,(J.rq.each q H).al.one,U,(J.rq.each q H).mr.one,(J.rq.each q H).ed.one,Z⟩⟩;have ho:∀{c:CL},ZF [] w.heap c->∀q∈c.ex,Zj (Q6 q):=λJ q H=>⟨U,(J.ex.each q H).one,Z⟩;have hp:∀{c:CL},ZF [] w.heap c->∀q∈c.cs,Zj (Zc q):=λJ q H=>⟨U,(J.cs.each q H).one,U,Z⟩;refine Zs func29 ntmps29 results29 ?_;refine Qe<|Qa<|QS (us:=c.cells) U λb2 w1 hu h4 hv=>Qa<|QS (us:=G.cells) U λb3 w2 hr h5 ha=>Qc ?_;have T:=hu.D hr;have hb:=hv.I hr;refine Qe<|Qc<|Qe<|Qs U hb U U<|Qs U ha U U<|Qa<|xf<|(Qgp (h.ev.arr.I T) (E.ev.arr.I T)).mono ?_;rintro r1 w3 ⟨rfl,hj⟩;have he:=T.D hj;refine xB J0 (λe1=>?_) (λe1=>?_)
 rotate_left
 ·refine Qr<|Qr<|Qr<|Qr<|Qr<|Qr<|QK U<|Qb<|Qr<|Qr<|Qr<|Qr<|Qr<|Qr<|QK U<|Qb<|Qr<|Qr<|Qr<|Qr<|Qr<|QK U<|Qb<|Qr<|Qr<|Qr<|Qr<|Qr<|QK U<|Qc ?_;exact Ql ⟨[.bool false],La,hh (λe=>OV (Y.1 e).1) e1,he⟩
 refine Qs rfl (hb.I hj) U U<|Qs U (ha.I hj) U U<|Qb<|Qa<|xf<|(QeZ (gf:=70) (h.co.arr.I he) (E.co.arr.I he) (hi h).1 (hi E).1
  (λk O S w' I=>Qe0 (((h.co.each _ (Lm O)).I he).I I) (((E.co.each _ (Lm S)).I he).I I))).mono ?_
 rintro r2 w4 ⟨rfl,hw⟩;have hl:=hj.D hw;have hf:=T.D hl;refine QK rfl<|xB J0 (λe2=>?_) (λe2=>?_)
 rotate_left
 ·refine Qr<|Qr<|Qr<|Qr<|Qr<|Qr<|QK U<|Qb<|Qr<|Qr<|Qr<|Qr<|Qr<|QK U<|Qb<|Qr<|Qr<|Qr<|Qr<|Qr<|QK U<|Qc ?_;exact Ql ⟨[.bool false],La,hh (λe=>OV (Y.1 e).2.1) e2,hf⟩
 refine Qs rfl (hb.I hl) U U<|Qs U (ha.I hl) U U<|Qb<|Qa<|xf<|(QeZ (gf:=70) (h.rq.arr.I hf) (E.rq.arr.I hf) (hi h).2 (hi E).2
  (λk O S w' I=>Qe0 (((h.rq.each _ (Lm O)).I hf).I I) (((E.rq.each _ (Lm S)).I hf).I I))).mono ?_
 rintro r3 w5 ⟨rfl,hy⟩;have hm:=hl.D hy;have hg:=T.D hm;refine QK rfl<|xB J0 (λe3=>?_) (λe3=>?_)
 rotate_left
 ·refine Qr<|Qr<|Qr<|Qr<|Qr<|QK U<|Qb<|Qr<|Qr<|Qr<|Qr<|Qr<|QK U<|Qc ?_;exact Ql ⟨[.bool false],La,hh (λe=>OV (Y.1 e).2.2.1) e3,hg⟩
 refine Qs rfl (hb.I hm) U U<|Qs U (ha.I hm) U U<|Qa<|xf<|(QlT (gf:=75) (h.ex.arr.I hg) (E.ex.arr.I hg) (ho h) (ho E)
  (λk O S w' I=>QlW (((h.ex.each _ (Lm O)).I hg).I I) (((E.ex.each _ (Lm S)).I hg).I I))).mono ?_
 rintro r4 w6 ⟨rfl,hz⟩;have hn:=hm.D hz;have V:=T.D hn;refine QK rfl<|xB J0 (λe4=>?_) (λe4=>?_)
 rotate_left
 ·refine Qr<|Qr<|Qr<|Qr<|Qr<|QK U<|Qc ?_;exact Ql ⟨[.bool false],La,hh (λe=>OV (Y.1 e).2.2.2.1) e4,V⟩
 refine Qs rfl (hb.I hn) U U<|Qs U (ha.I hn) U U<|Qa<|xf<|(QlU (gf:=78) (h.cs.arr.I V) (E.cs.arr.I V) (hp h) (hp E)
  (λk O S w' I=>QlV (((h.cs.each _ (Lm O)).I V).I I) (((E.cs.each _ (Lm S)).I V).I I))).mono ?_
 rintro r5 w7 ⟨rfl,h3⟩;refine QK rfl<|Qc<|Ql ⟨[.bool _],La,OT Value.bool (decide_eq_decide.2 ?_),V.D h3⟩;rw[Y];exact⟨λe=>⟨OW e1,OW e2,OW e3,OW e4,e⟩,λe=>e.2.2.2.2⟩
abbrev ZX (p:ByteArray×Int):LV:=[.string p.1,oF oG p.2]
theorem Qhv (p:ByteArray×Int):(ZX p).length=2:=rfl
structure zp (L:LN)(H:xx)(v:O0)(l:List (ByteArray×Int)):Prop where
 arr:Zv L H v l.length 2 (l.flatMap ZX)
 nm:∀q∈l,J6 q.1
theorem zp.nil {L:LN}{H:xx}:zp L H (nS) []:=⟨Zv.nil _ _ _,oe⟩
theorem zp.I {L:LN}{w w':OZ}{v:O0}{l:List (ByteArray×Int)}(h:zp L w.heap v l)(E:O3 [] w w'):zp L w'.heap v l:=⟨h.arr.I E,h.nm⟩
theorem zp.st {L:LN}{w w':OZ}{v:O0}{l:List (ByteArray×Int)}(h:zp L w.heap v l)(E:O3 L w w'):zp L w'.heap v l:=⟨h.arr.st E,h.nm⟩
theorem zp.up {L L':LN}{H:xx}{v:O0}{l:List (ByteArray×Int)}(h:zp L H v l)(E:∀b∈L',b∈L\/H.size<=b):zp L' H v l:=⟨h.arr.up E,h.nm⟩
structure DV where
 kd:Int
 nm:ByteArray
 p:AV
 vl:O0
 ls:List (ByteArray×Int)
 vt:O0
 ts:List (ByteArray×Int)
 bd:Int
def DV.it (q:DV):Ys:=⟨q.kd,q.nm,q.p.a,q.ls,q.ts,q.bd⟩
abbrev QE (q:DV):LV:=[oF oG q.kd,.string q.nm,q.p.va,oF oG q.p.a.st,q.p.vm,q.p.ve,q.vl,q.vt,oF oG q.bd]
theorem ZW (q:DV):(QE q).length=9:=rfl
structure Jn (L:LN)(H:xx)(q:DV):Prop where
 nm:J6 q.nm
 a:ZK L H q.p.va q.p.vm q.p.ve q.p.a
 ls:zp L H q.vl q.ls
 ts:zp L H q.vt q.ts
theorem Jn.I {L:LN}{w w':OZ}{q:DV}(h:Jn L w.heap q)(E:O3 [] w w'):Jn L w'.heap q:=⟨h.nm,h.a.I E,h.ls.I E,h.ts.I E⟩
theorem Jn.st {L:LN}{w w':OZ}{q:DV}(h:Jn L w.heap q)(E:O3 L w w'):Jn L w'.heap q:=⟨h.nm,h.a.st E,h.ls.st E,h.ts.st E⟩
theorem Jn.up {L L':LN}{H:xx}{q:DV}(h:Jn L H q)(E:∀b∈L',b∈L\/H.size<=b):Jn L' H q:=⟨h.nm,h.a.up E,h.ls.up E,h.ts.up E⟩
theorem Jn.ones {q:DV}(h:Jn L H q):Zj (QE q):=⟨U,U,h.a.al.one,U,h.a.mr.one,h.a.ed.one,h.ls.arr.one,h.ts.arr.one,U,Z⟩
structure Vn (L:LN)(H:xx)(v:O0)(qs:List DV):Prop where
 arr:Zv L H v qs.length 9 (qs.flatMap QE)
 each:∀q∈qs,Jn L H q
theorem Vn.I {L:LN}{w w':OZ}{v:O0}{qs:List DV}(h:Vn L w.heap v qs)(E:O3 [] w w'):Vn L w'.heap v qs:=⟨h.arr.I E,λq G=>(h.each q G).I E⟩
theorem Vn.up {L L':LN}{H:xx}{v:O0}{qs:List DV}(h:Vn L H v qs)(E:∀b∈L',b∈L\/H.size<=b):Vn L' H v qs:=⟨h.arr.up E,λq G=>(h.each q G).up E⟩
end Go.Lg
