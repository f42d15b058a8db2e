/- Merged out of 71 texts. -/
import Derived.Test.YtnlnkchlcpfehaaGreatDoorNhc
import Derived.Shelf.SortM.Plain
import Derived.Shelf.SortM.SortNone
import Derived.Shelf.SlicesE.Compact
import Derived.Shelf.SlicesE.DeleteFunc
import Derived.Ground.SlgmProg
import Derived.Ground.SlgnProg
import Derived.Ground.SlgfProg
import Derived.ChangeSame
import Derived.Carry
import Derived.OpenShut
import Derived.RowKit
import Derived.ChangeSlices
import Derived.WideShapes
import Derived.ProofKit
import Derived.ChangeArms
import Derived.Lib.LaidTab
import Derived.Stop.LaidErr
import Derived.MakeChecks
import Derived.Laws.Small
set_option maxHeartbeats 40000000
set_option maxRecDepth 100000
set_option linter.all false
open Go Go.Lg
open Go.Value renaming int->oG
open Go.IntKind renaming i64->oH
open _root_.List renaming mem_singleton->oJ,not_mem_nil->oK,mem_cons->oL,length_append->oN,replicate->oO,length_singleton->oP,length->oQ,getD->oR,range'->oS,all_cons->oT,range->oV,map_cons->oY,append_assoc->o6,length_drop->Oa,length_take->Ob,length_map->Oc,size_toArray->Od,flatMap_cons->Of,getElem?_eq_getElem->Og,map_append->Oj,nil_append->Om,singleton_append->Ow,append_nil->Oy,mem_map->OA,mem_range'_1->OB,mem_filter->OH,take_append->OK,map_nil->OL,flatMap_nil->OM
open _root_.Bool renaming and_eq_true->oM,false_eq_true->OF
open _root_.Nat renaming zero_add->oZ,add_mul->Oq,add_zero->OD,sub_zero->OJ,zero_mul->OP,zero_le->OR
open _root_.Array renaming getElem?_eq_getElem->Ol,getElem?_mapIdx->Ox
open _root_.Int renaming toNat_natCast->Ou
open _root_.Option renaming map_some->Oz,isSome_none->OE
open Go renaming World->O1,Value->O2,Operand->O3,Program->O4
open Go.Proofs Go.Proofs.Tryz
open Go.Proofs.Tryz renaming prog->sV
variable {w w' W':O1}{L L' X ds ns:LN}{n t sz i b T j E g N id ty cap b1 B kt lo hi b2 bp M gf gp:Nat}{cs us news capt:LV}{H:xA}{a:Q6}{α β:Type}{y G:O3}{z va ve vm vt v' vl vs vb vx vk:O2}{l u al ul out rs:LI}{c:ZF}{P:O4}{f f1:Fr}{fn:Func}{lf:Lf}{o:Oper}{d:xE}{af:xC}{gd:xq}{es:List Ed}{K:xx}{k':IntKind}{qs:List IV}{rest:xt}{co:List XD}{ops:xD}{qx:List XV}{ks:List KV}
namespace Go.Lg
structure VP (base:Nat)(w:O1)(n:Nat)(f:Nat->O2)(g:Nat->List Ed):Prop where
 own:∀i,i<n->YP 159 base w (f i) (g i)
 dj:∀i j,i<n->j<n->i≠j->Dj (f i) (f j)
theorem VP.app {base:Nat}{f:Nat->O2}{g:Nat->List Ed}{l:List Ed}(h:VP base w n f g)(hi:i<n)(O:YP 159 base w' v' l)(S:O5 (ob (f i)) w w')
  (T:∀b∈ob v',b∈ob (f i)\/↑w<=b):VP base w' n (Ur f i v') (Ur g i l):=by
 refine⟨λj E=>?_,λj k E H G=>?_⟩
 ·by_cases e:j=i
  ·subst e;rw[YA,YA];exact O
  rw[Y5 _ _ e,Y5 _ _ e];exact Qe (h.own j E) S (h.dj j i E hi e)
 have key:∀j,j<n->j≠i->Dj v' (f j):=λj E e b V I=>by
  rcases T b V with J|J
  ·exact h.dj i j hi E (Ne.symm e) b J I
  have:=Q8 (h.own j E) b I;omega
 by_cases e1:j=i
 ·subst e1;rw[YA,Y5 _ _ (Ne.symm G)];exact key k H (Ne.symm G)
 rw[Y5 _ _ e1];by_cases e2:k=i
 ·subst e2;rw[YA];exact(key j E e1).symm
 rw[Y5 _ _ e2];exact h.dj j k E H G
theorem VP.J {base:Nat}{f:Nat->O2}{g:Nat->List Ed}(h:VP base w n f g)(E:O5 X w w')(G:∀i,i<n->∀b∈ob (f i),b∉X):VP base w' n f g :=
 ⟨λi hi=>Qe (h.own i hi) E (G i hi),h.dj⟩
theorem VP.I {base:Nat}{f:Nat->O2}{g:Nat->List Ed}(h:VP base w n f g)(E:sX w w'):VP base w' n f g:=h.J E (λ_ _ _ _=>od)
def jI (es:List Ed)(s:Nat):List Ed:=Z7 es (s:Int)
theorem QgI (es:List Ed)(e:Ed)(E:0<=e.1):Ur (jI es) e.1.toNat (jI es e.1.toNat++[e])=jI (es++[e]):=by
 funext s;unfold jI Z7;rw[L4];by_cases h:s=e.1.toNat
 ·subst h;rw[YA];have:e.1=(e.1.toNat:Int):=oa
  simp[<-this]
 rw[Y5 _ _ h];have:¬e.1=(s:Int):=oa
 simp[this]
theorem Qcs (es:List Ed)(s:Nat):(jI es s).length<=es.length:=Vz es _
def QeO (num:LI)(m:List (Int×O2)):Prop:=∀s:Nat,s<num.length->O9 m (s:Int)=if O6 num s<0 then none else some (sS (O6 num s))
theorem VX (l:LI)(k:Int):Yg l k=O6 l k.toNat:=rfl
structure Vn (b4 mb:Nat)(r2:O2)(wS:O1)(c:Cs)(m:List (Int×O2))(vo vk ve:O2)(w:O1):Prop where
 st:O5 [b4,mb] wS w
 B4:QZ ↑w b4 66 [r2,sS 0,vk,ve]
 M:Yu Ux ↑w mb m
 nm:QeO c.num m
 o:Qq 3 ↑wS w vo c.ord
 k:Qq 3 ↑wS w vk c.mk'
 e:YP 159 ↑wS w ve c.ed
 d1:Dj vo vk
 d2:Dj vo ve
 d3:Dj vk ve
section
variable {b4 mb:Nat}{r2:O2}{wS:O1}{c:Cs}{m:List (Int×O2)}{vo:O2}{w'':O1}
theorem Vn.I (h:Vn b4 mb r2 wS c m vo vk ve w)(E:sX w w'):Vn b4 mb r2 wS c m vo vk ve w' :=
 ⟨h.st.D E,h.B4.I E,h.M.I E,h.nm,Ql h.o E,Ql h.k E,Ql h.e E,h.d1,h.d2,h.d3⟩
theorem Vn.setK (h:Vn b4 mb r2 wS c m vo vk ve w)(T:b4<wS.heap.size)(lm:mb<↑wS)(ne:mb≠b4){H:O2}(I:O5 (ob vk) w w')(J:Qq 3 ↑wS w' H l)
  (O:∀b∈ob H,b∈ob vk\/↑w<=b) (G:O5 [b4] w' w'') (S:QZ ↑w'' b4 66 [r2,sS 0,H,ve]):Vn b4 mb r2 wS ⟨c.ord,c.num,l,c.ed⟩ m vo H ve w'' :=
 ⟨(h.st.S I (λb E=>.inr (Qg h.k b E).1)).S G (λb E=>.inl (by simp at E;simp[E])),S,(h.M.J I (QP h.k lm)).J G (oA ne),h.nm,
  Qe (Qe h.o I h.d1) G (λb E=>by have:=(Qg h.o b E).1;simp;omega),Qe J G (λb E=>by have:=(Qg J b E).1;simp;omega),
  Qe (Qe h.e I h.d3.symm) G (λb E=>by have:=(Qg h.e b E).1;simp;omega),h.d1.grow O (Q8 h.o),h.d2,(h.d3.symm.grow O (Q8 h.e)).symm⟩
theorem Vn.setE (h:Vn b4 mb r2 wS c m vo vk ve w)(T:b4<wS.heap.size)(lm:mb<↑wS)(ne:mb≠b4){H:O2}{l:List Ed}(I:O5 (ob ve) w w')(J:YP 159 ↑wS w' H l)
  (O:∀b∈ob H,b∈ob ve\/↑w<=b) (G:O5 [b4] w' w'') (S:QZ ↑w'' b4 66 [r2,sS 0,vk,H]):Vn b4 mb r2 wS ⟨c.ord,c.num,c.mk',l⟩ m vo vk H w'' :=
 ⟨(h.st.S I (λb E=>.inr (Qg h.e b E).1)).S G (λb E=>.inl (by simp at E;simp[E])),S,(h.M.J I (QP h.e lm)).J G (oA ne),h.nm,
  Qe (Qe h.o I h.d2) G (λb E=>by have:=(Qg h.o b E).1;simp;omega),Qe (Qe h.k I h.d3) G (λb E=>by have:=(Qg h.k b E).1;simp;omega),
  Qe J G (λb E=>by have:=(Qg J b E).1;simp;omega),h.d1,h.d2.grow O (Q8 h.o),h.d3.grow O (Q8 h.k)⟩
theorem Vn.setN (h:Vn b4 mb r2 wS c m vo vk ve w)(lm:mb<↑wS)(ne:mb≠b4){H:List (Int×O2)}(G:O5 [mb] w w')(hM:Yu Ux ↑w' mb H)(I:QeO l H):Vn b4 mb r2 wS ⟨c.ord,l,c.mk',c.ed⟩ H vo vk ve w' :=
 ⟨h.st.S G (λb E=>.inl (by simp at E;simp[E])),h.B4.J G (oA ne.symm),hM,I,Qe h.o G (λb E=>by have:=(Qg h.o b E).1;simp;omega),
  Qe h.k G (λb E=>by have:=(Qg h.k b E).1;simp;omega),Qe h.e G (λb E=>by have:=(Qg h.e b E).1;simp;omega),h.d1,h.d2,h.d3⟩
theorem Vn.setO (h:Vn b4 mb r2 wS c m vo vk ve w)(I:b4<wS.heap.size)(lm:mb<↑wS){G:O2}(E:O5 (ob vo) w w')(J:Qq 3 ↑wS w' G l)
  (H:∀b∈ob G,b∈ob vo\/↑w<=b):Vn b4 mb r2 wS ⟨l,c.num,c.mk',c.ed⟩ m G vk ve w' :=
 ⟨h.st.S E (λb O=>.inr (Qg h.o b O).1),h.B4.J E (QP h.o I),h.M.J E (QP h.o lm),h.nm,J,Qe h.k E h.d1.symm,Qe h.e E h.d2.symm,
  (h.d1.symm.grow H (Q8 h.k)).symm,(h.d2.symm.grow H (Q8 h.e)).symm,h.d3⟩
end
theorem QeO.set {num:LI}{m:List (Int×O2)}(h:QeO num m){k:Nat}(G:k<num.length){v:Int}(H:0<=v):QeO (num.set k v) (xd m (k:Int) (sS v)):=by
 intro s E;rw[Mb]at E;rw[XJ];by_cases e:s=k
 ·subst e;have:O6 (num.set s v) s=v:=by unfold O6;simp[oR,G]
  rw[OU rfl,this,OT oa]
 rw[OT oa];have:O6 (num.set k v) s=O6 num s:=by unfold O6;simp[oR,List.getElem?_set_ne (Ne.symm e)]
 rw[this];exact h s E
theorem Qch (i:Nat)(c:Cs)(m:LI)(e:Ed):ZC i ⟨c.ord,c.num,m,c.ed⟩ e=⟨(ZC i c e).ord,(ZC i c e).num,m,(ZC i c e).ed⟩/\(ZC i c e).mk'=c.mk':=by
 unfold ZC;split <;> exact⟨U,U⟩
theorem QbM (i:Nat):∀(l:List Ed) (c:Cs) (m:LI),l.foldl (ZC i) ⟨c.ord,c.num,m,c.ed⟩=⟨(l.foldl (ZC i) c).ord,(l.foldl (ZC i) c).num,m,(l.foldl (ZC i) c).ed⟩/\(l.foldl (ZC i) c).mk'=c.mk'
 | [],c,m=>⟨U,U⟩
 | e::l,c,m=>by
  have E:=Qch i c m e;have G:=QbM i l (ZC i c e) m;rw[L5,L5,E.1,G.1];exact⟨U,G.2.D E.2⟩
theorem j7 (i:Nat)(c:Cs)(e:Ed):∃r,(ZC i c e).ord=c.ord++r:=by
 unfold ZC;split
 ·exact⟨_,rfl⟩
 exact⟨[],od⟩
theorem QcW (i:Nat):∀(l:List Ed) (c:Cs),∃r,(l.foldl (ZC i) c).ord=c.ord++r
 | [],c=>⟨[],od⟩
 | e::l,c=>by
  obtain⟨E,G⟩:=j7 i c e;obtain⟨r2,H⟩:=QcW i l (ZC i c e);exact⟨E++r2,by rw[L5,H,G,LC]⟩
theorem QgJ {c:Cs}(hi:i<c.ord.length):zx a i c=Yq a i ((Z7 a.ed (O6 c.ord i)).foldl (ZC i) c):=by
 unfold zx;rw[VX,MP];obtain⟨r,E⟩:=QcW i (Z7 a.ed (O6 c.ord i)) c;unfold Yq;have G:Yg ((Z7 a.ed (O6 c.ord i)).foldl (ZC i) c).ord (i:Int)=Yg c.ord (i:Int):=by
  rw[VX,VX,E];simp only[Ou];exact jr hi
 rw[G];split
 ·rw[(QbM i _ c _).1,((QbM i (Z7 a.ed (O6 c.ord i)) c c.mk').2)]
 rfl
theorem yI {q:Pz}(hA:PzA [] ↑w bp q)(hq:PzQ q)(hB:QZ ↑w q.bl 4 (lf.map Value.bool))(hl:lf.length=q.n):
  QY sV 237 [sP bp] w λr w'=>sX w w'/\∃v o,r=.tuple #[v,o]/\JK ↑w ↑w' v (Qio q.a lf)/\o.oneCell'=true:=by
 have hn:=hq.n;have hst1:=hq.ok.st1;have kc:=hq.ok.ed_le;have hf:Qio q.a lf=if q.a.st=0\/lft lf 0=false then⟨q.a.al,0,[],[]⟩else Yk (rstr q.a lf):=rfl
 refine Zf (Qio q.a lf) λSA pg=>?_;rw[pg]at hf ⊢;refine Zq func237 ?_;refine Qc<|QM [nS,sS 0,nS,nS] λb2 w1 ke hb2 h9=>Qb ?_;have hl2:=h9.lt;have kf:=hA.I ke;refine Qj<|Yd U<|QQ U<|Qo U kf.B U U<|Qz<|(Z3 kf.a.al).Y ?_;rintro r2 w2 ⟨hM,hv⟩;have hz2:=hM.size;have hN:=Qq.ints (L:=[]) hv hA.a.al.le od;refine x (Qx ⟨hN.cells,Z⟩)<|QM [nS,sS 0,nS,nS] λb4 w3 ph pj hC =>
  QK [r2,sS 0,nS,nS] hC ⟨hN.one,U,U,U,Z⟩ λw4 pm hC=>xe ?_
 have T:sX w2 w4:=ph.O pm pj;have V:=ke.D hM;have hD:=V.D T;have hl4:=hC.lt;have hz24:=T.size;have gk:=hA.I hD;have pn:∀b∈ob r2,b<w2.heap.size:=Q8 hv;refine Qd<|QX (α:=Bool) [(22,36)] (λz=>[(36,.bool z)]) (λz w'=>w'=w4/\(z=true↔(q.a.st=0\/lft lf 0=false))) om ?_ ?_
 ·refine Qs<|Qa<|Yd U<|QQ U<|Qo U gk.B U U<|xb (QR U U) (λgl=>?_) (λgl=>?_)
  ·refine Qa<|Zt<|Zt<|KB<|QC U<|xe ?_;exact⟨_,La,U,by simp[gl]⟩
  have gm:(0:Int).toNat<lf.length:=by
   have:0<q.n:=oa
   simp;omega
  have po:=qM (l:=lf) (s:=0) gm;refine Qa<|Qa<|Yd U<|Qo U gk.B U U<|x (ZA (i:=0) U U (by simp at gm;omega))<|x (v:=.bool (lft lf 0)) ((Ki (i:=0) (hB.I hD) U gm).D (by rw[<-po];rfl))<|x (Zy U)<|QC U<|xe ?_;exact⟨_,La,U,by simp[gl]⟩
 rintro z g w4 ⟨rfl,hz⟩;refine QU rfl (λhO=>?_) (λhO=>?_)
 ·rw[OU (hz.1 hO)]at hf;subst hf;refine Qc<|QT hC U U<|QK [r2,sS 0,nS,nS] ((h9.I hM).I T) ⟨hN.one,U,U,U,Z⟩ λw6 hE h9=>Qb<|Qh ⟨[.agg #[r2,sS 0,nS,nS],nS],⟨Yl h9,U,Z⟩,hD.O hE oa,_,_,U,?_,U⟩;exact⟨r2,_,_,U,λL' hF=>⟨Qq.ints (Qe (Ql hv T) hE (λb E=>by have:=(Qg hv b E).1;simp;omega)) hA.a.al.le (λb E=>ov (hF b E)),Zn.nil _ _ _,Zn.nil _ _ _⟩⟩
 have kg:¬(q.a.st=0\/lft lf 0=false):=λh=>by rw[hz.2 h]at hO;cases hO
 rw[OT kg]at hf;have pp:0<q.a.st:=by have:=hq.ok.st0;omega
 have kh:(rstr q.a lf).st.toNat=q.n:=by show q.a.st.toNat=q.n;omega
 unfold Yk at hf;rw[OT (show ¬(rstr q.a lf).st=0 from λh=>kg (.inl h)),kh]at hf;refine Qf<|Qj<|Yd U<|QQ U<|Qo U gk.B U U<|Qn<|qH (n:=q.n) (OV sS hn) (OV sS hn) oa λbE w6 hE pu gn=>Qb ?_;rw[QiC]at gn;have hlE:=gn.lt;have ki:=hA.I (hD.D hE);refine Qd<|Qj<|Yd U<|QQ U<|Qo U ki.B U U<|QF ki.a.ed U<|Qa<|xe<|Q7 (α:=Nat×(Nat->O2)) [(7,7),(50,74)] (λz=>[(50,sS z.1)]) (λz w'=>z.1<=q.a.ed.length/\O5 [bE] w6 w'/\QZ ↑w' bE 64 ((oV q.n).map z.2)/\VP ↑w6 w' q.n z.2 (jI ((q.a.ed.take z.1).filter λe=>lft lf e.2.2))) (λz=>q.a.ed.length - z.1) (0,λ_=>nS) La
  ⟨Lo _,O5.Z _ _,gn,⟨λi _=>QE _ _ _ _,λi j _ _ _=>Dj.nil _⟩⟩ ?_
 rintro⟨k,rv⟩ g w7 ⟨hk,hP,kj,Y⟩;have hG:sX w4 w7:=hE.O hP pu;have go:=hD.D hG;have hz7:=hP.size;have kk:=hA.I go;refine Zo rfl U (λgp=>?_) (λgp=>?_)
 ·refine Qw ?_;have pw:q.a.ed.length<=k:=by have hQ:¬(k:Int)<(q.a.ed.length:Int):=gp;omega
  rw[Lu pw]at Y;have Y:VP ↑w6 w7 q.n rv (jI (rstr q.a lf).ed):=Y;have kn:(rstr q.a lf).ed.length<=q.a.ed.length:=Mg _ _;refine Qc<|Qn<|YM Ux λmb w8 gq pz p0=>Qn<|Jn (k:=(0:Int)) p0 U U λH gr ko=>Qa<|Qb ?_;have J:sX w7 H:=gq.O gr pz;have p1:=J.size;have hS:=ko.lt;refine Qc<|Qn<|Za [[sS 0]] λkq gs hw hb77 p2=>Qb<|Qd<|Qc<|Qb ?_;have gt:mb≠b4:=oa
  have hH:b4<H.heap.size:=oa
  have p3:=go.D J;have gu:∀b∈[b4,mb],↑w2<=b:=λb E=>by simp only[oL,oK,or_false]at E;omega
  have p4:PzA [b4,mb] ↑H bp q:=((hA.I V).up (λb E=>.inr (gu b E))).I (T.D (hG.D J));have hlw:=hB.lt;have kr:∀s,s<q.n->zP [b4,mb] ↑H (rv s) (jI (rstr q.a lf).ed s):=λs hs=>QB (Ql (Y.own s hs) J) (ov (Qcs (rstr q.a lf).ed s)) (λb E hm=>by
   have h1:=(Qg (Y.own s hs) b E).1;have h2:=Q8 (Y.own s hs) b E;simp only[oL,oK,or_false]at hm;omega)
  have hJ:=kj.I J;have kt:∀b,b<↑w2->b∉[b4,mb]:=λb E hm=>ov (gu b hm)
  have p5:bE∉[b4,mb]:=ot
  have p6:QZ ↑H b4 66 [r2,sS 0,nS,nS]:=((hC.I hG)).I J;have p7:QZ ↑H b2 66 [nS,sS 0,nS,nS]:=((h9.I hM).I T).I (hG.D J);have p8:=Ql hv (T.D (hG.D J));have p9:Qq 3 ↑H gs (sL kq 1 1) [0]:=p2.own (n:=1) (sz:=1) U oa oa;have ku:QeO (YZ (rstr q.a lf)).num (xd [] (0:Int) (sS 0)):=by
   have h0:QeO (oO q.n (-1)) ([]:List (Int×O2)):=λs hs=>by
    have qc:s<q.n:=by simpa using hs
    have:O6 (oO q.n (-1)) s=-1:=by unfold O6;simp[oR,qc]
    rw[this];rfl
   have h1:=h0.set (k:=0) (by simp;omega) (v:=0) (NQ _);unfold YZ;rw[kh];exact h1
  have gv:∀e∈(rstr q.a lf).ed,0<=e.1/\e.1<q.a.st/\0<=e.2.2/\e.2.2<q.a.st:=λe he=>by have:=(QgH hq.ok lf).ed e he;exact⟨this.1,this.2.1,this.2.2.2.1,this.2.2.2.2⟩
  have kv:UL q.a.st (YZ (rstr q.a lf)):=Qgc (a:=rstr q.a lf) pp;have kw:(rstr q.a lf).mr=q.a.mr:=rfl;refine Zf (rstr q.a lf) λR hR=>?_;rw[hR]at hf kr ku gv kv kw kn;have qf:R.al=q.a.al:=by rw[<-hR];rfl
  have hnN:q.a.st.toNat=q.n:=oa
  refine Q7 (α:=Nat×Cs×List (Int×O2)×O2×O2×O2) [(9,10),(12,14),(78,142)] (λz=>[(9,z.2.2.2.1),(10,sS z.1)])
   (λz w'=>Vn b4 mb r2 H z.2.1 z.2.2.1 z.2.2.2.1 z.2.2.2.2.1 z.2.2.2.2.2 w'/\z.1<=z.2.1.ord.length/\UL q.a.st z.2.1/\z.2.1.mk'.length<=z.1/\z.2.1.ed.length<=z.1*131072/\Jf R (q.n - z.1) z.1 z.2.1=Jf R q.n 0 (YZ R)) (λz=>q.n - z.1) (0,YZ R,xd [] (0:Int) (sS 0),sL kq 1 1,nS,nS) oB
   ⟨⟨hw.any,p6.I hw,ko.I hw,ku,p9,QE _ _ _ _,QE _ _ _ _,Dj.nil' _,Dj.nil' _,Dj.nil' _⟩,Lo _,kv,Lo _,Lo _,U⟩ ?_
  rintro⟨i,c,m,vo,vk,ve⟩ g ql ⟨O,hi,G,qm,qo,gw⟩;simp only[]at O hi G qm qo gw;have hcle:=G.le;have hT:=Qq.ints (L:=[]) O.o oa od;refine Qd<|Qj<|Qa<|QF hT U<|Z5 U U<|xe<|ZH U (λqr=>?_) (λqr=>?_)
  ·refine Qw ?_;have q0:c=Jf R q.n 0 (YZ R):=by rw[<-gw,QaT oa]
   refine Qj<|QF hT U<|QQ U<|Qn<|Qu O.B4 U U od rfl λhy V hg=>xe ?_;have q1:=Qq.ints (L:=[]) O.k oa od;have q2:=YP.eds (L:=[]) O.e (ov G.el) od;refine Qc<|QT hg U U<|Qa<|QK [r2,sS c.ord.length,vk,ve] ((p7.J O.st (kt _ oa)).J V (by simp;omega)) ⟨hN.one,U,q1.one,q2.one,Z⟩ λq3 hU q4=>Qb ?_;have kx:O5 [b4,mb] H hy:=O.st.S V (λb E=>.inl (by simp at E;simp[E]));have q5:sX w q3:=(p3.S kx (λb E=>.inr (ov (gu b E)))).O hU oa;refine Qh ⟨[.agg #[r2,sS c.ord.length,vk,ve],vo],⟨Yl q4,U,Z⟩,q5,_,_,U,?_,hT.one⟩;rw[<-q0]at hf;subst hf;have k1:=Qe (Qe O.k V (λb E=>by have:=(Qg O.k b E).1;simp;omega)) hU (λb E=>by have:=(Qg O.k b E).1;simp;omega);have k2:=Qe (Qe O.e V (λb E=>by have:=(Qg O.e b E).1;simp;omega)) hU (λb E=>by have:=(Qg O.e b E).1;simp;omega);have k3:=Qe (Qe p8 kx (λb E=>kt b (pn b E))) hU (λb E=>by have:=(Qg hv b E).1;simp;omega);exact⟨r2,vk,ve,U,λL' hF=>⟨by rw[qf];exact Qq.ints k3 hA.a.al.le (λb E=>ov (hF b E)),Qq.ints k1 (by show c.mk'.length<=_;omega) (λb E=>ov (hF b E)),YP.eds k2 (by show c.ed.length<=_;have:=G.el;omega) (λb E=>ov (hF b E))⟩⟩
  have I:i<c.ord.length:=oa
  refine Qf ?_;have kz:=ZL I;have hsr:=G.ord _ (KN I);have hj:=QgJ (a:=R) I;refine Zf (O6 c.ord i) λs0 k0=>?_;rw[k0]at kz hsr hj;have k5:s0=(s0.toNat:Int):=oa
  have gx:s0.toNat<q.n:=oa
  have q6:jI R.ed s0.toNat=Z7 R.ed s0:=by unfold jI;rw[<-k5]
  have hV:=kr s0.toNat gx;rw[q6]at hV;have j1:=Vz R.ed s0;have k6:∀e∈Z7 R.ed s0,0<=e.2.2/\e.2.2<q.a.st:=λe he=>⟨(gv e (ZV he).1).2.2.1,(gv e (ZV he).1).2.2.2⟩;refine Zf (Z7 R.ed s0) λos j2=>?_;rw[j2]at hV j1 k6 hj;refine Qd<|Qm<|Qd<|Qj<|Qa<|Qa<|xii (i:=i) hT U U I λa87 k7=>?_;rw[kz]at k7;refine x (Qy k7 U)<|x (ZA (i:=s0.toNat) U (OV sS k5) gx)<|Xn (u:=rv s0.toNat) (hJ.J O.st p5) U (Qcr gx)<|QF (hV.st O.st) U<|Qa<|xe<|Q7 (α:=Nat×Cs×List (Int×O2)×O2×O2) [(9,9),(12,14),(92,126)] (λz=>[(9,z.2.2.2.1),(92,sS z.1)])
   (λz w'=>Vn b4 mb r2 H z.2.1 z.2.2.1 z.2.2.2.1 vk z.2.2.2.2 w'/\z.1<=os.length/\UL q.a.st z.2.1/\z.2.1.mk'=c.mk'/\z.2.1.ed.length=c.ed.length+z.1/\(∃r,z.2.1.ord=c.ord++r)/\(os.drop z.1).foldl (ZC i) z.2.1=os.foldl (ZC i) c) (λz=>os.length - z.1) (0,c,m,vo,ve) oB
   ⟨O,Lo _,G,U,U,⟨[],od⟩,rfl⟩ ?_
  rintro⟨k4,d,m4,hW,hX⟩ g hy ⟨hh,j3,S,gy,k8,hY,h3⟩;simp only[]at hh j3 S gy k8 hY h3;have hcle4:=S.le;have za:=Qq.ints (L:=[]) hh.o oa od;have gz:i<d.ord.length:=by obtain⟨r,hr⟩:=hY;rw[hr,Ll];omega
  have k9:O6 d.ord i=s0:=by obtain⟨r,hr⟩:=hY;rw[hr,jr I];exact k0
  refine Zo U U (λzb=>?_) (λzb=>?_)
  ·refine Qw ?_;rw[Lt oa,NO]at h3;rw[<-h3]at hj;have ma:=p4.st hh.st;have zv:d.ord[i]'gz=s0:=by rw[ZL gz];exact k9
   have z1:Yq R i d=if s0∈q.a.mr then⟨d.ord,d.num,d.mk'++[(i:Int)],d.ed⟩else d:=by
    unfold Yq;rw[VX,MP,k9,kw]
   rw[z1]at hj;have hZ:Jf R (q.n - (i+1)) (i+1) (zx R i c)=Jf R q.n 0 (YZ R):=by
    rw[<-gw];obtain⟨t,ht⟩:∃t,q.n - i=t+1:=⟨q.n - i - 1,oa⟩;rw[ht,Jf,OU I,show q.n - (i+1)=t by omega]
   have hm4l:=OV oQ gy;refine Qd<|Zz [] (YW 0 10 [9])<|p Qv<|p (Yt U)<|p (QG U)<|p (QG U)<|pq (λ_ G=>Qk (ma.B.I G) U U)<|p Qv <|
    p Qv<|pii (i:=i) U za U U gz λa134 mf=>?_
   rw[zv]at mf;refine pq (λ_ G=>Qy (mf.I G) U)<|pk<|xg<|(Yr (ma.a.mr.I (O5.C _ _)) s0).Y ?_;rintro r16 w16 ⟨rfl,rfl⟩;refine⟨O5.C _ _,pe ?_⟩;have ha:=hh.I (O5.C [] hy);refine ZH U (λg0=>?_) (λg0=>?_)
   ·rw[OT g0]at hj;refine Qf<|Qs<|Qa<|QH U U<|Qb ?_;rw[hj]at hZ;exact⟨(i+1,d,m4,hW,vk,hX),og,oB,ha,og,S,og,og,hZ⟩
   rw[OU g0]at hj;refine Qs<|Qo U ha.B4 U U<|Qa<|Qn<|Za [[sS i]] λb140 w17 z2 hb140 z3=>?_;have hK:=ha.I z2;refine Qn<|Q2 (news:=[sS i]) (L:=[]) hK.k U U U (z3.at od) oq oa hK.st.size λmg z4 mh mj hn18=>?_;have hk18:Qq 3 ↑H z4 mg (d.mk'++[(i:Int)]):=Qq.snoc mh;refine QQ U<|Qn<|Qu (hK.B4.J mj (QP hK.k hH)) U U od (Qp mh) λw19 hs19 hB19=>xe ?_;have hI19:=hK.setK hH hS gt mj hk18 hn18 hs19 hB19;refine Qs<|Qa<|QH U U<|Qb ?_;rw[hj]at hZ;exact⟨(i+1,⟨d.ord,d.num,d.mk'++[(i:Int)],d.ed⟩,m4,hW,mg,hX),og,oB,hI19,og,⟨S.nl,S.sum,S.ord,S.num,S.el⟩,by simp only[oN,oP];omega,og,hZ⟩
  refine Qf ?_;have ga:k4<os.length:=oa
  have hdr:=Zc ga;rw[hdr,L5]at h3;have g2:=k6 _ (Lm ga);refine Zf (os[k4]'ga) λe he=>?_;rw[he]at h3 g2;have gb:e.2.2=(e.2.2.toNat:Int):=oa
  have gc:e.2.2.toNat<d.num.length:=by rw[S.nl];omega
  have mo:=hh.nm e.2.2.toNat gc;rw[<-gb]at mo;have mq:Yg d.num e.2.2=O6 d.num e.2.2.toNat:=rfl;refine Qd<|Qm<|Qc<|xie (hV.st hh.st) U U ga λa94 ms=>?_;rw[he]at ms;refine x (Qr ms U U)<|QM [sS 0,sS 0,sS 0] λb12 w20 hs20 g3 hg=>QK (QA e) hg oC λgg hs21 hg=>xe ?_;have mt:sX hy gg:=hs20.O hs21 g3;have ha:=hh.I mt;have hl12:=hg.lt;have hz21:=mt.size;have hIz:=hh.st.size;have hc5:UL q.a.st (ZC i d e):=Qcg S g2.1 g2.2 (ov S.el);have mu:ZC i d e=⟨(YD d e).ord,(YD d e).num,(YD d e).mk',(YD d e).ed++[((i:Int),e.2.1,Yg (YD d e).num e.2.2)]⟩:=yp gc;refine QX (α:=O2) [(13,14),(96,102)] (λz=>[(13,sS (if O6 d.num e.2.2.toNat<0 then 0 else O6 d.num e.2.2.toNat)),(14,.bool (!decide (O6 d.num e.2.2.toNat<0)))]) (λz w'=>w'=gg) om ?_ ?_
  ·refine Qs<|Qa<|Qo U hg U U<|x (v:=.tuple #[sS (if O6 d.num e.2.2.toNat<0 then 0 else O6 d.num e.2.2.toNat),.bool (!decide (O6 d.num e.2.2.toNat<0))]) ((Vy (k:=e.2.2) ha.M U U).D (OV (λv=>Result.ok (Next.value v) _) ?_))<|Qa<|QW U U<|QW U U<|x Qi<|Qb ?_
   ·rw[mo];by_cases ho:O6 d.num e.2.2.toNat<0
    ·simp[ho]
    simp[ho]
   exact⟨.bool true,oB,U⟩
  rintro z5 g gg rfl;refine QX (α:=O2×List (Int×O2)×Int) [(9,9),(13,13),(103,115)] (λz=>[(9,z.1),(13,sS z.2.2)]) (λz w'=>O6 (YD d e).num e.2.2.toNat=z.2.2/\Vn b4 mb r2 H (YD d e) z.2.1 z.1 vk hX w'/\QZ ↑w' b12 159 (QA e)/\gg.heap.size<=↑w') om ?_ ?_
  ·refine Qj<|x (Zy U)<|xe<|QU U (λg4=>?_) (λg4=>?_)
   ·have ho:O6 d.num e.2.2.toNat<0:=by simpa using g4
    have hL:YD d e=⟨d.ord++[e.2.2],d.num.set e.2.2.toNat d.ord.length,d.mk',d.ed⟩:=by unfold YD;rw[mq,OU ho]
    have hcg:O6 (YD d e).num e.2.2.toNat=(d.ord.length:Int):=by rw[hL];unfold O6;simp[oR,gc]
    refine Qj<|QF (Qq.ints (L:=[]) ha.o oa od) rfl<|Qb<|Qj<|Qo rfl hg rfl rfl<|Qa<|Qn<|XY (k:=e.2.2) ha.M rfl rfl λw22 g5 hM22=>xe ?_;have mv:=ha.nm.set gc (v:=(d.ord.length:Int)) oa;rw[<-gb]at mv;have hI6:=ha.setN hS gt g5 hM22 mv;have gh:=hg.J g5 (by simp;omega);refine Qs<|Qa<|Qo U gh U U<|Qn<|Za [[sS e.2.2]] λb114 w23 g6 hb114 hB114=>?_;have g7:=hI6.I g6;refine Qn<|Q2 (news:=[sS e.2.2]) (L:=[]) g7.o U U U (hB114.at od) oq (by show d.ord.length+1<=_;omega) g7.st.size λv24 w24 ho24 T hn24=>Qb ?_;have hk24:Qq 3 ↑H w24 v24 (d.ord++[e.2.2]):=Qq.snoc ho24;have hb12o:b12∉ob hW:=λE=>ov (Q8 hh.o b12 E)
    have h4:=g7.setO hH hS T hk24 hn24;have:=g5.size;have:=g6.size;have:=T.size;refine⟨(v24,xd m4 e.2.2 (sS d.ord.length),(d.ord.length:Int)),oB,hcg,?_,(gh.I g6).J T hb12o,oa⟩;simp only[];rw[hL];exact h4
   have ho:¬O6 d.num e.2.2.toNat<0:=by simpa using g4
   have hL:YD d e=d:=by unfold YD;rw[mq,OT ho]
   have kc:(if O6 d.num e.2.2.toNat<0 then 0 else O6 d.num e.2.2.toNat)=O6 (YD d e).num e.2.2.toNat:=by rw[hL,OT ho]
   refine Qf<|⟨(hW,m4,if O6 d.num e.2.2.toNat<0 then 0 else O6 d.num e.2.2.toNat),oB,kc.symm,?_,hg,Lx _⟩
   rw[hL];exact ha
  rintro⟨vo5,m5,tn⟩ g w25 ⟨mw,h4,gh,hz25⟩;simp only[]at h4 mw;have my:(YD d e).ed=d.ed:=by unfold YD;split <;> rfl
  have hgN:Yg (YD d e).num e.2.2=O6 (YD d e).num e.2.2.toNat:=rfl;rw[hgN,my,mw]at mu;have heN:YP 159 ↑H w25 hX d.ed:=by have:=h4.e;rw[my]at this;exact this
  refine Qs<|Qo U h4.B4 U U<|Qa<|Qo U gh U U<|Qa<|x (Qx ⟨U,U,U,Z⟩) <|
   Qn<|Za [QA ((i:Int),e.2.1,tn)] λb123 w26 mz hb123 hB123=>?_
  have gi:=h4.I mz;refine Qn<|Q2 (m:=1) (news:=QA ((i:Int),e.2.1,tn)) (L:=[]) (Ql heN mz) U U U (hB123.at od) (λu hu=>by simp only[QA,oL,oK,or_false]at hu;rcases hu with rfl|rfl|rfl <;> rfl) (ov S.el) gi.st.size λm2 w27 m3 m6 hn27=>?_
  have hk27:YP 159 ↑H w27 m2 (d.ed++[((i:Int),e.2.1,tn)]):=YP.snoc m3;refine QQ U<|Qn<|Qu (gi.B4.J m6 (QP gi.e hH)) U U od (Qp m3) λw28 hs28 hB28=>xe ?_;have m7:=gi.setE hH hS gt m6 hk27 hn27 hs28 hB28;rw[<-mu]at m7;refine Qs<|QH U U<|Qa<|xe<|⟨(k4+1,ZC i d e,m5,vo5,m2),og,oB,m7,og,hc5,?_,?_,?_,h3⟩
  ·simp only[];rw[<-gy];exact(Qch i d [] e).2
  ·simp only[];rw[Qci,k8];omega
  simp only[];obtain⟨r1,h1⟩:=j7 i d e;obtain⟨r2',h2⟩:=hY;exact⟨r2'++r1,by rw[h1,h2,LC]⟩
 refine Qf ?_;have I:k<q.a.ed.length:=by have hQ:(k:Int)<(q.a.ed.length:Int):=gp;omega
 have m8:=hq.ok.ed _ (Lm I);have htk:q.a.ed.take (k+1)=q.a.ed.take k++[q.a.ed[k]'I]:=Ln I;have h5:(q.a.ed.take (k+1)).filter (λe=>lft lf e.2.2)=(q.a.ed.take k).filter (λe=>lft lf e.2.2)++if lft lf (q.a.ed[k]'I).2.2=true then[q.a.ed[k]'I]else[]:=by
  rw[htk,L4];congr 1;by_cases h:lft lf (q.a.ed[k]'I).2.2=true
  ·simp[h]
  simp[h]
 have hfll:((q.a.ed.take k).filter (λe=>lft lf e.2.2)).length<=k:=LH (Mg _ _) (by rw[LB];omega);refine Zf ((q.a.ed.take k).filter (λe=>lft lf e.2.2)) λkept hkept=>?_;rw[hkept]at h5 Y hfll;refine Zf (q.a.ed[k]'I) λe he=>?_;rw[he]at m8 h5;have m9:e.1=(e.1.toNat:Int):=oa
 have gb:e.2.2=(e.2.2.toNat:Int):=oa
 have hp:e.1.toNat<q.n:=oa
 refine Qd<|Qm<|Qc<|xie kk.a.ed U U I λa52 hQ=>?_;rw[he]at hQ;refine x (Qr hQ U U)<|QM [sS 0,sS 0,sS 0] λb7 w8 gq hb7 h6=>QK (QA e) h6 oC λH gr h6=>xe ?_;have J:sX w7 H:=gq.O gr hb7;have p1:=J.size;have g8:=Y.I J;have hJ:=kj.I J;refine Qd<|Zz [] (YW 0 8 [])<|p Qv<|p (Yt U)<|p (QG U)<|pq (λ_ G=>Qk ((kk.I J).B.I G) U U)<|p (QG U)<|pq (λ_ G=>Qk (h6.I G) U U) <|
  p (λ_=>ZA (i:=e.2.2.toNat) U (OV sS gb) oa)<|pq (v:=.bool (lft lf e.2.2)) (λ_ G=>(Ki (i:=e.2.2.toNat) ((hB.I (go.D J)).I G) U oa).D (by rw[(qM (l:=lf) (s:=e.2.2) oa)]))<|pe ?_
 have h7:sX H { H with drawn:=H.drawn+1 }:=O5.C _ _
 refine QU rfl (λg9=>?_) (λg9=>?_)
 ·rw[OU g9]at h5;have ka:∀b∈ob (rv e.1.toNat),↑w6<=b/\b<w7.heap.size:=λb E=>⟨(Qg (Y.own _ hp) b E).1,Q8 (Y.own _ hp) b E⟩;have pa:bE∉ob (rv e.1.toNat):=λE=>ov (ka _ E)
  have kb:b7∉ob (rv e.1.toNat):=λE=>ov (ka _ E)
  have kn:=Qcs kept e.1.toNat;refine qZ (O5 (ob (rv e.1.toNat)) H) [oE 0,oE 1,oE 2,oE 3,oE 4,oE 5,oE 6,oE 7,oE 8,oF 9,oF 10,oE 11,oF 12] mixed om oe (h7.any.Q (O5.C _ _)) ?_;refine p Qv<|p (QG U)<|pq (λ_ G=>Qk (h6.J G kb) U U)<|p Qv<|p (QG U) <|
   pq (λ_ G=>Qk (h6.J G kb) U U)<|p (λ_=>ZA (i:=e.1.toNat) U (OV sS m9) hp)<|pq (λ_ G=>Qk (u:=rv e.1.toNat) (hJ.J G pa) U (Qcr hp)) <|
   pq (λ_ G=>Zu (h6.J G kb) U U)<|pk<|Za [QA e] λb71 gs hw hb71 hB71=>⟨(h7.any.Q (O5.C _ _)).Q hw.any,?_⟩
  have h8:sX H gs:=(h7.D (O5.C _ _)).D hw;have hz10:=h8.size;refine pk<|Q2 (m:=1) (news:=QA e) (L:=[]) (Ql (g8.own _ hp) h8) U U U (hB71.at od) (λu hu=>by simp only[QA,oL,oK,or_false]at hu;rcases hu with rfl|rfl|rfl <;> rfl) oa oa λvr ql pc gj hn11=>⟨h8.any.Q gj,?_⟩
  have hlen:((oV q.n).map rv).length=q.n:=od
  refine p (λ_=>ZA (i:=e.1.toNat) U (OV sS m9) hp)<|pkk<|Qu (j:=0+e.1.toNat*1) (u:=vr) ((hJ.I h8).J gj pa) U U (by rw[hlen];omega) (Qp pc) λhy V hBE12=>pe ?_;have g3:QZ ↑hy bE 64 ((oV q.n).map (Ur rv e.1.toNat vr)):=by
   have e1:=Qic id q.n rv e.1.toNat vr;simp only[id]at e1;rw[<-e1];simpa using hBE12
  have hvn:∀b∈ob vr,b∈ob (rv e.1.toNat)\/↑H<=b:=λb E=>(hn11 b E).imp id (λh=>oa);have pd:=g8.app hp (YP.snoc pc) (h8.any.Q gj) hvn;have pf:=pd.J V (λi hi b E=>by have:=(Qg (pd.own i hi) b E).1;simp only[oJ];omega);rw[QgI kept e m8.1,<-h5]at pf;refine Qs<|QH U U<|Qa<|xe ?_;exact⟨(k+1,Ur rv e.1.toNat vr),og,La,I,(((hP.D J).D h8).S gj (λb E=>.inr (ka b E).1)).Q V,g3,pf⟩
 rw[OT (by rw[g9];decide),LS]at h5;refine Qf<|Qs<|QH U U<|Qa<|xe ?_;exact⟨(k+1,rv),og,La,I,(hP.D J).D h7,(hJ.I h7),by simp only[];rw[h5];exact g8.I h7⟩
open Go.Sort
abbrev Rz:={ x:Int×Int×Int×Int // 0<=x.1/\x.1<4096 }
instance:Inhabited Rz:=⟨⟨(0,0,0,0),ol⟩⟩
abbrev zt (x:Rz):LV:=[sS x.1.1,sS x.1.2.1,sS x.1.2.2.1,sS x.1.2.2.2]
abbrev RzO (base:Nat)(w:O1)(v:O2)(l:List Rz):Prop:=w.ownsRow base 261 4 v l.length (l.flatMap zt)
theorem QqZ (x y:Rz)(W:O1):Calls sV 235 #[sT (zt x),sT (zt y)] W λe w'=>e=.returned (sS (x.1.1 - y.1.1))/\∃q os',w'=grow (W.drewN q) os':=by
 have E:IntKind.i64.wrap (x.1.1 - y.1.1)=x.1.1 - y.1.1:=YR ⟨oy x.2 y.2,oy x.2 y.2⟩
 go_enter func235,ntmps235
 go_wp2
 go_ret;exact⟨by rw[<-E];rfl,0,_,by rw[alloc_eq_grow,alloc_eq_grow,grow_grow];rfl⟩
theorem Qbk (x:Rz):(zt x).length=4:=rfl
theorem Qbj:∀l:List Rz,(l.flatMap zt).length=l.length*4
 | []=>rfl
 | x::l=>by rw[LM,Ll,Qbj l,Qbk,LU];omega
theorem Qe9 {l:List Rz}(I:j<l.length*4):(l.flatMap zt)[j]?=some ((flatK zt 4 l.toArray)[j]!):=by
 have E:j / 4<l.length:=Nat.div_lt_of_lt_mul oa;have G:j % 4<4:=NH _ ol;rw[get_flatK _ _ _ _ (oA I)];have J:(l.flatMap zt)[j]?=(zt (l[j / 4]'E))[j % 4]?:=by
  rw[<-(Xw zt 4 Qbk l (j / 4) E),LW,OU G,My];congr 1;omega
 rw[J];have O:(l.toArray)[j / 4]! = l[j / 4]'E:=by simp[E]
 rw[O];have H:j % 4<(zt (l[j / 4]'E)).length:=G;exact(LG H).D (OV some (getElem!_pos (zt (l[j / 4]'E)) (j % 4) H).symm)
theorem Qiz:SWO (ltOf λx y:Rz=>x.1.1 - y.1.1) where
 irrefl x:=by unfold ltOf;simp
 trans x y z h1 h2:=by unfold ltOf at *;simp at *;omega
 ntrans x y z h1 h2:=by unfold ltOf at *;simp at *;omega
def zr (l:List Rz):List Rz:=(pdq (ltOf λx y:Rz=>x.1.1 - y.1.1) l.toArray 0 l.toArray.size (Go.Lib.bitLen l.toArray.size) true true).toList
theorem yt (l:List Rz):(zr l).length=l.length:=by
 unfold zr;simpa using((pdq_sorts (ltOf λx y:Rz=>x.1.1 - y.1.1) Qiz l.toArray 0 l.toArray.size (Go.Lib.bitLen l.toArray.size) true true (Lo _) (Lx _) (Or.inl rfl)).1.1)
theorem QgA {base:Nat}{v:O2}{l:List Rz}(h:RzO base w v l)(hl:l.length<=1099511627776):
  QY sV 234 [v,.func (.func 235) #[] #[]] w λ_ w'=>O5 (ob v) w w'/\RzO base w' v (zr l):=by
 unfold QY;rcases h.2 with⟨rfl,h0⟩|⟨g,cap,cur,rfl,hb,I,hf,hh,hm,ho⟩
 ·have hp:l=[]:=Ls h0;subst hp;have H:=AnyF.slices_SortFunc_none Tryz.sortRm none 0 (.func (.func 235) #[] #[]) w;change Calls sV 234 _ _ _ at H;refine Calls.mono H λe w' J=>?_;obtain⟨rfl,rfl⟩:=J;rw[show zr []=[] from Ls (yt [])];exact⟨O5.Z _ _,h⟩
 have V:g<w.heap.size:=(LK.1 I).1;have hH:HoldsK zt 4 w g 0 l.toArray:=by
  intro j E;rw[size_flatK,LR]at E;have Y:=Qe9 E;rw[<-ho,LW,OU E]at Y;constructor
  ·show(match w.heap[g]? with|some (.cells c _ _)=>if(none:Option _).isSome then none else c[0+j]?|_=>none)=_
   rw[I];simp only[oZ,OE,OF,if_false];rw[<-Mq,Y];rfl
  show(match w.heap[g]? with|some (.cells _ _ (lo,hi))=>decide (lo<=0+j) && decide (0+j<hi)|_=>false)=false
  rw[I];simp
 have eg:∀args w,(callFunc 235 args).run sV w=.ok (.enter 235 args) w:=enters_of func235 oe U;have H:=AnyQ.slices_SortFunc_eq Tryz.sortRm 4 isAgg261 sizeOf261 zt Qbk (λx v hv=>by simp at hv;rcases hv with rfl|rfl|rfl|rfl <;> rfl) (λx y=>x.1.1 - y.1.1) Qiz 235 #[] g 0 cap l.toArray w eg (λm os dk _ x y=>QqZ x y _) hH V (by simp;omega)
 change Calls sV 234 _ _ _ at H;rw[LR]at H;refine Calls.mono H λe w' J=>?_;obtain⟨rfl,n,os,rfl⟩:=J;refine Zf (zr l).toArray λG O=>?_;have S:G.size=l.length:=by rw[<-O];simpa using yt l
 have hq:zr l=G.toList:=by rw[<-O]
 have ha:pdq (ltOf λx y:Rz=>x.1.1 - y.1.1) l.toArray 0 l.toArray.size (Go.Lib.bitLen l.toArray.size) true true=G:=by rw[<-O];unfold zr;simp
 rw[LR]at ha;rw[ha,hq];have T:(sortWorldK zt 4 w g 0 n G os).heap=w.heap.modify g (onCells (putCells id 0 (flatK zt 4 G)))++os:=rfl;refine⟨⟨rfl,U,U,?_,λk hk hn=>?_⟩,?_⟩
 ·rw[T,MY,Mi];omega
 ·rw[T,Mj,Mi,OU hk,Mx,OT (λe=>hn (by simp[ob,e]))]
 refine⟨Qbj _,.inr ⟨g,cap,putCells id 0 (flatK zt 4 G) cur,by simp[S],hb,?_,by simp[S];exact hf,hh,by simp[putCells,hm],?_⟩⟩
 ·rw[T,Mj,Mi,OU V,Mx,OU rfl,I];rfl
 apply M5;intro j;rw[LW];by_cases E:j<G.toList.length*4
 ·rw[OU E,Qe9 E,Mq];have hr:j<cur.size:=by simp[S]at E;omega
  have hs:j<(flatK zt 4 G).size:=by simpa using E
  simp only[putCells,Ox,Ol hr,Oz,OR,oZ,true_and,OU hs,OJ,id]
 rw[OT E,MX];rw[Qbj];omega
theorem QoM (G:ZK a)(J:a.st=(n:Int))(O:lf.length=n):∀x∈nxs a ul lf,0<=x/\x<(n:Int):=λx hx=>by
 have E:=Qi5 x hx;have S:x.toNat<n:=by
  refine Decidable.byContradiction λh=>?_;unfold lft at E;simp[oR,List.getElem?_eq_none (show lf.length<=x.toNat by omega)]at E
 unfold nxs at hx;split at hx
 ·obtain⟨p,H,rfl⟩:=LD.1 hx;obtain⟨_,e,I,T,_⟩:=(QbB a ul lf).1 p H;have:=G.ed e I;omega
 have:=((qn lf (dsts a lf) 0).1 x hx).2;omega
abbrev Q4:=Int×Int×Int×Int
abbrev q4C (x:Q4):LV:=[sS x.1,sS x.2.1,sS x.2.2.1,sS x.2.2.2]
theorem QiP (x:Q4):(q4C x).length=4:=rfl
def Qom (x:Q4):Rz:=if h:0<=x.1/\x.1<4096 then⟨x,h⟩else default
theorem Qcb:∀l:List Rz,(l.map (·.1)).map Qom=l
 | []=>rfl
 | x::l=>by
  rw[LJ,LJ,Qcb l];congr 1;unfold Qom;rw[dif_pos x.2]
theorem QmT (l:List Rz):(l.map (·.1)).flatMap q4C=l.flatMap zt:=by rw[List.flatMap_map]
def rmR (rk:Int)(r:Int×xw):List Q4:=r.2.map λp=>(p.1,rk,r.1,p.2)
def rmL (a:Q6)(ul:LI):Nat->Int->Lf->List Q4
 | 0,_,_=>[]
 | f+1,rk,lf=>if(nxs a ul lf).length=0 then[]else rmR rk (nxR a ul lf)++rmL a ul f (rk+1) ((nxs a ul lf).foldl cut lf)
theorem QiF {f:Nat}{rk:Int}(h:(nxs a ul lf).length=0):rmL a ul f rk lf=[]:=by
 cases f with
 | zero=>rfl
 | succ f=>rw[rmL,OU h]
theorem QiE {f:Nat}{rk:Int}(h:(nxs a ul lf).length≠0):rmL a ul (f+1) rk lf=rmR rk (nxR a ul lf)++rmL a ul f (rk+1) ((nxs a ul lf).foldl cut lf):=by rw[rmL,OT h]
def rmF (fb:LI):List Q4:=fb.map λy=>(y,1,1,-1)
def rmA (a:Q6)(fb ul:LI):List Q4:=rmF fb++rmL a ul (a.st.toNat+1) 2 (lf0 a.st.toNat fb)
def rmS (a:Q6)(fb ul:LI):List Q4:=(zr ((rmA a fb ul).map Qom)).map (·.1)
def kpI (lf:Lf)(n:Nat):LN:=(oV n).filter λi=>lf.getD i false
def kpK (lf:Lf)(n:Nat):LI:=(kpI lf n).map λi:Nat=>(i:Int)
def kpD (lf:Lf)(D:LI)(n:Nat):LI:=(kpI lf n).map λi=>O6 D i
theorem QqC (h:lf.getD n false=true):kpI lf (n+1)=kpI lf n++[n]:=by
 unfold kpI;rw[NC,L4,Md,OU h];rfl
theorem QqD (h:lf.getD n false=false):kpI lf (n+1)=kpI lf n:=by
 unfold kpI;rw[NC,L4,Md,OT (by rw[h];decide)];exact LS _
structure jV (L:LN)(H:xA)(c0 c1 c2:O2)(a:Q6)(fb ul:LI):Prop where
 k:QL L H c0 (kpK (Qbm a fb ul) a.st.toNat)
 d:QL L H c1 (kpD (Qbm a fb ul) (dsts a (Qbm a fb ul)) a.st.toNat)
 r:Zn L H c2 (rmS a fb ul).length 4 ((rmS a fb ul).flatMap q4C)
theorem jV.st {L:LN}{w w':O1}{c0 c1 c2:O2}{a:Q6}{fb ul:LI}(h:jV L ↑w c0 c1 c2 a fb ul)(E:O5 L w w'):jV L ↑w' c0 c1 c2 a fb ul:=⟨h.k.st E,h.d.st E,h.r.st E⟩
theorem jV.up {L L':LN}{H:xA}{c0 c1 c2:O2}{a:Q6}{fb ul:LI}(h:jV L H c0 c1 c2 a fb ul)(E:∀b∈L',b∈L\/H.size<=b):jV L' H c0 c1 c2 a fb ul:=⟨h.k.up E,h.d.up E,h.r.up E⟩
theorem QnT {rk rs:Int}:∀(l:xw),(∀x∈l.map (·.1),0<=x/\x<4096)->∃lz:List Rz,lz.flatMap zt=l.flatMap (rmC rk rs)/\lz.length=l.length/\lz.map (·.1)=rmR rk (rs,l)
 | [],_=>⟨[],U,U,U⟩
 | x::l,h=>by
  obtain⟨lz,E,G,H⟩:=QnT (rk:=rk) (rs:=rs) l (λy I=>h y (Lk _ I));exact⟨⟨(x.1,rk,rs,x.2),h x.1 Lq⟩::lz,by rw[LM,LM,E],by simp[G],by rw[LJ,H];rfl⟩
theorem Qfh:∀l:List Rz,∀u∈l.flatMap zt,u.oneCell'=true
 | [],u,h=>by cases h
 | x::l,u,h=>by
  rw[LM,Lc]at h;rcases h with h|h
  ·simp only[zt,oL,oK,or_false]at h;rcases h with rfl|rfl|rfl|rfl <;> rfl
  exact Qfh l u h
theorem RzO.snoc {base:Nat}{v:O2}{l m:List Rz}(h:w.ownsRow base 261 4 v (l.length+m.length) (l.flatMap zt++m.flatMap zt)):RzO base w v (l++m):=by
 unfold RzO;rw[Ll,LA];exact h
abbrev Vw (k d r:O2)(n:Int):LV:=[k,d,r,sS n,nS,sS 0,nS,nS,nS]
structure ReI (b10:Nat)(q:Pz)(wB:O1)(lf:Lf)(rn:Int)(vr:O2)(lz:List Rz)(w:O1):Prop where
 st:O5 [b10,q.bl] wB w
 B10:QZ ↑w b10 216 (Vw (nS) (nS) vr rn)
 R:RzO ↑wB w vr lz
 F:QZ ↑w q.bl 4 (lf.map Value.bool)
 n:lf.length=q.n
section
variable {b10:Nat}{q:Pz}{wB w'':O1}{rn:Int}{vr:O2}{lz:List Rz}
theorem ReI.I (h:ReI b10 q wB lf rn vr lz w)(E:sX w w'):ReI b10 q wB lf rn vr lz w':=⟨h.st.D E,h.B10.I E,Ql h.R E,h.F.I E,h.n⟩
theorem ReI.cut (h:ReI b10 q wB lf rn vr lz w)(l:q.bl<↑wB)(ne:b10≠q.bl)(G:O5 [q.bl] w w'){H:Lf}(I:QZ ↑w' q.bl 4 (H.map Value.bool))(J:H.length=q.n):ReI b10 q wB H rn vr lz w' :=
 ⟨h.st.S G (λb E=>.inl (by simp only[oJ]at E;simp[E])),h.B10.J G (oA ne),Qe h.R G (λb E=>by have:=(Qg h.R b E).1;simp only[oJ];omega),I,J⟩
theorem ReI.app (h:ReI b10 q wB lf rn vr lz w)(l:q.bl<↑wB)(T:b10<wB.heap.size)(ne:b10≠q.bl){G:O2}{I:List Rz}{J:Int}(O:O5 (ob vr) w w')(hR:RzO ↑wB w' G I)(H:O5 [b10] w' w'')
  (S:QZ ↑w'' b10 216 (Vw (nS) (nS) G J)):ReI b10 q wB lf J G I w'':=by
 have hge:=Qg h.R;exact⟨(h.st.S O (λb E=>.inr (hge b E).1)).S H (λb E=>.inl (by simp only[oJ]at E;simp[E])),S,Qe hR H (λb E=>by have:=(Qg hR b E).1;simp only[oJ];omega),
  (h.F.J O (λE=>ov (hge _ E).1)).J H (oA ne.symm),h.n⟩
theorem ReI.rounds (h:ReI b10 q wB lf rn vr lz w)(J:b10<wB.heap.size)(ne:b10≠q.bl){H:Int}(G:O5 [b10] w w')(I:QZ ↑w' b10 216 (Vw (nS) (nS) vr H)):ReI b10 q wB lf H vr lz w' :=
 ⟨h.st.S G (λb E=>.inl (by simp only[oJ]at E;simp[E])),I,Qe h.R G (λb E=>by have:=(Qg h.R b E).1;simp only[oJ];omega),h.F.J G (oA ne.symm),h.n⟩
end
theorem QgK {vf vu:O2}{forb unc:LI}(h:ZM [] ↑w va vm ve a)(h6:ZK a)(hf:QL [] ↑w vf forb)(kc:∀x∈forb,0<=x/\x<a.st)(hfl:forb.length<=4096)(hu:QL [] ↑w vu unc):
  QY sV 156 [.agg #[va,sS a.st,vm,ve],vf,vu,.bool true] w λr w'=>sX w w'/\∃c0 c1 c2 c3 sa sm se o,r=.agg #[c0,c1,c2,c3,sa,sS (Qbb a forb unc).st,sm,se,o] /\
   Zb [c0,c1,c2,c3,o]/\∀L:LN,(∀b∈L,b<↑w)->ZM L ↑w' sa sm se (Qbb a forb unc)/\jV L ↑w' c0 c1 c2 a forb unc:=by
 have hst0:=h6.st0;have hst1:=h6.st1;obtain⟨n,hn⟩:∃n:Nat,a.st=n:=⟨a.st.toNat,oa⟩;have h7:a.st.toNat=n:=oa
 have hR:Qbb a forb unc=Qio a (yD a unc (n+1) (lf0 n forb)):=by unfold Qbb Qbm;rw[h7]
 have mt:rmA a forb unc=rmF forb++rmL a unc (n+1) 2 (lf0 n forb):=by unfold rmA;rw[h7]
 have gl:Qbm a forb unc=yD a unc (n+1) (lf0 n forb):=by unfold Qbm;rw[h7]
 refine Zf (Qbb a forb unc) λSA mu=>?_;rw[mu]at hR ⊢;refine Zq func156 ?_;refine Qc<|Zl [va,sS a.st,vm,ve] λb4 w1 ke hb4 mv=>QM (Vw (nS) (nS) (nS) 0) λb8 w2 kf hb8 kg=>xe ?_;have hS:=ke.D kf;have hl8:=kg.lt;have hz1:=ke.size;refine Qc<|QT (mv.I kf) U U<|Qa<|Qa<|Qz<|(Qip (h.I hS) h6 hn (hf.I hS) kc (hu.I hS)).Y ?_;rintro r3 w3 ⟨kh,bp,q,rfl,mw,my,mz,hbl,hP,hF⟩;refine Qb ?_;subst mw my mz;have hq:PzQ q:=⟨h6,hn⟩;have m2:=hS.D kh;have hlF:=hF.lt;refine Qc<|QM (Vw (nS) (nS) (nS) 0) λb10 O h8 m3 ki=>xe ?_;have gm:=m2.D h8;have hz4:=h8.size;have hT:=ki.lt;have hr:b10≠q.bl:=oa
 have gn:q.bl<O.heap.size:=oa
 have m4:PzA [b10,q.bl] ↑O bp q:=(hP.up (λb E=>by
  simp only[oL,oK,or_false]at E;rcases E with rfl|rfl
  ·exact .inr m3
  exact .inl od)).I h8
 have m5:=Qmv q.n forb;have h9:∀{w'},O5 [b10,q.bl] O w'->PzA [] ↑w' bp q:=λhs=>(m4.st hs).up od;refine Qd<|Qj<|QF (hf.I gm) U<|Qa<|xe<|Q7 (α:=Nat×Int×O2×List Rz) [(12,12),(25,39)] (λz=>[(25,sS z.1)]) (λz w'=>z.1<=forb.length/\ReI b10 q O (lf0 q.n forb) z.2.1 z.2.2.1 z.2.2.2 w'/\z.2.2.2.length=z.1/\(z.2.1=0\/z.2.1=1)/\z.2.2.2.map (·.1)=rmF (forb.take z.1)) (λz=>forb.length - z.1) (0,0,nS,[]) La
  ⟨Lo _,⟨O5.Z _ _,ki,QE _ _ _ _,hF.I h8,m5⟩,U,.inl U,U⟩ ?_
 rintro⟨k,rn,vr,lz⟩ g w5 ⟨hk,I,go,hU,hV⟩;simp only[]at hk I go hU hV;have m6:QL [] ↑w5 vf forb:=((hf.up (L':=[b10,q.bl]) (λb E=>by
  simp only[oL,oK,or_false]at E;exact .inr oa)).I gm |>.st I.st).up od
 refine Zo rfl U (λgp=>?_) (λgp=>?_)
 ·refine Qw ?_;have hcl:=Qno (lf0 q.n forb);have m7:forb.length<=k:=by have hW:¬(k:Int)<(forb.length:Int):=gp;omega
  rw[Lu m7]at hV;refine Qd<|Qc<|Qb<|Q7 (α:=Nat×Nat×Int×O2×List Rz×Lf) [(13,14),(16,16),(40,71)] (λz=>[(13,sS z.2.1)])
   (λz w'=>ReI b10 q O z.2.2.2.2.2 z.2.2.1 z.2.2.2.1 z.2.2.2.2.1 w'/\z.2.1+z.1=q.n+3/\z.2.2.2.2.1.length<=4096+z.2.1*1000000/\yD q.a q.unc z.1 z.2.2.2.2.2=yD q.a q.unc (q.n+1) (lf0 q.n forb)/\UA z.2.2.2.2.2+1<=z.1/\z.2.2.2.2.1.map (·.1)++rmL q.a q.unc z.1 (z.2.1:Int) z.2.2.2.2.2=rmA q.a forb q.unc) (λz=>z.1) (q.n+1,2,rn,vr,lz,lf0 q.n forb) La ⟨I,og,og,U,og,by rw[mt];simp only[hV];rfl⟩ ?_
  rintro⟨f,rank,rn,vr,lz,lf⟩ g w6 ⟨I,m8,go,hA,m9,hB⟩;simp only[]at I m8 go hA m9 hB;refine Qd<|Qm<|Qj<|Qa<|Qa<|Qz<|(QiU (h9 I.st) hq I.F I.n rank).Y ?_;rintro r7 w7 ⟨hX,hC,kj⟩;have hh:=Qmj q.a q.unc lf;have kk:=λ(f:Nat) (h:(nxs q.a q.unc lf).length≠0)=>QiE (a:=q.a) (ul:=q.unc) (f:=f) (rk:=(rank:Int)) (lf:=lf) h;refine Zf (nxR q.a q.unc lf) λNR pa=>?_;rw[pa]at hC kj hh kk;obtain⟨rs,l⟩:=NR;simp only[]at hC kj hh;refine Qb ?_;have T:=I.I hX;have kn:Zn [] ↑w7 r7 l.length 4 (l.flatMap (rmC rank rs)):=QB hC oa od;have gq:(nxs q.a q.unc lf).length=l.length:=by rw[<-hh,Lh]
  have gr:=QoM (ul:=q.unc) h6 hn I.n;rw[<-hh]at gr;refine Qd<|Qj<|QF kn U<|x (QR U U)<|xe<|QO U (λgs=>?_) (λgs=>?_)
  ·refine Qw ?_;have hE:l.length=0:=by have h49:(l.length:Int)=0:=gs;omega
   rw[QgM (by rw[gq];exact hE)]at hA;rw[QiF (by rw[gq];exact hE),LS]at hB;rw[<-hA]at hR gl;refine Qc<|QQ U<|Qo U T.B10 U U<|Qz<|(QgA T.R oa).Y ?_;rintro r8 V ⟨he,gt⟩;have pc:rmS q.a forb q.unc=(zr lz).map (·.1):=by unfold rmS;rw[<-hB,Qcb]
   refine xe ?_;have hge:=Qg T.R;have gu:O5 [b10,q.bl] O V:=T.st.S he (λb E=>.inr (hge b E).1);have gv:QZ ↑V b10 216 (Vw (nS) (nS) vr rn):=T.B10.J he (λE=>ov (hge _ E).1);have ko:QZ ↑V q.bl 4 (lf.map Value.bool):=T.F.J he (λE=>ov (hge _ E).1);have kq:=Qp gt;have hz8:=gu.size;refine Qd<|Qj<|Qz<|(qd (h9 gu) hq ko T.n).Y ?_;rintro r9 H ⟨Y,bD,rfl,hbD,kr,hY⟩;refine Zf (dsts q.a lf) λD hD=>?_;rw[hD]at kr hY;have kt:QL [b10] ↑H (sL bD q.n q.n) D:=by
    have S:=kr.arr (L:=[b10]) oh (n:=q.n) (cap:=q.n) (sz:=1) (by simp[hY]) oa (Lx _);unfold QL;rw[hY];exact S
   have pd:=gu.D Y;have hz9:=Y.size;have pf:=ko.I Y;refine QF kt U<|Qa<|xe<|Q7 (α:=Nat×O2×O2×LI×LI) [(17,18),(79,107)] (λz=>[(79,sS z.1)])
    (λz w'=>z.1<=D.length/\O5 [b10] H w'/\QZ ↑w' b10 216 (Vw z.2.1 z.2.2.1 vr rn)/\Qq 3 ↑H w' z.2.1 z.2.2.2.1/\Qq 3 ↑H w' z.2.2.1 z.2.2.2.2/\Dj z.2.1 z.2.2.1/\z.2.2.2.1.length<=z.1/\z.2.2.2.2.length<=z.1/\z.2.2.2.1=kpK lf z.1/\z.2.2.2.2=kpD lf D z.1) (λz=>D.length - z.1) (0,nS,nS,[],[]) La
    ⟨Lo _,O5.Z _ _,gv.I Y,QE _ _ _ _,QE _ _ _ _,Dj.nil' _,Lx _,Lx _,U,U⟩ ?_
   rintro⟨i,vk,vd,lk,ld⟩ g hG ⟨hi,ha,hH,hK,hl,hZ,pg,ph,ga,gb⟩;simp only[]at hi hH hK hl hZ pg ph ga gb;have hz10:=ha.size;have gc:O5 [b10,q.bl] O hG:=pd.S ha (λb E=>.inl (by simp only[oJ]at E;simp[E]));have ku:QZ ↑hG q.bl 4 (lf.map Value.bool):=pf.J ha (oA hr.symm);refine Zo U U (λgw=>?_) (λgw=>?_)
   ·refine Qw<|Qj<|Qz<|(yI (h9 gc) hq ku T.n).Y ?_;rintro r11 pj ⟨hp,_,o,rfl,⟨sa,sm,se,rfl,gx⟩,gy⟩;rw[<-hR]at gx;have ht:=gx [] od;refine Qa<|QW U U<|QW U U<|QQ U<|Qn<|YL (us:=[sa,sS SA.st,sm,se]) (hH.I hp) U (by rw[<-hR];rfl) U od ⟨ht.al.one,rfl,ht.mr.one,ht.ed.one,Z⟩ rfl λw12 gg pm =>
     QQ rfl<|Qn<|Qu (j:=8) (u:=o) pm U U od gy λw13 gh pn=>xe ?_
    have po:b8∉[b10,q.bl]:=ot
    have kv:b8∉[b10]:=oh
    have pp:=(((((kg.I (kh.D h8)).J gc po).I hp).J gg kv).J gh kv);refine Qc<|QT pn U U<|QK [vk,vd,vr,sS rn,sa,sS SA.st,sm,se,o] pp ⟨Qp hK,Qp hl,kq,U,ht.al.one,U,ht.mr.one,ht.ed.one,gy,Z⟩ λpu gz pw=>xe ?_;have pz:∀b∈[b10,q.bl],↑w<=b:=λb E=>by simp only[oL,oK,or_false]at E;omega
    have p0:sX w pu:=((((gm.S gc (λb E=>.inr (pz b E))).D hp).O gg oa).O gh oa).O gz oa;refine Qh ⟨[.agg #[vk,vd,vr,sS rn,sa,sS SA.st,sm,se,o]],⟨Yl pw,Z⟩,p0,vk,vd,vr,sS rn,sa,sm,se,o,U,⟨Qp hK,Qp hl,kq,U,gy,Z⟩,λL hL=>?_⟩;have gi:∀N,↑O<=N->∀b∈b10::b8::L,b<N:=λN hN b E=>by
     simp only[oL]at E;rcases E with rfl|rfl|E
     ·omega
     ·omega
     have:=hL b E;omega
    have S:=gx (b10::b8::L) (gi _ oa);have h2:=((S.st (gg.Y od)).st (gh.Y od)).st (gz.Y od);have p1:i=q.n:=by have p2:¬(i:Int)<(D.length:Int):=gw;omega
    subst p1;have hrl:(zr lz).length=lz.length:=yt lz;have h3:jV (b10::b8::L) ↑hG vk vd vr q.a forb q.unc:=by
     refine⟨?_,?_,?_⟩
     ·rw[gl,h7,<-ga];exact Qq.ints hK oa (gi _ oa)
     ·rw[gl,h7,hD,<-gb];exact Qq.ints hl oa (gi _ oa)
     rw[pc,Lh,QmT];have p3:=Qg gt;refine(((QB gt oa (λb E hbL=>oy (p3 b E).1 (gi _ (Lx _) b hbL)):Zn (b10::b8::L) ↑V vr (zr lz).length 4 ((zr lz).flatMap zt)).I Y).st (ha.Y od))
    have h4:=((((h3.st (hp.any)).st (gg.Y od)).st (gh.Y od)).st (gz.Y od)).up (L':=L) (λb E=>.inl (by simp[E]));exact⟨h2.up (λb E=>.inl (by simp[E])),h4⟩
   refine Qf ?_;have hv:i<D.length:=by have p2:(i:Int)<(D.length:Int):=gw;omega
   have g0:i<lf.length:=by rw[T.n,<-hY];exact hv
   have p4:lf[i]'g0=lf.getD i false:=by simp[oR,g0]
   refine Qd<|Qm<|Qj<|xii (i:=i) (kt.st ha) U U hv λa82 kw=>?_;refine Zf (D[i]'hv) λd hd=>?_;rw[hd]at kw;refine x (Qy kw U)<|x Qi<|Qb<|Qj<|Yd U<|Qo U (h9 gc).B U U<|Qa<|x (ZA (i:=i) U U oa)<|x (v:=.bool (lf.getD i false)) ((Ki (i:=i) ku U g0).D (by rw[p4]))<|xe<|QU U (λg2=>?_) (λg2=>?_)
   ·have hJ:∀{v:O2} {l:LI} {w':O1},Qq 3 ↑H w' v l->b10∉ob v:=λho G=>ov (Qg ho b10 G).1
    refine Qc<|QQ U<|Qo U hH U U<|Qa<|Qn<|Za [[sS i]] λb95 y1 hw hb95 p5=>Qn<|Q2 (m:=1) (news:=[sS i]) (L:=[]) (Ql hK hw) U U U (p5.at od) oq oa (ov hw.size) λhM y2 kx gj p6 =>
     QQ rfl<|QQ U<|Qn<|Qu (j:=0) (u:=hM) ((hH.I hw).J gj (hJ hK)) U U od (Qp kx) λy3 g3 kz=>xe ?_
    have p7:Qq 3 ↑H y2 hM (lk++[(i:Int)]):=Qq.snoc kx;have hzy1:=hw.size;have hzy2:=gj.size;have hzy3:=g3.size;have p8:Qq 3 ↑H y2 vd ld:=Qe (Ql hl hw) gj (λb E G=>hZ b G E);have k0:Dj hM vd:=λb E G=>by
     rcases p6 b E with S|S
     ·exact hZ b S G
     have:=Q8 hl b G;omega
    have k4:∀{v:O2} {l:LI},Qq 3 ↑H y2 v l->Qq 3 ↑H y3 v l:=λho=>Qe ho g3 (λb E G=>by simp only[oJ]at G;subst G;exact hJ ho E);have k5:=k4 p7;have hD3:=k4 p8;have p9:O5 [b10] H y3:=(((ha.D hw).S gj (λb E=>.inr (Qg hK b E).1))).Q g3;refine Qs<|QQ U<|Qo U kz U U<|Qa<|Qn<|Za [[sS d]] λb103 y4 hz hb103 qc=>Qn<|Q2 (m:=1) (news:=[sS d]) (L:=[]) (Ql hD3 hz) U U U (qc.at od) oq oa (ov hz.size) λg4 y5 k6 g5 qf =>
     QQ rfl<|QQ U<|Qn<|Qu (j:=1) (u:=g4) ((kz.I hz).J g5 (hJ hD3)) U U od (Qp k6) λy6 g6 ql=>xe ?_
    have k7:Qq 3 ↑H y5 g4 (ld++[d]):=Qq.snoc k6;have k8:=QqC (lf:=lf) (n:=i) g2;have qm:O6 D i=d:=by unfold O6;simp[oR,hv,hd]
    have k9:Qq 3 ↑H y5 hM (lk++[(i:Int)]):=Qe (Ql k5 hz) g5 (λb E G=>k0 b E G);have hzy4:=hz.size;refine Qs<|QH U U<|Qa<|xe<|⟨(i+1,hM,g4,_,_),og,La,hv,(((p9.D hz).S g5 (λb E=>.inr (Qg hD3 b E).1))).Q g6,ql,Qe k9 g6 (λb E G=>by simp only[oJ]at G;subst G;exact hJ k9 E),Qe k7 g6 (λb E G=>by simp only[oJ]at G;subst G;exact hJ k7 E),λb E G=>?_,by simp only[oN,oP];omega,by simp only[oN,oP];omega,by simp only[];unfold kpK;rw[k8,Lr,ga];rfl,by simp only[];unfold kpD;rw[k8,Lr,gb,<-qm];rfl⟩;rcases qf b G with S|S
    ·exact k0 b E S
    have:=Q8 k5 b E;omega
   refine Qf<|Qs<|QH U U<|Qa<|xe ?_;have ma:=QqD (lf:=lf) (n:=i) g2;exact⟨(i+1,vk,vd,lk,ld),og,La,hv,ha,hH,hK,hl,hZ,og,og,by unfold kpK;rw[ma];exact ga,by unfold kpD;rw[ma];exact gb⟩
  refine Qf ?_;have hE:¬l.length=0:=λe=>gs (by show(l.length:Int)=0;omega);have g7:(nxs q.a q.unc lf).length≠0:=by rw[gq];exact hE
  have qo:=Qi6 g7;refine Exists.elim (Nat.exists_eq_succ_of_ne_zero (show f≠0 by omega)) λf' qr=>?_;subst qr;rw[QgL g7,<-hh]at hA;rw[kk f' g7,<-hh]at hB;rw[<-hh]at qo;refine Exists.elim (QnT (rk:=(rank:Int)) (rs:=rs) l (λx hx=>ov (gr x hx))) λln h5=>?_;refine Qd<|Qj<|QF kn U<|Qa<|xe<|Q7 (α:=Nat) [(16,16),(51,62)] (λz=>[(51,sS z)]) (λz w'=>z<=l.length/\O5 [q.bl] w7 w'/\ReI b10 q O (((l.take z).map (·.1)).foldl cut lf) rn vr lz w') (λz=>l.length - z) 0 La ⟨Lo _,O5.Z _ _,T⟩ ?_;rintro j g V ⟨hj,he,J⟩;have hU:∀b∈ob r7,b≠q.bl:=λb E e=>oy (Qg hC b E).1 I.st.size
  have q0:RmO ↑w6 V r7 rank rs l:=Qe hC he (λb E G=>hU b E (oA G));have mf:Zn [q.bl] ↑V r7 l.length 4 (l.flatMap (rmC rank rs)):=QB q0 oa (λb E G=>hU b E (oA G));refine Zo U U (λg8=>?_) (λg8=>?_)
  ·refine Qw ?_;have q1:l.length<=j:=by have gk:¬(j:Int)<(l.length:Int):=g8;omega
   rw[Lu q1]at J;obtain⟨ad,cap7,q2,_,q3⟩:∃ad cap,r7=.slice (some ad) l.length cap/\l.length<=cap/\At [q.bl] ↑V ad (l.flatMap (rmC rank rs)):=by
    rcases mf.2.2 with⟨_,h0⟩|S
    ·exact OW h0 hE
    exact S
   refine Qc<|QQ U<|Qo U J.B10 U U<|Qa<|Qn<|Q2 (m:=l.length) (news:=l.flatMap (rmC rank rs)) (L:=[q.bl]) J.R U q2 (by rw[<-h5.1,Qbj,h5.2.1]) q3 (by rw[<-h5.1];exact Qfh ln) oa J.st.size λg9 q4 mg mh hn22 =>
    QQ rfl<|QQ U<|Qn<|Qu (j:=2) (u:=g9) (J.B10.J mh (λE=>ov (Qg J.R _ E).1)) U U od (Qp mg) λw23 q5 q6=>xe ?_
   have j1:RzO ↑O q4 g9 (lz++ln):=RzO.snoc (by rw[h5.1,h5.2.1];exact mg);have mj:=J.app gn hT hr mh j1 q5 q6;refine Qs<|Qa<|QQ U<|Qn<|Qu (j:=3) (u:=sS rank) mj.B10 U U od rfl λw24 j2 j3=>xe ?_;have za:=mj.rounds hT hr j2 j3;have zb:(-9223372036854775808:Int)<=(rank:Int)+1:=oa
   have zv:(rank:Int)+1<=9223372036854775807:=oa
   refine Qs<|Qa<|x (XX U U ⟨zb,zv⟩)<|Qb<|⟨(f',rank+1,(rank:Int),g9,lz++ln,(l.map (·.1)).foldl cut lf),og,La,za,og,by simp only[oN];omega,hA,og,by simp only[Oj,h5.2.2];rw[LC];exact hB⟩
  refine Qf ?_;have hg:j<l.length:=by have gk:(j:Int)<(l.length:Int):=g8;omega
  have z1:l.take (j+1)=l.take j++[l[j]'hg]:=Ln hg;have mo:((l.take (j+1)).map (·.1)).foldl cut lf=cut (((l.take j).map (·.1)).foldl cut lf) (l[j]'hg).1:=by rw[z1,Lr,MF];rfl
  have z2:=gr (l[j]'hg).1 (LP (Lm hg));refine Zf (l[j]'hg) λy hy=>?_;rw[hy]at mo z2;have z3:y.1=(y.1.toNat:Int):=oa
  refine Qd<|Qm<|Qc<|xig (g:=rmC rank rs) (i:=j) (Qfa rank rs) mf U U hg λa53 gk=>?_;rw[hy]at gk;refine x (Qr gk U U)<|QM [sS 0,sS 0,sS 0,sS 0] λb16 H Y z4 ka=>QK (rmC rank rs y) ka oD λhG ha ka=>xe ?_;have mq:sX V hG:=Y.O ha z4;have kb:=J.I mq;have z5:=J.n;refine Zz [] (YW 0 8 [7])<|p Qv<|p (Yt U)<|p (QG U)<|pq (λ_ hc=>Qk ((h9 kb.st).B.I hc) U U)<|p (QG U)<|pq (λ_ hc=>Qk (ka.I hc) U U) <|
   p (λ_=>ZA (i:=y.1.toNat) U (OV sS z3) oa)<|pkk<|yM (i:=y.1.toNat) (kb.F.I (O5.C _ _)) U U oa λpj hp hF11=>pe ?_
  refine Qs<|QH U U<|Qa<|xe<|⟨j+1,oa,La,hg,((he.D mq).D (O5.C _ _)).Q hp,?_⟩;rw[mo];exact(kb.I (O5.C _ _)).cut gn hr hp hF11 (by rw[QfY];exact z5)
 refine Qf ?_;have hO:k<forb.length:=by have hW:(k:Int)<(forb.length:Int):=gp;omega
 have hxk:=kc _ (Lm hO);refine Zf (forb[k]'hO) λy hy=>?_;rw[hy]at hxk;refine Qd<|Qm<|Qc<|xii (i:=k) m6 U U hO λa27 hW=>?_;rw[hy]at hW;refine x (Qy hW U)<|Qb<|Qc<|QQ U<|Qo U I.B10 U U<|Qa<|x (Qx ⟨U,U,U,U,Z⟩)<|Qn<|Za [[sS y,sS 1,sS 1,sS (-1)]] λb34 w6 hs6 hb34 hB34=>?_;have hQ:=I.I hs6;refine Qn<|Q2 (m:=1) (news:=[sS y,sS 1,sS 1,sS (-1)]) (L:=[]) hQ.R U U U (hB34.at od) oq oa hQ.st.size λv7 w7 ms hX hn7 =>
  QQ rfl<|QQ U<|Qn<|Qu (j:=2) (u:=v7) (hQ.B10.J hX (λE=>ov (Qg hQ.R _ E).1)) U U od (Qp ms) λV he gv=>xe ?_
 have hR7:RzO ↑O w7 v7 (lz++[⟨(y,1,1,-1),og⟩]):=RzO.snoc ms;have hfk:rmF (forb.take (k+1))=rmF (forb.take k)++[(y,1,1,-1)]:=by unfold rmF;rw[Ln hO,Lr,hy];rfl
 have J:=hQ.app gn hT hr hX hR7 he gv;refine Qs<|QQ U<|Qn<|Qu (j:=3) (u:=sS 1) J.B10 U U od rfl λH Y hB9=>xe ?_;have hI9:=J.rounds hT hr Y hB9;refine Qs<|QH U U<|Qa<|xe ?_;exact⟨(k+1,1,v7,_),og,La,hO,hI9,by simp only[oN,oP];omega,.inr U,by simp only[Oj,hV,hfk];rfl⟩
instance:Bw sV 216 (Vw (nS) (nS) (nS) 0) [(0,3),(3,1),(4,4),(8,1)]:={}
theorem Qos {pl:Q6}{ps:List (LI)}{l:List (LI)}:∀r∈spF c pl ps l,0<=r.st/\r.st<(l.length:Int):=λr G=>by
 unfold spF at G;obtain⟨⟨t,i⟩,H,E⟩:=MZ.1 G;have hi:=List.snd_lt_add_of_mem_zipIdx H;simp only[oZ]at hi;have I:r.st=(i:Int):=by
  unfold rsn at E;split at E
  ·cases E;rfl
  split at E
  ·cases E;rfl
  cases E
 omega
theorem Qoq (h:Y3 c=0):ZK (spc c).a/\(∀x∈fbs (spc c),0<=x/\x<(spc c).a.st)/\(fbs (spc c)).length<=4096/\(spc c).fb.length<=4096/\Kv c.ev=0:=by
 unfold Y3 at h;by_cases G:Zj c≠0
 ·rw[OU G]at h;exact OW h G
 rw[OT G]at h;have V:Zj c=0:=Lp.1 G;have H:=ZW V;by_cases I:qt (O7 c.co)≠0
 ·rw[OU I]at h;exact OW h I
 rw[OT I]at h;cases J:xo (O7 c.co)with
 | none=>rw[J]at h;cases h
 | some z =>
  rw[J]at h;by_cases O:qt (O7 c.co++O7 c.rq)≠0
  ·rw[OU O]at h;exact OW h O
  rw[OT O]at h;cases S:xo (O7 c.co++O7 c.rq)with
  | none=>rw[S]at h;cases h
  | some y =>
   have T:∀a∈O7 c.co++O7 c.rq,ZK a:=λa E=>by
    rcases Lc.1 E with E|E
    ·exact Y8 H.co a E
    exact Y8 H.rq a E
   have hsp:=(JL T (A:=y.1) (Q:=y.2) S).1;have hl:=Qe5 c z.1 z.2 y.2;have hb:=hsp.le;rw[(QdX (c:=c) (pl:=z.1) (ps:=z.2) (sa:=y.1) (ts:=y.2) J S)];unfold fbs;refine⟨hsp.okay T,λx hx=>?_,by rw[Lh];simp only[];omega,og,H.e0⟩;obtain⟨r,Y,rfl⟩:=LD.1 hx;have:=Qos r Y;rw[hsp.st];exact this
theorem st4 (r:Rsn):(Z2 r).length=4:=rfl
theorem QdS {c:CL}(h0:ZI L ↑w c)(hM:Kb w 4096):
  QY sV 88 [c.val] w λr w'=>sX w w'/\∃us c0 c1 c2 c3 sa sm se o,r=.tuple #[sT us,.agg #[c0,c1,c2,c3,sa,sS (if Y3 c.V=0 then(suA c.V).st else 0),sm,se,o],sS (Y3 c.V)]/\us.length=8/\Zb us/\Zb [c0,c1,c2,c3,sa,sm,se,o] /\
   (Y3 c.V≠0->sa=nS/\sm=nS/\se=nS)/\(Y3 c.V=0->∀L:LN,(∀b∈L,b<↑w)->ZM L ↑w' sa sm se (suA c.V)/\jV L ↑w' c0 c1 c2 (spc c.V).a (fbs (spc c.V)) (unc c.V.ev)):=by
 have h:=h0.up (L':=[]) od;have hj:suA c.V=Qbb (spc c.V).a (fbs (spc c.V)) (unc c.V.ev):=rfl;have hN:c.V.ev=c.ev:=rfl;have hl:=Qoq (c:=c.V);refine Zf (suA c.V) λSA hO=>?_;rw[hO]at hj ⊢;refine Zf (Y3 c.V) λE hE=>?_;rw[hE]at hl ⊢;refine Zf (spc c.V) λS hS=>?_;rw[hS]at hl hj ⊢;rw[hN]at hl hj ⊢;refine Zq func88 ?_;refine Qc<|Zl c.cells λb1 w1 h8 gt h9=>QM [nS,sS 0,nS,nS,nS,nS,nS,nS] λb2 w2 hw gu hm=>QM (Vw (nS) (nS) (nS) 0) λb3 w3 hn gv ho=>Qb ?_;have hy:=(h8.D hw).D hn;have gw:=h8.size;have gx:=hm.lt;have gy:=ho.lt;have hsp:=jw (h.I hy) (hM.I hy);rw[hE,hS]at hsp;refine Qc<|QT ((h9.I hw).I hn) U U<|Qz<|hsp.Y ?_;rintro r4 w4 ⟨he,v,rfl,⟨us,rfl,hz,h2⟩,hF⟩;have gz:=he.size;refine Qa<|QW U U<|QW U U<|QM [nS,sS 0,nS,nS,nS,nS,nS,nS] λb5 w5 hP hQ hf=>Qn<|Zv (us:=us) hf U U hz U h2 λw6 hR hf=>Qb ?_;have T:sX w4 w6:=hP.O hR hQ;have h3:=(hy.D he).D T;have hA:=(hm.I (hn.D he)).I T;have hB:=(ho.I he).I T;have g0:=hf.lt;refine Qd<|Qj<|Zx U U<|xe<|QO rfl (λhp=>?_) (λhp=>?_)
 ·refine Qc<|x (Q5 [] Z)<|x (Q5 [] Z)<|Qa<|QK [nS,sS 0,nS,nS,nS,nS,nS,nS] hA ⟨U,U,U,U,U,U,U,U,Z⟩ λw7 G hT =>
   QK (Vw (nS) (nS) (nS) 0) (hB.J G oh) ⟨U,U,U,U,U,U,U,U,U,Z⟩ λw8 hq hV=>Qb<|Qh ⟨[.agg #[nS,sS 0,nS,nS,nS,nS,nS,nS],.agg (Vw (nS) (nS) (nS) 0).toArray,sS E],⟨Yl (hT.J hq oh),Yl hV,U,Z⟩,(h3.O G oa).O hq oa,[nS,sS 0,nS,nS,nS,nS,nS,nS],nS,nS,nS,sS 0,nS,nS,nS,nS,by rw[OT hp];rfl,U,⟨U,U,U,U,U,U,U,U,Z⟩,⟨U,U,U,U,U,U,U,U,Z⟩,λ_=>⟨U,U,U⟩,λe=>OW e hp⟩
 have hs:E=0:=Lp.1 hp;obtain⟨hW,hX,hY,g2,hC⟩:=hl hs;obtain⟨va,vm,ve,v1,v2,v3,v4,cos,rqs,hZ,_,_,ga⟩:=hF hs;have gb:us=[va,sS S.a.st,vm,ve,v1,v2,v3,v4]:=by
  have h1:=OV (λv=>match v with|Value.agg a=>a.toList|_=>[]) hZ
  simpa using h1
 subst gb;have hD:=(ga [] od);have gc:=hD.1.I T;have hG:=hD.2.2.2.2.I T;refine Qf<|Qc<|Qb<|Qd<|Qc<|Qo U hf U U<|QF hG U<|Qa<|xe<|Q7 (α:=Nat×O2) [(7,7),(9,9),(24,33)] (λz=>[(7,z.2),(24,sS z.1)]) (λz w'=>z.1<=S.fb.length/\sX w6 w'/\Qq 3 ↑w6 w' z.2 ((S.fb.take z.1).map (·.st))) (λz=>S.fb.length - z.1) (0,nS) oB ⟨Lo _,O5.Z _ _,QE _ _ _ _⟩ ?_;rintro⟨k,vf⟩ g w7 ⟨hk,G,J⟩;simp only[]at hk J;refine Zo rfl U (λh4=>?_) (λh4=>?_)
 ·refine Qw ?_;have gg:S.fb.length<=k:=by have ht:¬(k:Int)<(S.fb.length:Int):=h4;omega
  rw[Lu gg]at J;have J:Qq 3 ↑w6 w7 vf (fbs S):=J;have gh:=h3.D G;have gi:=G.size;refine Qc<|QQ U<|x (Qk ((h9.I (hw.D hn)).I ((he.D T).D G)) U U)<|Qz<|(QhO (h.ev.I gh)).Y ?_;rintro g3 O ⟨V,vu,rfl,hU⟩;rw[OU hC]at hU;refine Qa<|QW U U<|QW U U<|x Qi<|Qb<|Qd<|Qj<|Zx U U<|xe<|QO U (λgj=>OW hC gj) (λ_=>?_);refine Qf ?_;have hz:(unc c.ev).length<=1099511627776:=LH (QbI _ c.ev 0) h.ev.arr.le;have Y:=G.D V;have gk:=gc.I Y;have hu:sX O { O with drawn:=O.drawn+1 }:=O5.C _ _
  have hH:=hf.I Y;have hI:b5∉[b2]:=oh
  have g4:=Y.size;refine Qd<|Zz [b2] (YW 0 9 [5,6,7])<|pq (λ_ hc=>Zu (hH.J hc hI) U U)<|p (QG U)<|pq (λ_ hc=>Zh (us:=[va,sS S.a.st,vm,ve]) (hH.J hc hI) U U U) <|
   p Qv<|p Qv<|pk<|xg<|(QgK (gk.I hu) hW (((Qq.ints (L:=[]) J oa od).I V).I hu) hX hY ((Qq.ints (L:=[]) hU hz od).I hu)).Y ?_
  rintro g5 g6 ⟨gl,c0,c1,c2,c3,sa,sm,se,o,rfl,H,h5⟩;have hg:=hu.D gl;refine⟨hg.any,?_⟩;have hJ:Qbb S.a (fbs S) (unc c.ev)=SA:=hj.symm;rw[hJ]at h5;have ha:=(h5 [] od).1;refine pk<|JY [va,sS S.a.st,vm,ve,v1,v2,v3,v4] ((hA.I Y).I hg) h2 λg7 hh hm=>⟨hg.any.Q hh,?_⟩;refine pkk<|Zv (us:=[c0,c1,c2,c3,sa,sS SA.st,sm,se,o]) (((hB.I Y).I hg).J hh oh) U (by rw[<-hJ];rfl) U U ⟨H.1,H.2.1,H.2.2.1,H.2.2.2.1,ha.al.one,U,ha.mr.one,ha.ed.one,H.2.2.2.2.1,Z⟩ λg8 hv ho=>p ZG<|pe ?_;have gm:b2∉[b3]:=oh
  refine Qh ⟨[.agg #[va,sS S.a.st,vm,ve,v1,v2,v3,v4],.agg #[c0,c1,c2,c3,sa,sS SA.st,sm,se,o],sS 0],⟨Yl (hm.J hv gm),Yl ho,U,Z⟩,
   (((h3.D Y).D hg).O hh oa).O hv oa,_,c0,c1,c2,c3,sa,sm,se,o,by rw[hs,OU rfl];rfl,U,h2,⟨H.1,H.2.1,H.2.2.1,H.2.2.2.1,ha.al.one,ha.mr.one,ha.ed.one,H.2.2.2.2.1,Z⟩,λe=>OW hs e,λ_ L hL=>?_⟩
  have h1:=h5 (b2::b3::L) (λb I=>by
   have g9:({ O with drawn:=O.drawn+1 }:O1).heap.size=O.heap.size:=rfl
   simp only[oL]at I;rcases I with rfl|rfl|I
   ·omega
   ·omega
   have:=hL b I;omega)
  exact⟨((h1.1.st (hh.Y od)).st (hv.Y od)).up (λb I=>.inl (by simp[I])),((h1.2.st (hh.Y od)).st (hv.Y od)).up (λb I=>.inl (by simp[I]))⟩
 refine Qf ?_;have hi:k<S.fb.length:=by have ht:(k:Int)<(S.fb.length:Int):=h4;omega
 have hK:S.fb.take (k+1)=S.fb.take k++[S.fb[k]'hi]:=Ln hi;have ka:((S.fb.take k).map (·.st)).length=k:=by rw[Lh,LB];omega
 refine Zf (S.fb[k]'hi) λr hr=>?_;rw[hr]at hK;refine Qd<|Qm<|Qc<|xig (g:=Z2) (i:=k) st4 (hG.I G) U U hi λkb ht=>?_;rw[hr]at ht;refine x (Qr ht U U)<|QM [sS 0,sS 0,sS 0,sS 0] λb9 w8 hq gn h6=>QK (Z2 r) h6 oD λw9 go h6=>xe ?_;have h7:sX w7 w9:=hq.O go gn;have kc:=h7.size;have gi:=G.size;refine Qs<|Qa<|Qo U h6 U U<|Qn<|Za [[sS r.st]] λke O V kf gp =>
  Qn<|Q2 (m:=1) (news:=[sS r.st]) (L:=[]) (Ql J (h7.D V)) U U U (gp.at od) oq oa (ov V.size) λgq kg gr gs kh=>Qb<|Qs<|QH U U<|Qa<|xe ?_
 refine⟨(k+1,gq),og,oB,hi,((G.D h7).D V).S gs (λb I=>.inr (Qg J b I).1),?_⟩;simp only[];rw[hK,Lr];exact Qq.snoc gr
theorem Qmu {n:Int}(h:QZ H b T [sS n])(E:b∉L):QL L H (sL b 1 1) [n]:=
 h.arr E (n:=1) (cap:=1) (sz:=1) U oa (Lx _)
theorem Qjj {c:CL}{q:MV}(h0:ZI L ↑w c)(h6:QL L ↑w q.v q.co):
  QY sV 86 [c.val,.agg #[sS q.kd,sS q.ix,q.v]] w λr w'=>sX w w'/\∃us,r=.tuple #[sT us,sS (ya c.V q.m)]/\us.length=5/\Zb us/\(ya c.V q.m≠0->us=Z8)/\(ya c.V q.m=0->QeV ↑w ↑w' (sT us) (Jv c.V q.m)):=by
 have h:=h0.up (L':=[]) od;have Y:=h6.up (L':=[]) od;have O:ya c.V q.m=if mdE c.V q.m≠0 then mdE c.V q.m else Qbh c.V (prt q.m):=rfl
 have h7:Jv c.V q.m=QgD c.V (prt q.m):=rfl;rw[h7];refine Zf (ya c.V q.m) λE hE=>?_;rw[hE]at O ⊢;refine Zq func86 ?_;refine Qc<|Zl c.cells λb2 w1 ht hQ hh=>Zl (Yx q) λb3 w2 ha hR hu=>QM Z8 λb4 w3 S hS hv=>Qb ?_;have hi:=(ht.D ha).D S;have hT:=ht.size;have hU:=ha.size;have hV:=hv.lt;refine Qd<|Qc<|QT ((hh.I ha).I S) U U<|QT (hu.I S) U U<|Qz<|(Qg5 (h.I hi) (Y.I hi)).Y ?_;rintro r4 w4 ⟨rfl,T⟩;refine Qb ?_;have hw:=hi.D T;have hW:=T.size;have hj:=(hu.I S).I T;have hy:=hv.I T;refine Qj<|Zx U U<|xe<|QO rfl (λhc=>?_) (λhc=>?_)
 ·rw[OU hc]at O;subst O;refine Qc<|x (Qx Z)<|Qa<|QK Z8 hy ⟨U,U,U,U,U,Z⟩ λw5 h8 h9=>Qb<|Qh ⟨[sT Z8,sS (mdE c.V q.m)],⟨Yl h9,U,Z⟩,hw.O h8 oa,Z8,U,U,⟨U,U,U,U,U,Z⟩,λ_=>U,λh0=>OW h0 hc⟩
 rw[OT hc]at O;subst O;refine Qf<|Qc<|Qo U hj U U<|x (Qx ⟨Y.cells,Z⟩)<|QM [nS,nS,nS,nS] λb7 w6 hA hB hC=>QK [q.v,nS,nS,nS] hC ⟨Y.one,U,U,U,Z⟩ λw7 hD hz =>
  xe ?_
 have h2:sX w4 w7:=hA.O hD hB;have hX:=hz.lt;refine Qc<|Qo U (hj.I h2) U U<|Qn<|Za [[sS q.ix]] λH w8 hk hY hF =>
  Qb ?_
 have he:=h2.D hk;have hZ:=hk.size;have hl:=hz.I hk;have hG:↑w<=b7:=oa
 refine QX (α:=O2×O2×O2) [(22,33)] (λ_=>[]) (λz w'=>O5 [b7] w8 w'/\QZ ↑w' b7 293 [q.v,z.1,z.2.1,z.2.2]/\QL [] ↑w' z.1 (prt q.m).rq/\QL [] ↑w' z.2.1 (prt q.m).ex/\QL [] ↑w' z.2.2 (prt q.m).cs) om ?_ ?_
 ·have hn:∀{w':O1},O5 [b7] w8 w'->QL [] ↑w' (sL H 1 1) [q.ix]:=λhs=>Qmu (hF.J hs oh) od;refine Qc<|Qo U (hj.I he) U U<|xe<|Qm<|Qc<|x (QR U U)<|Qb<|QO U (λho=>?_) (λho=>?_)
  ·have hk1:q.kd=1:=ho;refine Qs<|Qa<|QQ U<|Qn<|Qu (j:=1) (u:=sL H 1 1) hl U U od rfl λJ G I=>xe ?_;refine⟨(sL H 1 1,nS,nS),Z,G,I,?_,?_,?_⟩
   ·show QL _ _ _ (if q.kd=1 then[q.ix]else[]);rw[OU hk1];exact hn G
   ·show QL _ _ _ (if q.kd=2 then[q.ix]else[]);rw[OT oa];exact K4 _ _
   show QL _ _ _ (if q.kd≠1/\q.kd≠2 then[q.ix]else[]);rw[OT oa];exact K4 _ _
  have hk1:¬q.kd=1:=ho;refine Qc<|x (QR U U)<|Qb<|QO U (λhp=>?_) (λhp=>?_)
  ·have hf:q.kd=2:=hp;refine Qs<|Qa<|QQ U<|Qn<|Qu (j:=2) (u:=sL H 1 1) hl U U od rfl λJ G I=>xe ?_;refine⟨(nS,sL H 1 1,nS),Z,G,I,?_,?_,?_⟩
   ·show QL _ _ _ (if q.kd=1 then[q.ix]else[]);rw[OT hk1];exact K4 _ _
   ·show QL _ _ _ (if q.kd=2 then[q.ix]else[]);rw[OU hf];exact hn G
   show QL _ _ _ (if q.kd≠1/\q.kd≠2 then[q.ix]else[]);rw[OT oa];exact K4 _ _
  have hf:¬q.kd=2:=hp;refine Qs<|Qa<|QQ U<|Qn<|Qu (j:=3) (u:=sL H 1 1) hl U U od rfl λJ G I=>xe ?_;refine⟨(nS,nS,sL H 1 1),Z,G,I,?_,?_,?_⟩
  ·show QL _ _ _ (if q.kd=1 then[q.ix]else[]);rw[OT hk1];exact K4 _ _
  ·show QL _ _ _ (if q.kd=2 then[q.ix]else[]);rw[OT hf];exact K4 _ _
  show QL _ _ _ (if q.kd≠1/\q.kd≠2 then[q.ix]else[]);rw[OU ⟨hk1,hf⟩];exact hn G
 rintro⟨v1,v2,v3⟩ g J ⟨G,I,hH,hI,hJ⟩;have hg:sX w J:=(hw.D he).O G hG;have ga:=G.size;have hK:QZ ↑J b2 45 c.cells:=((((hh.I ha).I S).I T).I he).J G (by have:=hh.lt;simp only[oJ];omega);have hM:QZ ↑J b4 45 Z8:=(hy.I he).J G oh;refine Qc<|QT hK U U<|QT I U U<|Qz<|(QeE (p:=prt q.m) (h.I hg) (Y.I hg) hH hI hJ).Y ?_;rintro gb gc ⟨h3,us,rfl,hq,h4,hN,hO⟩;refine QW rfl U<|QW U U<|Qn<|Zv (us:=us) (hM.I h3) U U hq U h4 λgg h5 hP=>Qb<|Qh ⟨[sT us,sS (Qbh c.V (prt q.m))],⟨⟨_,U,Yb hq (hP.at (L:=[]) od).cells⟩,rfl,Z⟩,(hg.D h3).O h5 oa,us,rfl,hq,h4,hN,λe=>?_⟩;obtain⟨cl,e1,e2,e3⟩:=hO e;refine⟨cl,e1,e2,λL hL=>?_⟩;have h1:=e3 (b4::L) (λb V=>by
  rcases Lj.1 V with rfl|V
  ·omega
  have:=hL b V;have:=hg.size;omega)
 exact(h1.st (h5.Y od)).up (λb V=>.inl (by simp[V]))
theorem VC (h:jQ c):(O8 c).length<=96:=by have:=QbA h 3 oa;rw[QcL]at this;omega
instance ayZi1:Ay sV 29 3 28 27:=⟨oe,oe⟩
theorem Qff (p:Int×Int):∀u∈QD p,u.oneCell'=true:=by
 intro y E;simp only[QD,oL,oK,or_false]at E;rcases E with rfl|rfl <;> rfl
instance ayAv1:Ay sV 23 5 5 1:=⟨underlying23,oe⟩
def nm1 (c k:Nat):ByteArray:=⟨#[UInt8.ofNat (c+k)]⟩
def K8 (k n:Nat):Kq:=if 48<=n/\n<52 then⟨nm1 97 k,false,false,false,(n:Int) - 47⟩else
 ⟨nm1 97 k,decide (((n &&& 1:Nat):Int)=1),decide (((n &&& 2:Nat):Int)=2),decide (((n &&& 4:Nat):Int)=4),0⟩
def J2 (ns:LN)(i:Nat):List Kq:=(oV i).map λk=>K8 k (ns.getD k 0)
theorem Qet (ns:LN)(i:Nat):J2 ns (i+1)=J2 ns i++[K8 i (ns.getD i 0)]:=by
 unfold J2;rw[NC,Lr];rfl
theorem VZ (ns:LN)(i:Nat):(J2 ns i).length=i:=by unfold J2;simp
theorem QdG (hn:ns.length=5)(hb:∀n∈ns,n<256):
  QY sV 22 [sT (bys ns)] w λr w'=>sX w w'/\w'.ownsRow ↑w 169 5 r (J2 ns 5).length ((J2 ns 5).flatMap Zs):=by
 refine Zq func22 ?_;refine Qc<|Zl (bys ns) λb1 w1 hj hG hl=>Qb<|Qc<|Qb<|Qd<|Qc<|Qb<|Q7 (α:=Nat×O2) [(3,53)] (λz=>[(3,z.2),(4,sS z.1)]) (λz w'=>z.1<=5/\sX w1 w'/\w'.ownsRow ↑w1 169 5 z.2 (J2 ns z.1).length ((J2 ns z.1).flatMap Zs)) (λz=>5 - z.1) (0,ZE) oB
  ⟨Lo _,O5.Z _ _,QE _ _ _ _⟩ ?_
 rintro⟨k,v⟩ g w2 ⟨hk,T,J⟩;simp only[]at hk J;refine Qd<|Qj<|Z5 U U<|xe<|ZH rfl (λh7=>?_) (λh7=>?_)
 ·refine Qw ?_;have hr:k=5:=by have h8:¬(k:Int)<5:=h7;omega
  rw[hr]at J;refine Qj<|Qb<|Qh ⟨[v],La,hj.D T,ZB J hj.size⟩
 have G:k<5:=by have h8:(k:Int)<5:=h7;omega
 have q:=qW (ns:=ns) (j:=0+k*1) oa;have ql:=JH hb (0+k*1);have hs:ns.getD (0+k*1) 0=ns.getD k 0:=by rw[show 0+k*1=k by omega]
 rw[hs]at q ql;have hm:=Qet ns k;have hH:=VZ ns k;refine Zf (ns.getD k 0) λn ht=>?_;rw[ht]at q ql hm;have hu:=hl.I T;refine Qf<|Qd<|Qm<|Qj<|x (Z6 (k':=.u8) U ⟨oa,oa⟩)<|QH U U<|Qn<|Za [[.int .u8 ((97:Int)+(k:Int))]] λb13 w3 ha hI hv=>?_;have hw:((97:Int)+(k:Int))=((97+k:Nat):Int):=oa
 have hy:QZ ↑w3 b13 5 [.int .u8 ((97+k:Nat):Int)]:=by rw[<-hw];exact hv
 refine x (Qoz (n:=97+k) hy oa U)<|x (Qx ⟨U,Z⟩)<|Qn<|K3 (us:=[.string ⟨#[]⟩,.bool false,.bool false,.bool false,sS 0]) U λH w4 h0 hJ h1=>QK (Zs ⟨nm1 97 k,false,false,false,0⟩) h1 ⟨U,U,U,U,U,Z⟩ λw5 h2 ho =>
  xe ?_
 have he:sX w2 w5:=(ha.D h0).O h2 (ov ha.size);have I:=hu.I he;have hK:=he.size;have hL:=ha.size;have hM:=hl.lt;have hN:=T.size;have hf:b1∉[H]:=oh
 refine QX (α:=Unit) [(16,49)] (λ_=>[]) (λ_ w'=>O5 [H] w5 w'/\QZ ↑w' H 169 (Zs (K8 k n))) om ?_ ?_
 ·refine QX (α:=Bool) [(16,25)] (λz=>[(25,.bool z)]) (λz w'=>w'=w5/\(z=true↔48<=n/\n<52)) om ?_ ?_
  ·refine Qs<|Qa<|x (Yj (i:=k) U U G)<|Xn I U q<|xb (YC U U) (λhg=>?_) (λhg=>?_)
   ·have hp:(48:Int)<=(n:Int):=hg;refine Qa<|Qa<|x (Yj (i:=k) U U G)<|Xn I U q<|Z5 U U<|QC U<|xe<|⟨decide ((n:Int)<52),La,U,?_⟩;rw[decide_eq_true_eq];omega
   have hp:¬(48:Int)<=(n:Int):=hg;refine Qa<|Zt<|KB<|QC U<|xe ?_;exact⟨false,La,U,⟨λh=>(by cases h),λh=>OW oa hp⟩⟩
  rintro z g6 O ⟨rfl,hz⟩;refine QU U (λV=>?_) (λV=>?_)
  ·have E:=hz.1 V;refine Qs<|Qa<|x (Yj (i:=k) U U G)<|Xn I U q<|x (Z6 (k':=.i64) U ⟨oa,oa⟩)<|x (XR U U ⟨oa,oa⟩)<|QQ U<|Qn<|Qu ho U U od rfl λw7 S hh =>
    xe ?_
   refine⟨(),Z,S,?_⟩;unfold K8;rw[OU E];exact hh
  have E:¬(48<=n/\n<52):=λh=>by have:=hz.2 h;rw[this]at V;cases V
  have Y:sX O { O with drawn:=O.drawn+1 }:=O5.C _ _
  refine Zz [H] (YW 0 21 [16,18,20])<|p Qv<|p (λ_=>Yj (i:=k) U U G)<|pq (λ_ E=>Qk (I.J E hf) U q)<|p (λ_=>yG (a:=n) (b:=1) U U ql ol)<|p (λ_=>QR U U) <|
   p Qv<|p (λ_=>Yj (i:=k) U U G)<|pq (λ_ E=>Qk (I.J E hf) U q)<|p (λ_=>yG (a:=n) (b:=2) U U ql ol)<|p (λ_=>QR U U) <|
   p Qv<|p (λ_=>Yj (i:=k) U U G)<|pq (λ_ E=>Qk (I.J E hf) U q)<|p (λ_=>yG (a:=n) (b:=4) U U ql ol)<|p (λ_=>QR U U)<|?_
  refine p (QG U)<|pk<|Qu (ho.I Y) U U od rfl λw7 S hh=>⟨(Y.any (L:=[H])).Q S,?_⟩;refine p (QG U)<|pk<|Qu hh U U od rfl λw8 hq h3=>⟨((Y.any (L:=[H])).Q S).Q hq,?_⟩;refine p (QG U)<|pkk<|Qu h3 U U od rfl λw9 h4 h5=>pe ?_;refine⟨(),Z,(((Y.any (L:=[H])).Q S).Q hq).Q h4,?_⟩;unfold K8;rw[OT E];exact h5
 rintro _ g6 O ⟨h6,h9⟩;have hA:sX w2 O:=he.O h6 oa;refine Qs<|Qa<|QT h9 U U<|Qn<|Za [Zs (K8 k n)] λhO hP hB hQ hC=>?_;have hi:=hA.D hB;have hR:=hi.size;refine Qn<|Q2 (news:=Zs (K8 k n)) (L:=[]) (Ql J hi) U U U (hC.at od) (Qc0 _) oa oa λhD hS hE hF hT =>
  Qb<|Qs<|Qa<|QH U U<|Qb<|⟨(k+1,hD),og,oB,G,(T.D hi).S hF (λc E=>.inr (Qg J c E).1),?_⟩
 simp only[];rw[hm,Ll,LA];simpa using hE
def Jo (n m:Nat):LI:=(oV n).map λk:Nat=>if k<m then(k:Int)else -1
theorem QaA {m k:Nat}(h:k<m):Yg (Jp m) (k:Int)=k:=by
 unfold Yg Jp;simp[oR,h]
theorem QqL {fd R:LI}{t:Int}(G:fd=out++R)(E:t∈out):yW fd t=(out.idxOf t:Nat):=by
 subst G;unfold yW;rw[OU (Mf _ E),MC,OU E]
theorem Qo7 {fd R:LI}{t:Int}(E:fd=out++[t]++R)(G:t∉out):yW fd t=(out.length:Nat):=by
 subst E;unfold yW;rw[OU od,LC,MC,OT G];simp
theorem Qaz {m k:Nat}(h:k<n):Yg (Jo n m) (k:Int)=if k<m then(k:Int)else -1:=by
 unfold Yg Jo;simp[oR,h]
theorem Qi7 {m:Nat}:(Jo n m).set m (m:Int)=Jo n (m+1):=by
 apply Mv
 ·simp[Jo]
 intro k H G;have I:k<n:=by simpa[Jo]using G
 rw[M9];by_cases e:m=k
 ·subst e;simp[Jo]
 rw[OT e];simp only[Jo,List.getElem_map,List.getElem_range];by_cases E:k<m
 ·rw[OU E,OU oa]
 rw[OT E,OT oa]
theorem Qai {R:Nat->List Ed}(hR:∀i,∀e∈R i,e.1=(i:Int))(j:Nat):∀n,Z7 ((oS 0 n).flatMap R) j=if j<n then R j else[]
 | 0=>by simp[Z7]
 | n+1=>by
  have E:Z7 (R n) j=if n=j then R n else[]:=by
   unfold Z7;by_cases e:n=j
   ·rw[OU e];exact NL.2 λx hx=>OX (by rw[hR n x hx,e])
   rw[OT e];exact Nq.2 λx hx=>by rw[decide_eq_true_eq,hR n x hx];omega
  rw[MB,LA,LT];unfold Z7 at E ⊢;rw[L4];have ih:=Qai hR j n;unfold Z7 at ih;rw[ih];simp only[Of,OM,Oy];rw[E];by_cases G:j<n
  ·rw[OU G,OT oa,OU oa,LS]
  rw[OT G];by_cases H:n=j
  ·subst H;rw[OU rfl,OU oa,Mc]
  rw[OT H,OT oa];rfl
theorem ye {s:Int}:∀(vs:LI) (out:LI),∃r,vs.foldl (UM a s) out=out++r
 | [],out=>⟨[],od⟩
 | v::vs,out=>by
  rw[L5];obtain⟨r,E⟩:=ye vs (UM a s out v);rw[E];unfold UM;split
  ·exact⟨[xh a.ed s v]++r,by rw[LC]⟩
  exact⟨r,U⟩
theorem yd:∀(f i:Nat) (out:LI),∃r,fdL a f i out=out++r
 | 0,i,out=>⟨[],by simp[fdL]⟩
 | f+1,i,out=>by
  rw[fdL];split
  ·obtain⟨r,E⟩:=yd f (i+1) (fdR a out (O6 out i));obtain⟨G,H⟩:=ye (a:=a) (s:=O6 out i) a.al out;refine⟨G++r,?_⟩;rw[E];unfold fdR;rw[H,LC]
  exact⟨[],od⟩
theorem zT {fd:LI}{i:Nat}:∀(vs out:LI) (c:Cs),(∃r,fd=vs.foldl (UM a (O6 fd i)) out++r)->c.ord=Jp out.length->c.num=Jo fd.length out.length ->
  (vs.filterMap (Ve a fd i)).foldl (ZC i) c=⟨Jp (vs.foldl (UM a (O6 fd i)) out).length,Jo fd.length (vs.foldl (UM a (O6 fd i)) out).length,c.mk',c.ed++vs.filterMap (Ve a fd i)⟩
 | [],out,c,_,I,G=>by
  obtain⟨o,n,m,e⟩:=c;subst I G;simp
 | v::vs,out,c,E,I,G=>by
  rw[L5]at E ⊢;obtain⟨r,E⟩:=E;obtain⟨r2,ha⟩:=ye (a:=a) (s:=O6 fd i) vs (UM a (O6 fd i) out v);have H:fd=UM a (O6 fd i) out v++(r2++r):=by rw[<-LC,<-ha];exact E
  by_cases S:0<=xh a.ed (O6 fd i) v
  ·have T:Ve a fd i v=some ((i:Int),v,yW fd (xh a.ed (O6 fd i) v)):=by unfold Ve;rw[OU S]
   rw[MA,T];simp only[];rw[L5];by_cases J:xh a.ed (O6 fd i) v∈out
   ·have O:UM a (O6 fd i) out v=out:=by unfold UM;rw[OT (λh=>h.2 J)]
    rw[O]at E H ⊢;have hix:yW fd (xh a.ed (O6 fd i) v)=(out.idxOf (xh a.ed (O6 fd i) v):Nat):=QqL H J;have hb:=MJ J;have Y:out.length<=fd.length:=by rw[H];simp
    have V:ZC i c ((i:Int),v,yW fd (xh a.ed (O6 fd i) v))=⟨c.ord,c.num,c.mk',c.ed++[((i:Int),v,yW fd (xh a.ed (O6 fd i) v))]⟩:=by
     unfold ZC;simp only[];rw[G,hix,Qaz oa,OU hb,OT oa]
    rw[V,zT vs out ⟨c.ord,c.num,c.mk',c.ed++[((i:Int),v,yW fd (xh a.ed (O6 fd i) v))]⟩ ⟨r,E⟩ I G];simp only[o6,Ow]
   have O:UM a (O6 fd i) out v=out++[xh a.ed (O6 fd i) v]:=by unfold UM;rw[OU ⟨S,J⟩]
   rw[O]at E H ⊢;have hix:yW fd (xh a.ed (O6 fd i) v)=(out.length:Nat):=Qo7 H J;have Y:out.length<fd.length:=by rw[H];simp
   have V:ZC i c ((i:Int),v,yW fd (xh a.ed (O6 fd i) v))=⟨Jp (out.length+1),Jo fd.length (out.length+1),c.mk',c.ed++[((i:Int),v,yW fd (xh a.ed (O6 fd i) v))]⟩:=by
    unfold ZC;simp only[];rw[I,G,hix,Qaz Y,OT (NI _),OU oa,yP,Qap];simp only[Ou];rw[Qi7]
   rw[V,zT vs (out++[xh a.ed (O6 fd i) v]) _ ⟨r,E⟩ od od];simp only[o6,Ow]
  have T:Ve a fd i v=none:=by unfold Ve;rw[OT S]
  have O:UM a (O6 fd i) out v=out:=by unfold UM;rw[OT (λh=>S h.1)]
  rw[O]at E ⊢;rw[MA,T];exact zT vs out c ⟨r,E⟩ I G
theorem QkM (fd:LI)(i:Nat):Xk a fd (i+1)=Xk a fd i++(if O6 fd i∈a.mr then[(i:Int)]else[]):=by
 unfold Xk;rw[MB,L4,Lr,LT];by_cases h:O6 fd i∈a.mr <;> simp[h]
theorem QkO (fd:LI)(i:Nat):XB a fd (i+1)=XB a fd i++a.al.filterMap (Ve a fd i):=by
 unfold XB;rw[MB,LA,LT];simp
theorem Qds {fd:LI}(h:i<n):(i:Int)∈Xk a fd n↔O6 fd i∈a.mr:=by
 unfold Xk;simp only[OA,OH,OB,decide_eq_true_eq];constructor
 ·rintro⟨k,⟨_,E⟩,G⟩;have:k=i:=oa
  subst this;exact E
 intro E;exact⟨i,⟨oa,E⟩,U⟩
theorem QkN {fd:LI}(T:fd=xp a)(hn:fd.length<=a.st.toNat):∀(f g i:Nat) (out:LI),i<=out.length->fdL a g i out=fd->i+g=a.st.toNat->fd.length<=i+f ->
  Jf (Xr a) f i ⟨Jp out.length,Jo fd.length out.length,Xk a fd i,XB a fd i⟩=⟨Jp fd.length,Jo fd.length fd.length,Xk a fd fd.length,XB a fd fd.length⟩:=by
 have ha:(Xr a).ed=XB a fd fd.length:=by rw[T];rfl
 have hb:(Xr a).mr=Xk a fd fd.length:=by rw[T];rfl
 have done:∀(i:Nat) (out:LI),i<=out.length->out=fd->¬i<out.length->(⟨Jp out.length,Jo fd.length out.length,Xk a fd i,XB a fd i⟩:Cs)=⟨Jp fd.length,Jo fd.length fd.length,Xk a fd fd.length,XB a fd fd.length⟩:=by
  intro i out H E V;have:i=fd.length:=by rw[<-E];omega
  rw[this,E]
 intro f;induction f with
 | zero =>
  intro g i out H E V h4;obtain⟨r,G⟩:=yd (a:=a) g i out;rw[E]at G;have hl:fd.length=out.length+r.length:=by rw[G,Ll]
  have hf:r=[]:=Ls oa;rw[Jf];exact done i out H (by rw[G,hf,LS]) oa
 | succ f ih =>
  intro g i out H E V h4;obtain⟨r,G⟩:=yd (a:=a) g i out;rw[E]at G;have hl:fd.length=out.length+r.length:=by rw[G,Ll]
  rw[Jf];simp only[yP];by_cases hi:i<out.length
  ·rw[OU hi];obtain⟨I,rfl⟩:∃I,g=I+1:=⟨g - 1,oa⟩;rw[fdL,OU hi]at E;have hg:O6 out i=O6 fd i:=by
    rw[G];unfold O6;simp[oR,List.getElem?_append_left hi]
   rw[hg]at E;have S:i<fd.length:=oa
   have hh:Z7 (Xr a).ed (i:Int)=a.al.filterMap (Ve a fd i):=by
    rw[ha];unfold XB;rw[Qai (λj e he=>by
     obtain⟨v,_,J⟩:=MZ.1 he;unfold Ve at J;split at J
     ·cases J;rfl
     cases J),OU S]
   have hj:Yq (Xr a) i ⟨Jp out.length,Jo fd.length out.length,Xk a fd i,XB a fd i⟩=⟨Jp out.length,Jo fd.length out.length,Xk a fd (i+1),XB a fd i⟩:=by
    unfold Yq;simp only[];rw[QaA hi,hb,QkM];by_cases O:O6 fd i∈a.mr
    ·rw[OU ((Qds S).2 O),OU O]
    rw[OT (λh=>O ((Qds S).1 h)),OT O];simp
   have hk:zx (Xr a) i ⟨Jp out.length,Jo fd.length out.length,Xk a fd i,XB a fd i⟩=⟨Jp (fdR a out (O6 fd i)).length,Jo fd.length (fdR a out (O6 fd i)).length,Xk a fd (i+1),XB a fd (i+1)⟩:=by
    unfold zx;rw[hj];simp only[];rw[QaA hi,hh];obtain⟨r3,Y⟩:=yd (a:=a) I (i+1) (fdR a out (O6 fd i));rw[E]at Y;rw[zT a.al out ⟨Jp out.length,Jo fd.length out.length,Xk a fd (i+1),XB a fd i⟩ ⟨r3,Y⟩ rfl rfl,QkO];rfl
   rw[hk];obtain⟨r4,hm⟩:=ye (a:=a) (s:=O6 fd i) a.al out;exact ih I (i+1) _ (by unfold fdR;rw[hm,Ll];omega) E oa oa
  rw[OT hi];have h5:fdL a g i out=out:=by
   cases g with
   | zero=>rfl
   | succ g=>rw[fdL,OT hi]
  exact done i out H (h5.symm.D E) hi
theorem QkL (E:ZK a)(G:0<a.st):Yk (Xr a)=Xr a:=by
 have S:=Qdr E G;have T:(Xr a).st=((xp a).length:Int):=rfl;have H:(Xr a).st.toNat=(xp a).length:=oa
 have h:=QkN (a:=a) U ((y9 E).1.len E.st0) (xp a).length a.st.toNat 0 (fd0 a) (Lo _) U oa oa;have I:fd0 a=[0]:=by unfold fd0;rw[OU G]
 rw[I]at h;have J:YZ (Xr a)=⟨Jp 1,Jo (xp a).length 1,Xk a (xp a) 0,XB a (xp a) 0⟩:=by
  unfold YZ;rw[H];have e:(oO (xp a).length (-1:Int)).set 0 0=Jo (xp a).length 1:=by
   apply Mv
   ·simp[Jo]
   intro k V Y;rw[M9];simp only[Jo,List.getElem_map,List.getElem_range,List.getElem_replicate];by_cases e:k=0
   ·subst e;simp
   rw[OT oa,OT oa]
  rw[e];simp[Jp,Xk,XB]
 unfold Yk;rw[OT oa];simp only[];rw[J,H];have O:Jf (Xr a) (xp a).length 0 ⟨Jp 1,Jo (xp a).length 1,Xk a (xp a) 0,XB a (xp a) 0⟩=⟨Jp (xp a).length,Jo (xp a).length (xp a).length,Xk a (xp a) (xp a).length,XB a (xp a) (xp a).length⟩:=h;rw[O];simp only[yP];rfl
theorem Qem (E:ZK a)(G:0<a.st):VH (Xr a)=true:=by
 unfold VH;rw[QkL E G];simp[(Z4 _).2 (QbV E).1]
theorem GdA.can (h:GdA a):VH a=true:=by
 obtain⟨H,E,G,rfl⟩:=h.c;exact Qem E G
structure D25 (c:ZF):Prop where
 ev:c.ev.length=5/\Kv c.ev=0
 c0:c.co.length≠0
 c3:c.co.length<=3
 r2:c.rq.length<=2
 co:∀x∈c.co,Xj x.nm=true/\GdA x.a/\∀e∈x.a.al,e<5
 rq:∀x∈c.rq,Xj x.nm=true/\GdA x.a/\∀e∈x.a.al,∃y∈c.co,e∈y.a.al
 nd:(c.co.map (·.nm)++c.rq.map (·.nm)).Nodup
 x2:c.ex.length<=2
 ex:∀x∈c.ex,Xj x.nm=true/\x.ls≠[]/\X6 (szs c.co) none x.ls=0
 xn:(c.ex.map (·.nm)).Nodup
 k1:c.cs.length<=1
 cs:∀x∈c.cs,Xj x.nm=true/\XN (szs c.co) x=0
theorem QlH (n:Nat)(x:Int):x∈Vo n↔0<=x/\x<(n:Int):=QcG n x
theorem QlI (n:Nat):Xa (Vo n):=Qjb n
theorem Qmr {a b:LI}(ia:Xa a)(ib:Xa b)(h:∀e∈a,e∈b):(mns a b).length=0:=by
 refine Nat.eq_zero_of_not_pos λG=>?_;obtain⟨x,hx⟩:=List.exists_mem_of_length_pos G;have:=(z0 ia ib x).1 hx;by_cases E:x∈a
 ·simp[E,h x E]at this
 simp[E]at this
theorem Qf9 {nev:Nat}{amg:LI}{seen:List ByteArray}{x:XD}(G:Xj x.nm=true)(H:x.nm∉seen)(E:GdA x.a)(I:∀e∈x.a.al,e<(nev:Int))(hi:Xa amg)(J:∀e∈x.a.al,e∈amg):Yy nev amg seen x=0:=by
 have T:=E.p;unfold Yy;rw[OT (by rw[G];decide),OT H,OT (by simpa using(Z4 _).2 E.ok),OT (by rw[E.can];decide),OT oa,OT,OT (oA (Qmr E.ok.ali hi J))];intro h;obtain⟨e,O,S⟩:=Nt.1 h;have:=I e O;have:=OY S;omega
theorem Qga {nev:Nat}{al:LI}(V:Xa al):∀(l:List XD) (s:List ByteArray) (u:LI),Xa u->(∀x∈l,Xj x.nm=true/\GdA x.a/\∀e∈x.a.al,e<(nev:Int)/\e∈al)->(s++l.map (·.nm)).Nodup ->
  ∃H,YE nev al s u l=(0,s++l.map (·.nm),H)/\Xa H/\∀e,e∈H↔e∈u\/∃y∈l,e∈y.a.al
 | [],s,u,J,_,_=>⟨u,by simp[YE],J,od⟩
 | x::l,s,u,J,hx,O=>by
  obtain⟨h1,S,Y⟩:=hx x Lq;have ha:x.nm∉s:=by
   intro hm;rw[LJ,ME]at O;exact O.2.2 _ hm _ Lq U
  obtain⟨H,k1,k2,k3⟩:=Qga V l (s++[x.nm]) (mrg (· || ·) u x.a.al) (Qfp _ _ _ _ (Lx _) J S.ok.ali) (λy E=>hx y (Lk _ E)) (oA O);refine⟨H,?_,k2,λe=>?_⟩
  ·rw[YE,OT (by simpa using(Qf9 h1 ha S (λe T=>(Y e T).1) V (λe T=>(Y e T).2))),k1];simp
  rw[k3,z0 J S.ok.ali];constructor
  ·rintro(⟨G|G,_⟩|⟨y,E,I⟩)
   ·exact .inl G
   ·exact .inr ⟨x,Lq,G⟩
   exact .inr ⟨y,Lk _ E,I⟩
  rintro(G|⟨y,E,I⟩)
  ·exact .inl ⟨.inl G,by simp[G]⟩
  rcases Lj.1 E with rfl|E
  ·exact .inl ⟨.inr I,by simp[I]⟩
  exact .inr ⟨y,E,I⟩
theorem Qf6 {nev:Nat}{u:LI}(H:Xa u):∀(l:List XD) (s:List ByteArray),(∀x∈l,Xj x.nm=true/\GdA x.a/\∀e∈x.a.al,e<(nev:Int)/\e∈u)->(s++l.map (·.nm)).Nodup->J3 nev u s l=0
 | [],s,_,_=>rfl
 | x::l,s,hx,E=>by
  obtain⟨J,O,I⟩:=hx x Lq;have S:x.nm∉s:=by
   intro T;rw[LJ,ME]at E;exact E.2.2 _ T _ Lq U
  rw[J3,OT (by simpa using(Qf9 J S O (λe G=>(I e G).1) H (λe G=>(I e G).2)))];exact Qf6 H l (s++[x.nm]) (λy V=>hx y (Lk _ V)) (oA E)
theorem QaN {sz:LI}:∀(l:List qv) (s:List ByteArray),(∀x∈l,Xj x.nm=true/\x.ls≠[]/\X6 sz none x.ls=0)->(s++l.map (·.nm)).Nodup->Yz sz s l=0
 | [],s,_,_=>rfl
 | x::l,s,hx,E=>by
  obtain⟨G,H,I⟩:=hx x Lq;have J:x.nm∉s:=by
   intro O;rw[LJ,ME]at E;exact E.2.2 _ O _ Lq U
  have S:Ku s x.nm=0:=by unfold Ku;rw[OT (by rw[G];decide),OT J]
  have T:x.ls.length≠0:=λh=>H (Ls h);have V:Jr sz x.ls=0:=by unfold Jr;rw[OT T];exact I
  rw[Yz,OT (oA S),OT (oA V)];exact QaN l (s++[x.nm]) (λy Y=>hx y (Lk _ Y)) (oA E)
theorem Qi9:∀{k:Nat},k<5->Xj (nm1 97 k)=true
 | 0,_=>ol
 | 1,_=>ol
 | 2,_=>ol
 | 3,_=>ol
 | 4,_=>ol
theorem qa {seen:List ByteArray}{k:Nat}(E:k<5)(G:nm1 97 k∉seen):JA seen (K8 k n)=0:=by
 have H:(K8 k n).nm=nm1 97 k:=by unfold K8;split <;> rfl
 unfold JA;rw[H,OT (by rw[Qi9 E];decide),OT G];unfold K8;by_cases h:48<=n/\n<52
 ·rw[OU h];simp only[];rw[OT oa,OT od]
 rw[OT h];simp only[];rw[OT oa,OT od]
theorem Qkb (ns:LN):Kv (J2 ns 5)=0:=by
 have e:J2 ns 5=[K8 0 (ns.getD 0 0),K8 1 (ns.getD 1 0),K8 2 (ns.getD 2 0),K8 3 (ns.getD 3 0),K8 4 (ns.getD 4 0)]:=rfl;have E:∀k n,(K8 k n).nm=nm1 97 k:=λk n=>by unfold K8;split <;> rfl
 unfold Kv;rw[OT (by rw[VZ];decide),e];simp only[zn,E];rw[qa ol ol,qa ol ol,qa ol ol,qa ol ol,qa ol ol];simp
theorem D25.ck (h:D25 c):Zj c=0:=by
 have ha:=h.c3;have hc:=h.r2;have T:c.ev.length=5:=h.ev.1;obtain⟨u',k1,k2,k3⟩:=Qga (nev:=c.ev.length) (al:=Vo c.ev.length) (QlI _) c.co [] [] List.Pairwise.nil (λx hx=>by
  obtain⟨G,E,H⟩:=h.co x hx;refine⟨G,E,λe I=>?_⟩;have:=H e I;have:=(E.ok.al e I).1;rw[T,QlH];exact⟨oa,oa,oa⟩) (by
  have:=h.nd;rw[ME]at this;simpa using this.1)
 have V:=Qf6 (nev:=c.ev.length) k2 c.rq (c.co.map (·.nm)) (λx hx=>by
  obtain⟨G,E,H⟩:=h.rq x hx;refine⟨G,E,λe I=>?_⟩;obtain⟨y,O,J⟩:=H e I;have:=(h.co y O).2.2 e J;exact⟨oa,(k3 e).2 (.inr ⟨y,O,J⟩)⟩) h.nd
 unfold Zj;rw[OT (not_not_intro h.ev.2),OT h.c0,OT oa,k1];simp only[Om];rw[OT od,OT (oA V)];unfold YG;have hf:(szs c.co).length=c.co.length:=by unfold szs;simp
 have hg:=h.x2;have hk1:=h.k1;have Y:¬(szs c.co).any KQ=true:=by
  intro hb;obtain⟨n,G,E⟩:=Nt.1 hb;unfold szs at G;obtain⟨x,hx,rfl⟩:=LD.1 G;have:=(h.co x hx).2.1;have H:=this.p;have J:=this.s;unfold KQ at E;simp at E;omega
 rw[OT oa,OT Y,OT oa,OT (by simpa using QaN c.ex [] h.ex (oA h.xn))];rcases S:c.cs with _|⟨x,l⟩
 ·rfl
 have hl:l=[]:=Ls (by rw[S,LU]at hk1;omega);obtain⟨G,E⟩:=h.cs x (by rw[S];exact Lq);have hz:Ku [] x.nm=0:=by unfold Ku;rw[OT (by rw[G];decide),OT od]
 rw[hl,Xg,OT (oA hz),OT (oA E)];rfl
end Go.Lg
namespace Go.Proofs
open Go.Proofs.Tryz
open Go.Shelf
def Tryz.sortI_ren:Go.Shelf.Ren:=⟨λ|5=>63|8=>123|7=>122|19=>208|20=>209|10=>199|11=>200|12=>201|13=>202|14=>203|15=>204|16=>205|17=>206|18=>207|30=>264|31=>265|32=>266|33=>267|34=>268|35=>269|40=>310|n=>n,λ|23=>63|25=>3|3=>3|32=>269|22=>63|0=>0|44=>362|46=>364|4=>4|36=>356|35=>355|41=>275|5=>5|9=>9|53=>418|57=>422|63=>449|64=>408|n=>n,λ|n=>n⟩
theorem Tryz.sortI:Go.Proofs.SlLaysM.n5 sV Tryz.sortI_ren:=lyS
def Tryz.cmpI_ren:Go.Shelf.Ren:=⟨λ|43=>64|n=>n,λ|22=>63|23=>3|3=>3|4=>4|0=>0|n=>n,λ|n=>n⟩
theorem Tryz.cmpI:Go.Proofs.SlLaysE.n43 sV Tryz.cmpI_ren:=lyS
def Tryz.delI_ren:Go.Shelf.Ren:=⟨λ|10=>26|6=>66|n=>n,λ|22=>63|23=>3|25=>101|3=>3|4=>4|0=>0|n=>n,λ|n=>n⟩
theorem Tryz.delI:Go.Proofs.SlLaysH.n10 sV Tryz.delI_ren:=lyS
end Go.Proofs
namespace Go.Lg
open Go.Lg Go.Sort Go.Lib
abbrev iC:Int->O2:=Value.int .i64
theorem qG {e:Nat}{cur:Array O2}(G:w.heap[g]?=some (.cells cur e (0,0)))(I:cur.toList.take (l.length*1)=l.map iC):Holds iC w g 0 l.toArray:=by
 intro j E;rw[LR]at E;have J:cur.toList[j]?=some (iC l[j]):=by
  have H:(cur.toList.take (l.length*1))[j]?=(l.map iC)[j]?:=by rw[I]
  rw[LW,OU oa,Ng,LG E]at H;exact H
 have O:l.toArray[j]! = l[j]:=by simp[E]
 constructor
 ·show(match w.heap[g]? with|some (.cells c _ _)=>if(none:Option _).isSome then none else c[0+j]?|_=>none)=_
  rw[G,O];simp only[oZ,OE,OF,if_false];rw[<-Mq,J]
 show(match w.heap[g]? with|some (.cells _ _ (lo,hi))=>decide (lo<=0+j) && decide (0+j<hi)|_=>false)=false
 rw[G];simp
theorem Qbp {e base:Nat}{k:Nat}{cur:Array O2}{os:xA}{d:Array Int}(J:base<=g)(H:w.heap[g]?=some (.cells cur e (0,0)))(hb:d.size<=cap)(O:cap<=maxLen)(S:cur.size=cap*1)(hk:k<=d.size):
  O5 [g] w (grow (putRow iC (Sort.ahead w n) g 0 d) os)/\Qq e base (grow (putRow iC (Sort.ahead w n) g 0 d) os) (sL g k cap) (d.toList.take k):=by
 have T:g<w.heap.size:=(LK.1 H).1;have E:(grow (putRow iC (Sort.ahead w n) g 0 d) os).heap=w.heap.modify g (onCells (putCells iC 0 d))++os:=rfl;have V:(d.toList.take k).length=k:=by simp;omega
 refine⟨⟨U,U,U,?_,λi hi Y=>?_⟩,?_⟩
 ·rw[E,MY,Mi];omega
 ·rw[E,Mj,Mi,OU hi,Mx,OT (λe=>Y (by simp[e]))]
 unfold Qq;rw[V];refine⟨by simp;omega,.inr ⟨g,cap,putCells iC 0 d cur,U,J,?_,oa,O,by simp[putCells,S],?_⟩⟩
 ·rw[E,Mj,Mi,OU T,Mx,OU rfl,H];rfl
 apply M5;intro j;rw[LW,Ng,LW];by_cases I:j<k
 ·rw[OU oa,OU I];have ha:j<cur.size:=oa
  have G:j<d.size:=oa
  rw[Mq,Mq,Mz G];simp only[putCells,Ox,Ol ha,Oz,OR,oZ,true_and,OU G,OJ];rw[getElem!_pos d j G]
 rw[OT oa,OT I];rfl
theorem j9 {base:Nat}{v:O2}(h:Qq 3 base w v l)(hl:l.length<=1099511627776):
  QY sV 63 [v] w λ_ w'=>O5 (ob v) w w'/\Qq 3 base w' v (l.mergeSort λx y=>decide (x<=y)):=by
 unfold QY;rcases h.2 with⟨rfl,O⟩|⟨g,cap,cur,rfl,S,H,hf,T,V,Y⟩
 ·have ha:l=[]:=Ls O;subst ha;have E:=AnyM.slices_Sort_int_none Tryz.sortI none 0 w;change Calls sV 63 _ _ _ at E;refine Calls.mono E λe w' I=>?_;obtain⟨rfl,rfl⟩:=I;exact⟨O5.Z _ _,by rw[List.mergeSort_nil];exact h⟩
 have hb:g<w.heap.size:=(LK.1 H).1;have E:=AnyM.slices_Sort_int Tryz.sortI g 0 cap l w (qG H Y) hb oa;change Calls sV 63 _ _ _ at E;refine Calls.mono E λe w' I=>?_;obtain⟨rfl,n,os,rfl⟩:=I;have J:=(NK l (λx y=>decide (x<=y))).length_eq;have:=Qbp (e:=3) (n:=n) (k:=l.length) (os:=os) (d:=(l.mergeSort λx y=>decide (x<=y)).toArray) S H (by simp;omega) T V od;refine⟨this.1,?_⟩;have G:=this.2;simp only[List.take_of_length_le (Nat.le_of_eq J)]at G;unfold Qq at G ⊢;rw[J]at G ⊢;exact G
theorem Qiu {base:Nat}{v:O2}(h:Qq 3 base w v l)(E:l.length<=1099511627776):
  QY sV 63 [v] w λ_ w'=>O5 (ob v) w w'/\∃l',l'.length=l.length/\(∀x,x∈l'↔x∈l)/\Qq 3 base w' v l' :=
 (j9 h E).Y λ_ _ ⟨G,H⟩=>⟨G,_,(NK l _).length_eq,λ_=>(NK l _).mem_iff,H⟩
theorem Qf3 (l:LI):∀m,m<=l.length->∀x,x∈compactUpTo l.toArray m↔x∈l.take m
 | 0,_,x=>by simp[compactUpTo]
 | m+1,h,x=>by
  have G:m<l.length:=oa
  have hx:l.toArray[m]! = l[m]:=by simp[G]
  rw[compactUpTo_succ,Lc,(Qf3 l m oa x),Ln G,Lc,hx,Lb];by_cases E:keeps l.toArray m=true
  ·rw[OU E,Lb]
  rw[OT E];refine⟨λh=>.inl (h.resolve_right od),λh=>.inl (h.elim id λe=>?_)⟩;simp only[keeps,decide_eq_true_eq,not_or]at E;have J:m≠0:=by simpa using E.1
  have H:l.toArray[m]! = l.toArray[m - 1]!:=by simpa using E.2
  have I:l.toArray[m - 1]! = l[m - 1]:=by simp[show m - 1<l.length by omega]
  rw[e,<-hx,H,I];rw[List.mem_take_iff_getElem];exact⟨m - 1,oa,U⟩
theorem Qnt {base:Nat}{v:O2}(h:Qq 3 base w v l)(hl:l.length<=1099511627776):
  QY sV 64 [v] w λr w'=>O5 (ob v) w w'/\∃l',l'.length<=l.length/\(∀x,x∈l'↔x∈l)/\Qq 3 base w' r l':=by
 rcases h.2 with⟨rfl,J⟩|⟨g,cap,cur,rfl,O,G,S,T,V,Y⟩
 ·have ha:l=[]:=Ls J;subst ha;refine Zq func64 ?_;refine Qc<|Qb<|Qd<|Qj<|x (Ui U)<|Z5 U U<|xe<|QO U (λ_=>?_) (λh8=>OW ol h8);refine Qj<|Qb<|Qh ⟨[nS],La,O5.Z _ _,[],Lx _,λx=>Iff.rfl,h⟩
 unfold QY;have E:=AnyE.slices_Compact Tryz.cmpI iC (λ_=>U) (.intD _ _ .i64) (.intD _ _ .i64) 0 (λw=>oe) g 0 cap l.toArray w (qG G Y) (by simp;omega) (oA S);change Calls sV 64 _ _ _ at E;rw[LR]at E;refine Calls.mono E λe w' he=>?_;obtain⟨rfl,q,rfl⟩:=he;have H:=Qf3 l l.length (Lx _);rw[M4]at H;have hb:(compactUpTo l.toArray l.length).length<=l.length:=by
  unfold compactUpTo;rw[Lh];exact LH (Mg _ _) od
 generalize compactUpTo l.toArray l.length=u at *;have:=Qbp (e:=3) (n:=q) (k:=u.length) (os:=#[]) (d:=(u++oO (l.length - u.length) 0).toArray) O G (by simp;omega) T V od;rw[grow_empty]at this;refine⟨this.1,u,hb,H,?_⟩;have I:=this.2;have h3:(u++oO (l.length - u.length) 0).toArray.toList.take u.length=u:=od
 rw[h3]at I;exact I
theorem QdQ {a b:LI}(S:QL [] ↑w va a)(T:QL [] ↑w vb b)(hl:a.length+b.length<=1000):
  QY sV 24 [va,vb] w λr w'=>sX w w'/\∃l,l.length<=a.length+b.length/\(∀x,x∈l↔x∈a\/x∈b)/\Qq 3 ↑w w' r l:=by
 refine Zq func24 ?_;refine Qc<|Qb<|Qj<|Qz<|(Z3 S).Y ?_;rintro v1 w1 ⟨G,H⟩;have hm:=G.size;refine Qa<|Qn<|Qbt H U (T.I G) U (UX b) oa oa λv2 I V Y hn=>Qb ?_;have J:Qq 3 ↑w I v2 (a++b):=by
  unfold Qq;rw[Ll,Lr];exact V
 have he:sX w I:=G.S Y (λc E=>.inr (Qg H c E).1);have ho:(a++b).length=a.length+b.length:=Ll;refine Qj<|Qz<|(Qiu J oa).Y ?_;rintro r3 w3 ⟨hf,l3,hp,hg,O⟩;have hh:sX w w3:=he.S hf (λc E=>.inr (Qg J c E).1);refine xe<|Qj<|Qz<|(Qnt O oa).Y ?_;rintro r4 w4 ⟨hi,l4,hq,hj,hk⟩;refine Qb<|Qh ⟨[_],La,hh.S hi (λc E=>.inr (Qg O c E).1),l4,oa,λx=>by rw[hj,hg,Lc],hk⟩
theorem y8 {v:O2}(h:QL [] ↑w v al)(hb:∀e∈al,0<=e/\e<32)(hi:Xa al)(hn:ns.length=27)(J:∀n∈ns,n<256):
  QY sV 25 [v,sT (bys ns),sS 3] w λr w'=>sX w w'/\∃a:Q6,JK ↑w ↑w' r a/\GdA a/\a.al=al:=by
 refine Zq func25 ?_;refine Qc<|Zl (bys ns) λb4 w1 hg hh E=>QM [nS,sS 0,nS,nS] λb6 w2 G hp O=>xe ?_;obtain⟨s0,hj⟩:∃s0,ns.getD 0 0=s0:=⟨_,U⟩;have S:ns[0]?=some s0:=by
  rw[<-hj,Nv,LG oa];rfl
 have hq:s0<256:=J s0 (Mt S);have q0:(bys ns)[0]?=some (.int .u8 (s0:Int)):=by
  unfold bys;rw[Ng,S];rfl
 have hr:=E.lt;have hs:=O.lt;refine Qc<|Qo U (E.I G) U q0<|Qa<|x (Z6 (k':=.u8) U ⟨oa,oa⟩)<|x (JW (a:=(s0:Int)) (b:=3) U U oa oa)<|QQ U<|Qn<|Qu (u:=.int .u8 ((s0 % 3:Nat):Int)) (E.I G) U (OV (Value.int .u8) (by omega:(s0:Int) % 3=((s0 % 3:Nat):Int))) (by rw[X2];omega) U λw3 H T =>
  xe ?_
 have I:sX w w3:=(hg.D G).O H hh;rw[QkQ]at T;have V:(ns.set 0 (s0 % 3)).length=27:=by rw[Mb];exact hn
 have Y:(ns.set 0 (s0 % 3)).getD 0 0=s0 % 3:=Qix oa;refine Qj<|QT T U (by rw[X2];exact V)<|Qz<|(Qg1 (h.I I) hb hi V (QlV J oa)).Y ?_;rintro r4 w4 ⟨ha,a,hA,ht,_,hk,hc⟩;obtain⟨a0,k0,k1,k2,k3⟩:=hc (by rw[Y];omega);rw[Y]at k2;obtain⟨us,hv,he,hl⟩:=J5 hA;have hm:QZ ↑w4 b6 66 [nS,sS 0,nS,nS]:=(O.J H oh).I ha;have hu:=H.size;refine Qn<|Zv (us:=us) hm U (show Go.Lg.ev _ _=_ from hv) he U hl λw5 hf ho=>xe ?_;refine Qh ⟨[sT us],⟨⟨_,U,Yb he (ho.at (L:=[]) od).cells⟩,Z⟩,(I.D ha).O hf oa,a,?_,GdA.of k0 k1 k2 k3 (NH _ ol),hk⟩;show JK _ _ (sT us) _;rw[<-hv];exact(KW hA oa hf).Y I.size
section
variable {pS:String}
theorem qD {k:IntKind}[h:Ik P t k][h':St P E]{x:O3}{G:IntKind}(hx:ev f x=.int G n)(H:n<128):
  (execOp (ev f) ⟨d,.convert t E x,ty,pS,af,gd⟩).run P w=.ok (.value (.string ⟨#[UInt8.ofNat n]⟩)) w:=by
 refine zW hx ?_;rw[run_convert_int_string w t E G n (by rw[h.u];rfl) h'.u];have I:Utf8.valid (n:Int)=true:=by
  unfold Utf8.valid;simp;omega
 unfold Utf8.encode;simp only[I,if_true,Ou,H]
theorem Qd5 {x:O3}{k:IntKind}{a b:Int}(hx:ev f x=.int k a)(G:ev f y=.int k b)(H:b≠0):
  (execOp (ev f) ⟨d,.binOp .rem t x y E,ty,pS,af,gd⟩).run P w=.ok (.value (.int k (a.tmod b))) w:=by
 refine Jy hx G ?_;simp[binOp,Op.intDiv,H]
end
open Go.Lg Go.Sort
theorem QoU (e:Int)(w:O1)(E:QZ ↑w b T [va])(G:QL L ↑w va al):
  QY sV 27 ([sS e]++[sP b]) w λr w'=>r=.bool (decide (e∉al))/\w'=w:=by
 refine Zq func27 ?_;refine Qc<|Qb<|Qc<|Xn E U U<|Qa<|Qz<|(Yr G e).Y ?_;rintro H I ⟨rfl,rfl⟩;refine x (Zy U)<|Qb<|Qh ⟨[_],La,?_,U⟩;show Value.bool (!decide (e∈al))=_;rw[decide_not]
theorem Qar (e:Int)(w:O1)(G:QZ ↑w b T [va])(H:QL L ↑w va al):
  FnGives sV 27 #[sP b] #[iC e] (.bool (decide (e∉al))) w:=by
 have h:=QoU e w G H;unfold QY at h;unfold FnGives;refine Calls.mono h λI w' E=>?_;cases I with
 | returned v =>
  obtain⟨rfl,rfl⟩:=E;exact⟨U,0,U⟩
 | _=>exact E.elim
theorem QoE {os:xA}{d:Array Int}:O5 [g] w (grow (putRow iC (Sort.ahead w n) g 0 d) os):=by
 have E:(grow (putRow iC (Sort.ahead w n) g 0 d) os).heap=w.heap.modify g (onCells (putCells iC 0 d))++os:=rfl;refine⟨U,U,U,?_,λi hi G=>?_⟩
 ·rw[E,MY,Mi];omega
 rw[E,Mj,Mi,OU hi,Mx,OT (λe=>G (by simp[e]))]
theorem Qnc {base:Nat}{v:O2}(h:Qq 3 base w v l)(hl:l.length<=1099511627776)(I:QZ ↑w b T [va])(hb:b∉ob v)(J:QL (ob v) ↑w va al):
  QY sV 26 [v,.func (.func 27) #[] #[sP b]] w λr w'=>O5 (ob v) w w'/\Qq 3 base w' r (l.filter λx=>decide (x∈al)):=by
 have eg:∀args w,(callFunc 27 args).run sV w=.ok (.enter 27 args) w:=enters_of func27 oe U;rcases h.2 with⟨rfl,h0⟩|⟨g,cap,cur,rfl,ha,O,hh,hi,hj,hm⟩
 ·have hn:l=[]:=Ls h0;subst hn;refine Zq func26 ?_;refine Qc<|Qb<|Qj<|Qa<|Qz<|(QjH (cap:=[sP b]) (q:=λ_=>true) (QL.fl (K4 [] ↑w)) (λe G=>by cases G)).Y ?_;rintro r1 w1 ⟨rfl,S⟩;refine Qb<|Qd<|Qj<|x (QR U U)<|xe<|QO U (λ_=>?_) (λh8=>OW U h8);refine Qj<|Qb<|Qh ⟨[nS],La,S,Ql h S⟩
 unfold QY;have V:=λ(n:Nat) (os:xA) (d:Array Int)=>QoE (w:=w) (g:=g) (n:=n) (os:=os) (d:=d);have ho:b∉[g]:=hb;have hp:QL [g] ↑w va al:=J;have H:=AnyE.slices_DeleteFunc Tryz.delI iC (λ_=>U) (λx=>decide (x∉al)) 27 #[sP b] eg 0 (λw=>oe) g 0 cap l.toArray w
  (λW x E=>by
   have Y:sX w W:=⟨E.os,E.tape,E.output,E.size,λk hk _=>E.block k hk⟩;exact Qar x W (I.I Y) (J.I Y))
  (λn os dk x _=>Qar x _ (I.J (V n os dk) ho) (hp.st (V n os dk)))
  (qG O hm) (by simp;omega) (oA hh)
 change Calls sV 26 _ _ _ at H;rw[LR]at H;refine Calls.mono H λe w' G=>?_;obtain⟨rfl,q,rfl⟩:=G;have hf:(l.toArray.toList.filter λx=>!decide (x∉al))=l.filter λx=>decide (x∈al):=by
  refine List.filter_congr λx _=>?_;by_cases hx:x∈al <;> simp[hx]
 rw[hf];have hq:=Mg (λx=>decide (x∈al)) l;generalize (l.filter λx=>decide (x∈al))=u at *;have:=Qbp (e:=3) (n:=q) (k:=u.length) (os:=#[]) (d:=(u++oO (l.length - u.length) 0).toArray) ha O (by simp;omega) hi hj od;rw[grow_empty]at this;refine⟨this.1,?_⟩;have h2:=this.2;have h3:(u++oO (l.length - u.length) 0).toArray.toList.take u.length=u:=od
 rw[h3]at h2;exact h2
section
variable {pS:String}
theorem Qfj {e bys:Nat}[h:Sl P t e sz bys z](Y:∀u∈z.cells,u.oneCell'=true){s:O3}{o m c:Nat}(I:QZ ↑w b T cs)(G:∃E,ev f s=.slice (some ⟨b,E,none⟩) m c/\(0<m->E=o/\o+m*sz<=cs.length))
  (hK:∀w' cs',O5 [b] w w'->QZ ↑w' b T cs'->cs'.length=cs.length->cs'.take o=cs.take o->K (QN f d (.tuple #[])) w'):XO P ⟨d,.call ⟨.builtin .clear,#[s],#[t]⟩,ty,pS,af,gd⟩ f w K:=by
 obtain⟨E,G,hm⟩:=G;obtain⟨i,hi,hz,hc,_⟩:=Sl.info h;have ha:=h.zs;rcases Nat.eq_zero_or_pos m with rfl|hmp
 ·have J:(execOp (ev f) ⟨d,.call ⟨.builtin .clear,#[s],#[t]⟩,ty,pS,af,gd⟩).run P w=.ok (.value (.tuple #[])) w:=by
   simp[execOp,resolve,invoke,builtin,G,Builtin.clear_,run_underlying h.u]
  exact xv J (hK w cs (O5.Z _ _) I U U)
 obtain⟨rfl,he⟩:=hm hmp;have hb:(Builtin.zeroCells z.cells m).toList.length=m*sz:=by simp[Builtin.zeroCells,ha]
 have O:=run_storeCells_at P b E T (Builtin.zeroCells z.cells m).toList 0 cs.toArray w I (by simp only[Od];omega) (λu S=>by
  simp only[Builtin.zeroCells,Array.toList_map,OA]at S;obtain⟨j,hj,rfl⟩:=S;have hf:=h.pos;have V:j % z.cells.size<z.cells.size:=NH _ oa;rw[getElem!_pos z.cells _ V];exact Y _ (Array.getElem_mem V))
 simp only[OD]at O;obtain⟨H,rfl⟩:∃H,m=H+1:=⟨m - 1,oa⟩;have J:(execOp (ev f) ⟨d,.call ⟨.builtin .clear,#[s],#[t]⟩,ty,pS,af,gd⟩).run P w=.ok (.value (.tuple #[])) (w.setRow b ((cs.take E++(Builtin.zeroCells z.cells (H+1)).toList++cs.drop (E+(Builtin.zeroCells z.cells (H+1)).toList.length))).toArray):=by
  simp[execOp,resolve,invoke,builtin,G,Builtin.clear_,run_underlying h.u,zeroValue,typeInfo,hi,hz]at O ⊢;simp[O]
 refine xv J (hK _ _ (O5.setRow _ _ _) (X9 I) ?_ ?_)
 ·simp only[oN,Ob,Oa,hb];omega
 rw[LC,M1 (by simp;omega),M6,Nat.min_self]
theorem KJ {α:Type}{sz:Nat}{g:α->LV}(E:∀x,(g x).length=sz):∀(l:List α) (i:Nat) (u:α),i<l.length->(l.set i u).flatMap g=(l.flatMap g).take (i*sz)++g u++(l.flatMap g).drop (i*sz+sz)
 | [],i,u,h=>OW h od
 | a::l,0,u,h=>by
  rw[List.set_cons_zero,LM,LM,OP,List.take_zero,Mc,LT,List.drop_append_of_le_length (by rw[E a];exact Lx _),Lt (by rw[E a];exact Lx _),Mc]
 | a::l,i+1,u,h=>by
  have G:(i+1)*sz=(g a).length+i*sz:=by rw[E a,Nat.succ_mul];omega
  have H:(i+1)*sz+sz=(g a).length+(i*sz+sz):=oa
  have I:∀(F:LV) k,(g a++F).take ((g a).length+k)=g a++F.take k:=λF k=>by rw[OK,Lu (l:=g a) oa,ML]
  have J:∀(F:LV) k,(g a++F).drop ((g a).length+k)=F.drop k:=λF k=>by rw[List.drop_append,Lt (l:=g a) oa,Mc,ML]
  rw[NV,LM,LM,H,G,I,J,KJ E l i u (oA h)];simp only[o6]
theorem Qal [h1:Ag P t sz]{g:α->LV}(E:∀x,(g x).length=sz){x:O3}{base e:Nat}{l:List α}{u:α}(h:w.ownsRow base e sz (sL b l.length cap) l.length (l.flatMap g))(hx:ev f x=.pointer (some ⟨b,i*sz,none⟩))(I:ev f y=sT (g u))(hi:i<l.length)(J:Zb (g u))
  (hK:∀w',O5 [b] w w'->w'.ownsRow base e sz (sL b l.length cap) l.length ((l.set i u).flatMap g)->K (QN f d undef) w'):XO P ⟨d,.store t x y,ty,pS,af,gd⟩ f w K:=by
 rcases h.2 with⟨e1,_⟩|⟨g',cap',cur,e1,O,S,G,T,V,Y⟩
 ·cases e1
 cases e1
 have hB:QZ ↑w b e cur.toList:=S;have hc:l.length*sz<=cap*sz:=L3 _ G;have ha:(i+1)*sz<=l.length*sz:=L3 _ hi;rw[Nat.succ_mul]at ha;have H:cur.toList.length=cap*sz:=by rw[Array.length_toList];exact V
 refine YL hB hx I (E u) oa J U λw' hs hb=>hK w' hs ⟨?_,.inr ⟨b,cap,_,U,O,hb,G,T,?_,?_⟩⟩
 ·rw[KJ E l i u hi];simp only[oN,Ob,Oa,E u,h.1];omega
 ·simp only[Od,oN,Ob,Oa,E u,H];omega
 have hX:(cur.toList.take (i*sz)++g u).length=i*sz+sz:=by simp only[oN,Ob,E u,H];omega
 rw[KJ E l i u hi,<-Y];show(cur.toList.take (i*sz)++g u++cur.toList.drop (i*sz+sz)).take (l.length*sz)=_;rw[OK,Lu oa,hX,M6,Mk oa,List.drop_take]
end
theorem Qjd (p:Int×Int)(w:O1):QY sV 30 [sT (QD p)] w λr w'=>r=.bool (decide (p.2=0))/\sX w w':=by
 refine Zq func30 ?_;refine Qc<|Zl (QD p) λb1 H E I G=>Qb<|Qc<|Qo U G U U<|x (QR U U)<|Qb<|Qh ⟨[_],La,U,E⟩
theorem QmM [Fu sV gp fn]{cap:LV}{q:(Int×Int)->Bool}{v:O2}{l:xw}(h:Zn L ↑w v l.length 2 (l.flatMap QD))
  (Y:∀e∈l,∀(G:O1),sX w G->QY sV gp ([sT (QD e)]++cap) G λr w'=>r=.bool (q e)/\sX G w'):
  QY sV 68 [v,.func (.func gp) #[] cap.toArray] w λr w'=>r=sS (fix q 0 l)/\sX w w':=by
 have hc:=h.le;refine Zq func68 ?_;refine Qc<|Qb<|Qd<|Qj<|QF h U<|Qa<|xe<|Q7 (α:=Nat) [(4,5),(8,18)] (λz=>[(8,sS z)]) (λz w'=>z<=l.length/\sX w w'/\fix q z (l.drop z)=fix q 0 l) (λz=>l.length - z) 0 La
  ⟨Lo _,O5.Z _ _,U⟩ ?_
 rintro k g G ⟨hk1,H,E⟩;refine Zo rfl U (λJ=>?_) (λJ=>?_)
 ·refine Qw ?_;have ha:l.length<=k:=by have hb:¬(k:Int)<(l.length:Int):=J;omega
  rw[Lt ha]at E;refine Qc<|Qb<|Qh ⟨[_],La,by rw[<-E];rfl,H⟩
 have I:k<l.length:=by have hb:(k:Int)<(l.length:Int):=J;omega
 rw[Zc I,Yw]at E;have S:=Lm I;refine Qf<|Qd<|Qm<|Qj<|Qb<|Qj<|Qa<|Qa<|xig YK (h.I H) U U I λhf T=>?_;refine Zf (l[k]'I) λe he=>?_;rw[he]at T E S;refine x (Qr T U U)<|Qn<|xc (first:=[]) (capt:=cap) U<|(Y e S G H).Y ?_;rintro r2 w2 ⟨rfl,V⟩;refine xe<|QU rfl (λO=>?_) (λO=>?_)
 ·rw[OU O]at E;refine Qj<|Qb<|Qh ⟨[_],La,by rw[<-E];rfl,H.D V⟩
 rw[OT (by rw[O];decide)]at E;refine Qf<|Qs<|QH U U<|Qa<|xe ?_;exact⟨k+1,oa,La,I,H.D V,E⟩
section
variable {pS:String}
theorem qC {e bys:Nat}[h:Sl P t e sz bys z]{x E:O3}{k:IntKind}(hx:ev f x=sL b n cap)(G:ev f E=.int k lo)(O:lo<=n):
  (execOp (ev f) ⟨d,.slice t x (some E) none none,ty,pS,af,gd⟩).run P w=.ok (.value (.slice (some ⟨b,if cap=lo then 0 else lo*sz,none⟩) (n - lo) (cap - lo))) w:=by
 obtain⟨i,H,_,I,_⟩:=Sl.info h;have e2:(Instr.sliceBound (.int k lo) n .sliceB).run P w=.ok lo w:=ZP O;by_cases J:cap=lo
 ·simp[execOp,hx,G,Instr.sliceAt,Instr.slice,run_underlying h.u,Instr.sliceBounds,e2,sizeOf,typeInfo,H,I,J]
 simp[execOp,hx,G,Instr.sliceAt,Instr.slice,run_underlying h.u,Instr.sliceBounds,e2,sizeOf,typeInfo,H,I,J,Addr.add];exact λe=>e.symm
theorem XG {e bys:Nat}[h:Sl P t e sz bys z]{x E:O3}{k:IntKind}(hx:ev f x=sL b n cap)(G:ev f E=.int k hi)(H:hi<=cap):
  (execOp (ev f) ⟨d,.slice t x none (some E) none,ty,pS,af,gd⟩).run P w=.ok (.value (sL b hi cap)) w:=by
 obtain⟨i,I,_,J,_⟩:=Sl.info h;have e2:(Instr.sliceBound (.int k hi) cap .sliceAcap).run P w=.ok hi w:=ZP H;simp[execOp,hx,G,Instr.sliceAt,Instr.slice,run_underlying h.u,Instr.sliceBounds,e2,sizeOf,typeInfo,I,Addr.add]
end
theorem QaC {α:Type}(q:α->Bool):∀(l:List α) (i:Nat),(fix q i l=-1/\∀x∈l,q x=false)\/∃k,k<l.length/\fix q i l=((i+k:Nat):Int)/\l.take k=(l.take (k+1)).filter λx=>!q x
 | [],i=>.inl ⟨U,λx h=>by cases h⟩
 | a::l,i=>by
  rw[Yw];by_cases h:q a=true
  ·rw[OU h];exact .inr ⟨0,od,od,by simp[h]⟩
  rw[OT h];have H:q a=false:=by simpa using h
  rcases QaC q l (i+1)with⟨E,G⟩|⟨k,E,G,I⟩
  ·exact .inl ⟨E,λx hx=>by rcases Lj.1 hx with rfl|hx;exact H;exact G x hx⟩
  exact .inr ⟨k+1,oA E,by rw[G];congr 1;omega,by rw[MK,MK,Md,OU (by simp[H]),<-I]⟩
theorem JD {base e:Nat}(h:w.ownsRow base e sz (sL b n cap) n cs):n<=cap/\∃cur:LV,QZ ↑w b e cur/\cur.length=cap*sz/\cur.take (n*sz)=cs:=by
 rcases h.2 with⟨e1,_⟩|⟨g',cap',cur,e1,J,E,G,O,H,I⟩
 ·cases e1
 cases e1
 exact⟨G,cur.toList,E,by rw[Array.length_toList];exact H,I⟩
theorem VV {base e k:Nat}{cs' cur:LV}(h:w.ownsRow base e sz (sL b n cap) n cs)(S:k<=n)(E:QZ ↑w' b e cur)(G:cur.length=cap*sz)(H:cur.take (k*sz)=cs')(I:cs'.length=k*sz):
  w'.ownsRow base e sz (sL b k cap) k cs':=by
 rcases h.2 with⟨e1,_⟩|⟨g',cap',cur',e1,J,T,V,O,Y,ha⟩
 ·cases e1
 cases e1
 exact⟨I,.inr ⟨b,cap,cur.toArray,U,J,E,oa,O,by rw[LR];exact G,H⟩⟩
theorem xF {α:Type}{sz:Nat}{g:α->LV}(E:∀x,(g x).length=sz):∀l:List α,(l.flatMap g).length=l.length*sz
 | []=>od
 | a::l=>by rw[LM,Ll,xF E l,E a,LU,Nat.succ_mul];omega
theorem Qfe:∀(l:xw) (k:Nat),(l.flatMap QD).take (k*2)=(l.take k).flatMap QD
 | [],k=>od
 | a::l,0=>od
 | a::l,k+1=>by
  rw[show(k+1)*2=k*2+2 by omega,LM,MK,LM,<-Qfe l k];rfl
abbrev nzT (l:xw):xw:=l.filter λp=>!decide (p.2=0)
theorem Qnb {base:Nat}{v:O2}{l:xw}(h:w.ownsRow base 112 2 v l.length (l.flatMap QD))(hl:l.length<=1000):
  QY sV 29 [v,.func (.func 30) #[] #[]] w λr w'=>O5 (ob v) w w'/\w'.ownsRow base 112 2 r (nzT l).length ((nzT l).flatMap QD):=by
 have hix:=QmM (cap:=[]) (q:=λp=>decide (p.2=0)) (QB (L:=[]) h oa od) (λe _ T _=>Qjd e T);have ho:=QaC (λp:Int×Int=>decide (p.2=0)) l 0;rcases h.2 with⟨rfl,V⟩|⟨g,cap,cur,rfl,hP,_⟩
 ·have h5:l=[]:=Ls V;subst h5;refine Zq func29 ?_;refine Qc<|Qb<|Qj<|Qa<|Qz<|hix.Y ?_;rintro r1 T ⟨rfl,G⟩;refine Qb<|Qd<|Qj<|x (QR U U)<|xe<|QO U (λ_=>?_) (λh8=>OW U h8);refine Qj<|Qb<|Qh ⟨[nS],La,G,Ql h G⟩
 obtain⟨hQ,_⟩:=JD h;refine Zq func29 ?_;refine Qc<|Qb<|Qj<|Qa<|Qz<|hix.Y ?_;rintro r1 T ⟨rfl,G⟩;refine Qb<|Qd<|Qj<|x (QR U U)<|xe<|QO rfl (λY=>?_) (λY=>?_)
 ·have h6:nzT l=l:=NL.2 λp hp=>by
   rcases ho with⟨_,h2⟩|⟨k,_,h2,_⟩
   ·have:=h2 p hp;simpa using this
   have hR:fix (λp:Int×Int=>decide (p.2=0)) 0 l=-1:=Y;omega
  refine Qj<|Qb<|Qh ⟨[sL g l.length cap],La,G.any,?_⟩;rw[h6];exact Ql h G
 refine Exists.elim (ho.resolve_left λa=>Y a.1) λO ha=>?_;have hq:fix (λp:Int×Int=>decide (p.2=0)) 0 l=(O:Int):=by have:=ha.2.1;omega
 refine Qf<|Qd<|Qj<|x (XX (a:=(O:Int)) (b:=1) (OV sS hq) U ⟨oa,oa⟩)<|Qb<|Q7 (α:=Nat×Nat×xw) [(5,7),(16,35)] (λz=>[(5,sS z.1),(6,sS z.2.1)])
  (λz w'=>z.1<z.2.1/\z.2.1<=l.length/\z.2.2.length=l.length/\z.2.2.take z.1=nzT (l.take z.2.1)/\z.2.2.drop z.2.1=l.drop z.2.1/\O5 [g] w w'/\w'.ownsRow base 112 2 (sL g z.2.2.length cap) z.2.2.length (z.2.2.flatMap QD))
  (λz=>l.length - z.2.1) (O,O+1,l) ⟨OV sS hq,U,Z⟩
  ⟨Nat.lt_succ_self _,ha.1,U,ha.2.2,U,G.any,Ql h G⟩ ?_
 rintro⟨i,j,ts⟩ g2 w2 ⟨h7,hj,hb,H,hc,hr,I⟩;simp only[]at h7 hj hb H hc I;refine Qd<|Qj<|Qa<|x (Ui U)<|Z5 U U<|xe<|ZH rfl (λhf=>?_) (λhf=>?_)
 ·refine Qw ?_;have h9:j=l.length:=by have hB:¬(j:Int)<(l.length:Int):=hf;omega
  rw[h9,M4]at H;have hs:(nzT l).length=i:=by rw[<-H,LB];omega
  refine Exists.elim (JD I).2 λhS ht=>?_;have hC:=ht.1;have hD:=ht.2.2;refine Qj<|Qa<|x (qC (lo:=i) U U oa)<|Qn<|Qfj (m:=l.length - i) (o:=i*2) (λu hu=>by simp[Value.cells]at hu;rw[hu];rfl) hC ⟨_,U,λh=>⟨by rw[OT oa],oa⟩⟩ λw3 hT hg hE hU hF=>xe ?_;refine Qj<|Qa<|x (XG (hi:=i) U U oa)<|Qb<|Qh ⟨[sL g i cap],La,hr.Q hg,?_⟩;rw[hs];refine VV I oa hE oa ?_ ?_
  ·rw[hF,<-H,<-Qfe,<-hD,M6,Mk oa]
  rw[xF YK,hs]
 have E:j<l.length:=by have hB:(j:Int)<(l.length:Int):=hf;omega
 have hh:j<ts.length:=oa
 have hG:ts[j]'hh=l[j]'E:=by
  have S:=OV (λz=>z[0]?) hc;simp only[List.getElem?_drop,OD,Og hh,Og E]at S;exact Option.some.inj S
 have hv:ts.drop (j+1)=l.drop (j+1):=by
  have S:=OV (List.drop 1) hc
  rwa [List.drop_drop,List.drop_drop]at S
 have J:nzT (l.take (j+1))=nzT (l.take j)++(if(l[j]'E).2=0 then[]else[l[j]'E]):=by
  unfold nzT;rw[Ln E,L4];by_cases V:(l[j]'E).2=0 <;> simp[V]
 have hA:=QB (L:=[]) I oa od;rw[show sL g ts.length cap=sL g l.length cap from by rw[hb]]at hA;refine Qf<|Qd<|Qm<|Qj<|Qa<|xig YK hA U U hh λhV hk=>?_;rw[hG]at hk;refine Zf (l[j]'E) λe he=>?_;rw[he]at hk J;refine x (Qr hk U U)<|QM [sS 0,sS 0] λb7 w3 hg hH hI=>QK (QD e) hI oB λw4 hJ hw=>xe ?_;have hK:sX w2 w4:=hg.O hJ hH;refine Qj<|QT hw U U<|Qn<|xc (first:=[]) (capt:=[]) U<|(Qjd e w4).Y ?_;rintro r5 w5 ⟨rfl,hy⟩;refine x (Zy U)<|xe ?_;have hz:=hK.D hy;have h3:=Ql I hz;have h4:O5 [g] w w5:=hr.D hz.any;refine QU rfl (λhm=>?_) (λhm=>?_)
 ·have hn:¬e.2=0:=by simpa using hm
  rw[OT hn]at J;have hL:w5.ownsRow base 112 2 (sL g ts.length cap) ts.length (ts.flatMap QD):=h3;refine Qj<|Qa<|QT (hw.I hy) U U<|x (ZA (i:=i) U U oa)<|Qn<|Qal (u:=e) YK hL (OV (λn=>Value.pointer (some ⟨g,n,none⟩)) (LT (i*2))) U oa oB λw6 hM hN =>
   xe ?_
  refine Qs<|Qa<|QH U U<|Qb<|Qs<|Qa<|QH U U<|Qb ?_;have hO:(ts.set i e).length=ts.length:=Mb;refine⟨(i+1,j+1,ts.set i e),og,oB,og,E,og,?_,?_,h4.Q hM,?_⟩
  ·simp only[];rw[J,<-H,List.set_eq_take_append_cons_drop,OU oa,OK,Lu (by rw[LB];omega),LB,Mk oa,ML,MK,List.take_zero]
  ·simp only[];rw[List.drop_set_of_lt oa,hv]
  simp only[];rw[hO];exact hN
 have hn:e.2=0:=by simpa using hm
 rw[OU hn,LS]at J;refine Qf<|Qs<|Qa<|QH U U<|Qb<|⟨(i,j+1,ts),og,oB,og,E,hb,by rw[J];exact H,hv,h4,h3⟩
instance ayAz1:Ay sV 25 3 24 1:=⟨oe,oe⟩
instance ayAz2:Ay sV 30 2 24 1:=⟨oe,oe⟩
instance ayAz3:Ay sV 31 2 28 27:=⟨oe,oe⟩
instance ayAz4:Ay sV 34 3 33 1:=⟨oe,oe⟩
abbrev X4V:={r:LN // r.length=4/\∀n∈r,n<256}
abbrev Xt (r:X4V):LV:=bys r.1
theorem ym (r:X4V):(Xt r).length=4:=by show(bys r.1).length=4;unfold bys;rw[Lh,r.2.1]
structure PlV where
 ns:LN
 vx:O2
 xs:List X4V
 f0:Int
 f1:Int
 f2:Int
 bd:Int
abbrev Xi (l:PlV):LV:=bys l.ns++[l.vx,.int .i8 l.f0,.int .i8 l.f1,.int .i8 l.f2,.int .i8 l.bd]
abbrev i8R (n:Int):Prop:=-128<=n/\n<=127
structure PlA (L:LN)(H:xA)(l:PlV):Prop where
 n:l.ns.length=147
 b:∀n∈l.ns,n<256
 x:Zn L H l.vx l.xs.length 4 (l.xs.flatMap Xt)
 f0:i8R l.f0
 f1:i8R l.f1
 f2:i8R l.f2
 bd:i8R l.bd
theorem QoG {l:PlV}(h:l.ns.length=147):(Xi l).length=152:=by rw[Xi,Ll,X2,h];rfl
theorem QiS {l:PlV}(h:l.ns.length=147)(j:Nat):(Xi l)[147+j]?=([l.vx,.int .i8 l.f0,.int .i8 l.f1,.int .i8 l.f2,.int .i8 l.bd]:LV)[j]?:=by
 rw[Xi,MM (by rw[X2];omega),X2,h,ML]
theorem Qfb {l:PlV}(h:l.ns.length=147)(E:j<147):(Xi l)[j]?=some (.int .u8 ((l.ns.getD j 0:Nat):Int)):=by
 rw[Xi,Mo (by rw[X2];omega)];exact qW oa
theorem Qd8 {l:PlV}{o m:Nat}(j:Nat)(u:O2)(h:(bys ((l.ns.drop o).take m))[j]?=some u):(Xi l)[o+j]?=some u:=by
 have E:=Qnw (ns:=l.ns) (o:=o) (n:=m) j u h;have G:=(L7.1 E).1;rw[Xi,Mo G];exact E
theorem Qf8 {sz:LI}:∀(ls:xw) (pr:Option Int),(∀b,pr=some b->∀p∈ls,b<p.1)->ls.Pairwise (λp q=>p.1<q.1)->(∀p∈ls,0<=p.1/\p.1<(sz.length:Int)/\0<=p.2/\p.2<O6 sz p.1.toNat)->X6 sz pr ls=0
 | [],_,_,_,_=>rfl
 | p::ls,pr,H,I,G=>by
  obtain⟨S,T,V,Y⟩:=G p Lq;obtain⟨k1,k2⟩:=L8.1 I;have J:jL pr p.1=false:=by
   cases pr with
   | none=>rfl
   | some b=>have:=H b U p Lq;unfold jL;exact OZ oa
  rw[X6,OT oa,OT (by rw[J];decide),OT oa];exact Qf8 ls (some p.1) (λb O q E=>by cases O;exact k1 q E) k2 (λq E=>G q (Lk _ E))
theorem Qf5 {sz:LI}:∀(ls:xw) (pr:Option Int),(∀b,pr=some b->∀p∈ls,b<p.1)->ls.Pairwise (λp q=>p.1<q.1)->(∀p∈ls,0<=p.1/\p.1<(sz.length:Int)/\p.2≠0/\-65536<=p.2/\p.2<=65536)->Kn sz pr ls=0
 | [],_,_,_,_=>rfl
 | p::ls,pr,H,I,G=>by
  obtain⟨V,Y,J,h4,h5⟩:=G p Lq;obtain⟨k1,k2⟩:=L8.1 I;have O:jL pr p.1=false:=by
   cases pr with
   | none=>rfl
   | some b=>have:=H b U p Lq;unfold jL;exact OZ oa
  have S:grt p.2=false:=by unfold grt;rw[OZ oa,OZ oa];rfl
  rw[Kn,OT oa,OT (by rw[O];decide),OT (by rw[S];simpa using J)];exact Qf5 ls (some p.1) (λb T q E=>by cases T;exact k1 q E) k2 (λq E=>G q (Lk _ E))
theorem QeY (a:Int){b:Int}(h:0<b):-b<a.tmod b/\a.tmod b<b:=⟨Int.lt_tmod_of_pos a h,Int.tmod_lt_of_pos a h⟩
structure ItG (c:Nat)(k:Nat)(q:IV):Prop where
 nm:q.nm=⟨#[UInt8.ofNat c]⟩++⟨#[UInt8.ofNat (48+k)]⟩
 g:GdA q.p.a
 e:∀e∈q.p.a.al,e<5
theorem Qi8 (k:Nat)(h:k<3):Xj (nmI 99 k)=true/\Xj (nmI 114 k)=true/\Xj (nmI 101 k)=true:=by
 match k,h with
 | 0,_=>decide
 | 1,_=>decide
 | 2,_=>decide
theorem QgX:∀n,n<4->∀m,m<3->((oV n).map (nmI 99)++(oV m).map (nmI 114)).Nodup:=ol
theorem Qav {c:Nat}{co:List IV}(h:∀k (E:k<co.length),ItG c k (co[k]'E)):(co.map IV.it).map (·.nm)=(oV co.length).map (nmI c):=by
 apply Mv
 ·simp
 intro i G H;simp only[List.getElem_map,List.getElem_range];exact(h i (oA G)).nm
theorem Qpy {co rq:List IV}(h1:1<=co.length)(h3:co.length<=3)(I:∀k (E:k<co.length),ItG 99 k (co[k]'E))(S:∀e,e∈al↔∃q∈co,e∈q.p.a.al)(hb:rq.length<=2)
  (J:∀k (E:k<rq.length),ItG 114 k (rq[k]'E)/\∀e∈(rq[k]'E).p.a.al,e∈al) (hc:qx.length<=2) (T:(qx.map (·.nm)).Nodup) (V:∀q∈qx,(∃k,k<2/\q.nm=⟨#[101]⟩++⟨#[UInt8.ofNat (48+k)]⟩)/\q.ls≠[]/\q.ls.length<=3/\X6 (co.map (·.p.a.st)) none q.ls=0)
  (hf:ks.length<=1) (Y:∀q∈ks,q.nm=⟨#[107]⟩/\XN (co.map (·.p.a.st)) q.k=0):D25 ⟨J2 ns 5,co.map IV.it,rq.map IV.it,qx.map XV.x,ks.map KV.k⟩:=by
 have O:szs (co.map IV.it)=co.map (·.p.a.st):=by unfold szs;rw[Mn];rfl
 refine⟨⟨VZ ns 5,Qkb ns⟩,by simp only[Oc];omega,by simp only[Oc];omega,by simp only[Oc];omega,λx hx=>?_,λx hx=>?_,?_,by simp only[Oc];omega,λx hx=>?_,?_,by simp only[Oc];omega,λx hx=>?_⟩
 ·obtain⟨q,G,rfl⟩:=LD.1 hx;obtain⟨k,E,rfl⟩:=LO G;have g:=I k E;exact⟨by show Xj (co[k]'E).nm=true;rw[g.nm];exact(Qi8 k oa).1,g.g,g.e⟩
 ·obtain⟨q,G,rfl⟩:=LD.1 hx;obtain⟨k,E,rfl⟩:=LO G;have g:=J k E;refine⟨by show Xj (rq[k]'E).nm=true;rw[g.1.nm];exact(Qi8 k oa).2.1,g.1.g,λe he=>?_⟩;obtain⟨y,hy,ha⟩:=(S e).1 (g.2 e he);exact⟨y.it,LP hy,ha⟩
 ·show((co.map IV.it).map (·.nm)++(rq.map IV.it).map (·.nm)).Nodup;rw[Qav I,Qav (λk E=>(J k E).1)];exact QgX _ oa _ oa
 ·obtain⟨q,G,rfl⟩:=LD.1 hx;obtain⟨⟨k,k1,k2⟩,H,_,g4⟩:=V q G;refine⟨by show Xj q.nm=true;rw[k2];exact(Qi8 k oa).2.2,H,?_⟩;show X6 (szs (co.map IV.it)) none q.ls=0;rw[O];exact g4
 ·show((qx.map XV.x).map (·.nm)).Nodup;rw[Mn];exact T
 obtain⟨q,G,rfl⟩:=LD.1 hx;obtain⟨g1,H⟩:=Y q G;refine⟨by show Xj q.nm=true;rw[g1];decide,?_⟩;show XN (szs (co.map IV.it)) q.k=0;rw[O];exact H
def flk (l:PlV)(i:Nat):Int:=[l.f0,l.f1,l.f2].getD i 0
theorem Qqu {l:PlV}(h:l.ns.length=147)(hi:i<3):(Xi l)[0+148+i*1]?=some (.int .i8 (flk l i)):=by
 rw[show 0+148+i*1=147+(1+i) by omega,QiS h]
 match i,hi with
 | 0,_=>rfl
 | 1,_=>rfl
 | 2,_=>rfl
theorem Qqt {l:PlV}(h:PlA L H l)(i:Nat)(hi:i<3):i8R (flk l i):=by
 match i,hi with
 | 0,_=>exact h.f0
 | 1,_=>exact h.f1
 | 2,_=>exact h.f2
theorem Qka (ns:LN):∀e∈J2 ns 5,JF e.nm:=λe E=>by
 unfold J2 at E;obtain⟨k,_,rfl⟩:=LD.1 E;unfold K8;split <;> exact XI od
theorem Qg2 {l:PlV}(h:PlA [] ↑w l):
  QY sV 7 [sT (Xi l)] w λr w'=>sX w w'/\∃k,QeV ↑w ↑w' r k/\D25 k:=by
 refine Zf (1+l.ns.getD 5 0 % 3) λn hn=>?_;have hn3:1<=n/\n<=3:=oa
 refine Zq func7 ?_;refine Qc<|Zl (Xi l) λb1 w1 hs1 hb1 pd=>QM Z8 λb2 w2 kx hb2 pf=>xe ?_;have pg:=hs1.D kx;have hl1:=pd.lt;have hl2:=pf.lt;have gw:=pd.I kx;have ph:((l.ns.drop 0).take 5).length=5:=by rw[LB,LY,h.n];rfl
 have hflt:∀n∈(l.ns.drop 0).take 5,n<256:=λn hn=>h.b n (Ma (LX hn));refine Qc<|QQ U<|x (qF (us:=bys ((l.ns.drop 0).take 5)) gw U (by rw[X2];exact ph) (λj u hu=>Qd8 (l:=l) (o:=0) (m:=5) j u hu))<|Qz<|(QdG (ns:=(l.ns.drop 0).take 5) ph hflt).Y ?_;rintro ve w3 ⟨pj,gn⟩;refine Zf (J2 ((l.ns.drop 0).take 5) 5) λev ki=>?_;rw[ki]at gn;refine x (Qx ⟨xL gn,Z⟩)<|QM Z8 λH w4 hs4 hb3 hB3=>QK [ve,ZE,ZE,ZE,ZE] hB3 ⟨Qp gn,U,U,U,U,Z⟩ λw5 hs5 pm =>
  xe ?_
 have pn:sX w3 w5:=hs4.O hs5 hb3;refine Qc<|QM [ZE] λb4 w6 po hb4 pp=>xe ?_;have pu:=pn.D po;have gx:=pj.D pu;have T:=kx.D gx;have hz3:=pj.size;have hz35:=pn.size;have hl3:=pm.lt;have hl4:=pp.lt;have kz:=gw.I gx;have hB36:=pm.I po;have q5:=Qfb (l:=l) h.n (j:=5) oa;have q5l:=JH h.b 5;refine Zf (l.ns.getD 5 0) λcn hcn=>?_;rw[hcn]at q5 q5l hn;refine Qc<|Qo U kz U q5<|x (JW (a:=(cn:Int)) (b:=3) U U oa oa)<|x (Z6 (k':=.i64) U ⟨oa,oa⟩)<|QH U U<|Qb<|QX (α:=O2×List IV×O2×LI) [(6,7),(26,55)] (λ_=>[]) (λz w'=>O5 [H,b4] w6 w'/\QZ ↑w' H 45 [ve,z.1,ZE,ZE,ZE]/\QZ ↑w' b4 63 [z.2.2.1]/\zL ↑w6 w' z.1 z.2.2.1 z.2.1 z.2.2.2/\z.2.1.length=n/\(∀k (O:k<z.2.1.length),ItG 99 k (z.2.1[k]'O))/\z.2.2.2.length<=5*n/\∀e,e∈z.2.2.2↔∃q∈z.2.1,e∈q.p.a.al) om ?_ ?_
 ·refine Qj<|Qa<|xe<|Q7 (α:=Nat×O2×List IV×O2×LI) [(6,7),(27,55)] (λz=>[(27,sS z.1)])
   (λz w'=>z.1<=n/\O5 [H,b4] w6 w'/\QZ ↑w' H 45 [ve,z.2.1,ZE,ZE,ZE]/\QZ ↑w' b4 63 [z.2.2.2.1]/\zL ↑w6 w' z.2.1 z.2.2.2.1 z.2.2.1 z.2.2.2.2/\z.2.2.1.length=z.1/\(∀k (O:k<z.2.2.1.length),ItG 99 k (z.2.2.1[k]'O))/\z.2.2.2.2.length<=5*z.1/\∀e,e∈z.2.2.2.2↔∃q∈z.2.2.1,e∈q.p.a.al)
   (λz=>n - z.1) (0,ZE,[],ZE,[]) La
   ⟨Lo _,O5.Z _ _,hB36,pp,zL.nil,U,λk O=>OW O od,od,od⟩ ?_
  rintro⟨i,vc,co,va,al⟩ g7 w7 ⟨hi,hB,go,gb,ho,gy,hT,k0,gp⟩;simp only[]at hi go gb ho gy hT k0 gp;refine Zo U U (λk4=>?_) (λk4=>?_)
  ·refine Qw ?_;have k5:i=n:=by have h29:¬(i:Int)<1+(cn:Int) % 3:=k4;omega
   exact⟨(vc,co,va,al),Z,hB,go,gb,ho,og,hT,og,gp⟩
  have h4:i<n:=by have h29:(i:Int)<1+(cn:Int) % 3:=k4;omega
  have k6:b1∉[H,b4]:=ot
  have hU:=kz.J hB k6;have qs:=Qfb (l:=l) h.n (j:=0+6+i*1) oa;have qsl:=JH h.b (0+6+i*1);refine Zf (l.ns.getD (0+6+i*1) 0) λm hm=>?_;rw[hm]at qs qsl;have k7:=JV m 5;have gz:=Qcm m 5;have gc:=Qe8 m 5;refine Zf (setK m 5) λsk g0=>?_;rw[g0]at k7 gz gc;refine Qf<|Qd<|Qm<|Qj<|Qb<|Qj<|QQ U<|x (Yj (i:=i) U U oa)<|Xn hU U qs<|Qz<|(UR m qsl _).Y ?_;rintro vs w8 ⟨hg,kj⟩;rw[g0]at kj;refine Qb ?_;have pw:=hg.size;have hC:=ho.I hg;have hI8:=Qq.ints (L:=[]) hC.a oa od;have hJ8:=Qq.ints (L:=[]) kj oa od;refine Qc<|Xn (gb.I hg) U U<|Qa<|Qz<|(QdQ hI8 hJ8 oa).Y ?_;rintro pz w9 ⟨V,p0,hal2,p1,gg⟩;have kk:=hg.D V;have k8:=V.size;have hz7:=hB.size;refine Qn<|Qu (gb.I kk) U U od (Qp gg) λhh hv hB410=>xe ?_;have hl36:H<w6.heap.size:=oa
  have h6:zL ↑w6 w9 vc pz co p0:=hC.setA (ZB gg oa) V.any (λb E=>.inr (Qg gg b E).1);have hw:=h6.low hv (λb E=>by rw[Lb.1 E];omega);have g2:QZ ↑hh H 45 [ve,vc,ZE,ZE,ZE]:=(go.I kk).J hv oh;have k9:=(hU.I kk).J hv oh;have ma:QL [] ↑hh vs sk:=Qq.ints (L:=[]) (Qe (Ql kj V) hv (λb E hm=>by have:=(Qg kj b E).1;rw[Lb.1 hm]at this;omega)) oa od;have hz10:=hv.size;have n3v:H∉ob vc:=QP hw.c oa;have n1v:b1∉ob vc:=QP hw.c oa;have gh:=QjN (ns:=l.ns) (o:=0+9+i*27) (ov h.n);have g3:=Qn2 (o:=0+9+i*27) h.b;have g4:=λj u=>Qd8 (l:=l) (o:=0+9+i*27) (m:=27) j u;refine Zf (grN l.ns (0+9+i*27)) λgr h7=>?_;have mf:∀j u,(bys gr)[j]?=some u->(Xi l)[0+9+i*27+j]?=some u:=by rw[<-h7];exact g4
  rw[h7]at gh g3;have g5:sX hh { hh with drawn:=hh.drawn+1 }:=O5.C _ _
  have g6:(48:Int)+(i:Int)=((48+i:Nat):Int):=oa
  refine Zf (⟨#[99]⟩++⟨#[UInt8.ofNat (48+i)]⟩:ByteArray) λnm hE=>?_;refine Zz (ob vc) (YW 0 18 [12,14,15,17])<|p (QG U)<|pq (λ_ hc=>Qk (g2.J hc n3v) U U)<|p Qv<|p (λ_=>XX U U ⟨oa,oa⟩)<|p (λ_=>Z6 (k':=.i32) U ⟨oa,oa⟩)<|p (λ_=>qD (n:=48+i) (OV (Value.int .i32) g6) oa) <|
   p (λ_=>YT (a:=⟨#[99]⟩) (b:=⟨#[UInt8.ofNat (48+i)]⟩) U U (by show 1+1<=1000000000;omega))<|p Qv<|p Qv<|p (QG U)<|p (λ_=>Yj (i:=i) U U oa)<|pq (λ_ hc=>qF (us:=bys gr) (k9.J hc n1v) U (by rw[X2];exact gh) mf)<|?_
  refine pk<|xg<|(y8 (ma.I g5) (λe S=>ov (gc e S)) gz gh g3).Y ?_;rintro r11 hl ⟨gi,a,⟨xa,xm,h5,rfl,hA⟩,hG,gq⟩;have hH:=g5.D gi;have p2:=hH.size;have gj:=hA [] od;refine⟨hH.any,?_⟩;refine p (λ_=>Q5 [(0,[.string nm]),(1,[xa,sS a.st,xm,h5])] ⟨OV (λb=>(Value.string b).cells) hE,U,U,U,Z⟩)<|pk<|Za [QJ ⟨nm,⟨xa,xm,h5,a⟩⟩] λb14 gk hf hb14 mg=>⟨(hH.D hf).any,?_⟩;have hy:=hH.D hf;have ka:=hw.I hy;refine pk<|Q2 (news:=QJ ⟨nm,⟨xa,xm,h5,a⟩⟩) (L:=[]) ka.c U U U (mg.at od) (QbJ gj.al.one gj.mr.one gj.ed.one) oa (ov hy.size) λmh hI kb J mj=>⟨(hy.any (L:=ob vc)).Q J,?_⟩;have mo:=ka.setC (yX (q:=⟨nm,⟨xa,xm,h5,a⟩⟩) (N:=↑hh) (λL hL=>(hA L hL).I hf) oa hw.avlt) kb J mj;refine p (QG U)<|pkk<|Qu ((g2.I hy).J J n3v) U U od (Qp kb) λhJ T hV=>pe ?_;have hge:=Qg hw.c;have n4v:b4∉ob vc:=QP hw.c oa;have hB416:=((hB410.I hy).J J n4v).J T oh;have hs710:O5 [b4] w7 hh:=kk.any.Q hv;have hs615:O5 [H,b4] w6 hI:=((hB.Q (hs710.Y od)).D hy.any).S J (λb E=>.inr (hge b E).1);refine Qs<|QH U U<|Qa<|xe<|⟨(i+1,mh,co++[⟨nm,⟨xa,xm,h5,a⟩⟩],pz,p0),og,La,h4,hs615.Q (T.Y od),hV,hB416,mo.low T (λb E=>by rw[List.mem_singleton.1 E];omega),by simp only[oN,oP];omega,λk O=>?_,og,λe=>?_⟩
  ·simp only[]at O ⊢;by_cases hj:k<co.length
   ·rw[MI hj];exact hT k hj
   have kc:k=i:=by simp only[oN,oP]at O;omega
   subst kc;rw[M8 oa];simp only[gy,Nat.sub_self,List.getElem_cons_zero];exact⟨hE.symm,hG,λe S=>by rw[gq]at S;exact(gc e S).2⟩
  simp only[]at p1 ⊢;rw[p1,gp];constructor
  ·rintro(⟨q,G,S⟩|S)
   ·exact⟨q,Mf _ G,S⟩
   exact⟨_,Nz _ (Lb.2 U),by rw[gq];exact S⟩
  rintro⟨q,G,S⟩;rcases Lc.1 G with G|G
  ·exact .inl ⟨q,G,S⟩
  rw[Lb.1 G,gq]at S;exact .inr S
 rintro⟨vc,co,va,al⟩ g7 w7 ⟨hB,go,gb,ho,gy,hT,k0,gp⟩;simp only[]at go gb ho gy hT k0 gp;have hz7:=hB.size;have k6:b1∉[H,b4]:=ot
 have hU:=kz.J hB k6;have mq:b1∉[H]:=oh
 have n43:b4∉[H]:=oh
 have p3:=Qfb (l:=l) h.n (j:=90) oa;have q90l:=JH h.b 90;refine Zf (l.ns.getD 90 0) λrn hrn=>?_;rw[hrn]at p3 q90l;refine Zf (rn % 3) λr hr=>?_;refine QX (α:=O2×List IV) [(8,9),(56,87)] (λ_=>[]) (λz w'=>O5 [H] w7 w'/\QZ ↑w' H 45 [ve,vc,z.1,ZE,ZE]/\zL ↑w7 w' z.1 ZE z.2 []/\z.2.length=r/\∀k (O:k<z.2.length),ItG 114 k (z.2[k]'O)/\∀e∈(z.2[k]'O).p.a.al,e∈al) om ?_ ?_
 ·refine Qc<|Qo U hU U p3<|x (JW (a:=(rn:Int)) (b:=3) U U oa oa)<|x (Z6 (k':=.i64) U ⟨oa,oa⟩)<|Qa<|xe<|Q7 (α:=Nat×O2×List IV) [(8,9),(60,87)] (λz=>[(60,sS z.1)])
   (λz w'=>z.1<=r/\O5 [H] w7 w'/\QZ ↑w' H 45 [ve,vc,z.2.1,ZE,ZE]/\zL ↑w7 w' z.2.1 ZE z.2.2 []/\z.2.2.length=z.1/\∀k (O:k<z.2.2.length),ItG 114 k (z.2.2[k]'O)/\∀e∈(z.2.2[k]'O).p.a.al,e∈al)
   (λz=>r - z.1) (0,ZE,[]) La
   ⟨Lo _,O5.Z _ _,go,zL.nil,U,λk O=>OW O od⟩ ?_
  rintro⟨i,vr,rq⟩ g8 w8 ⟨hi,hg,gs,hC,kn,h7⟩;simp only[]at hi gs hC kn h7;refine Zo U U (λms=>?_) (λms=>?_)
  ·refine Qw ?_;have k5:i=r:=by have h62:¬(i:Int)<(rn:Int) % 3:=ms;omega
   exact⟨(vr,rq),Z,hg,gs,hC,og,h7⟩
  have h4:i<r:=by have h62:(i:Int)<(rn:Int) % 3:=ms;omega
  have ke:=hU.J hg mq;have hB48:=gb.J hg n43;have qs:=Qfb (l:=l) h.n (j:=0+91+i*1) oa;have qsl:=JH h.b (0+91+i*1);refine Zf (l.ns.getD (0+91+i*1) 0) λm hm=>?_;rw[hm]at qs qsl;have k7:=JV m 5;have gz:=Qcm m 5;have gc:=Qe8 m 5;refine Zf (setK m 5) λsk g0=>?_;rw[g0]at k7 gz gc;refine Qf<|Qd<|Qm<|Qj<|Qb<|Qj<|QQ U<|x (Yj (i:=i) U U oa)<|Xn ke U qs<|Qz<|(UR m qsl _).Y ?_;rintro vs w9 ⟨V,gg⟩;rw[g0]at gg;have pw:=hg.size;have k8:=V.size;have hva8:=Ql (Qe ho.a hg (λb E hm=>by rw[Lb.1 hm]at E;exact QP ho.a oa E)) V;have g4:=Qg gg;have hlv:=Q8 ho.a;have hD:=Qnc gg oa (hB48.I V) (λhm=>ov (g4 b4 hm).1) (QB hva8 oa (λb E hbs=>oy (g4 b hbs).1 (hlv b E)));refine x (ZD (l:=[]) (l':=[_]))<|Qz<|hD.Y ?_;rintro vd hh ⟨hv,p4⟩;have p5:Xa (sk.filter λx=>decide (x∈al)):=List.Pairwise.filter _ gz;have hFL:=Mg (λx=>decide (x∈al)) sk;have ko:∀e∈sk.filter λx=>decide (x∈al),e∈sk/\e∈al:=λe S=>by
   have:=L6.1 S;exact⟨this.1,OY this.2⟩
  refine Zf (sk.filter λx=>decide (x∈al)) λF hF=>?_;rw[hF]at p4 p5 hFL ko;refine Qb ?_;have kf:sX w8 hh:=V.S hv (λb E=>.inr (g4 b E).1);have hz10:=kf.size;have hw:=hC.I kf;have g2:=gs.I kf;have k9:=ke.I kf;have ma:QL [] ↑hh vd F:=Qq.ints (L:=[]) p4 oa od;have n3v:H∉ob vr:=QP hw.c oa;have n1v:b1∉ob vr:=QP hw.c oa;have gh:=QjN (ns:=l.ns) (o:=0+93+i*27) (ov h.n);have g3:=Qn2 (o:=0+93+i*27) h.b;have mf:=λj u=>Qd8 (l:=l) (o:=0+93+i*27) (m:=27) j u;refine Zf (grN l.ns (0+93+i*27)) λgr p6=>?_;have hgs2:∀j u,(bys gr)[j]?=some u->(Xi l)[0+93+i*27+j]?=some u:=by rw[<-p6];exact mf
  rw[p6]at gh g3;have g5:sX hh { hh with drawn:=hh.drawn+1 }:=O5.C _ _
  have g6:(48:Int)+(i:Int)=((48+i:Nat):Int):=oa
  refine Zf (⟨#[114]⟩++⟨#[UInt8.ofNat (48+i)]⟩:ByteArray) λnm hE=>?_;refine Zz (ob vr) (YW 0 18 [12,14,15,17])<|p (QG U)<|pq (λ_ hc=>Qk (g2.J hc n3v) U U)<|p Qv<|p (λ_=>XX U U ⟨oa,oa⟩)<|p (λ_=>Z6 (k':=.i32) U ⟨oa,oa⟩)<|p (λ_=>qD (n:=48+i) (OV (Value.int .i32) g6) oa) <|
   p (λ_=>YT (a:=⟨#[114]⟩) (b:=⟨#[UInt8.ofNat (48+i)]⟩) U U (by show 1+1<=1000000000;omega))<|p Qv<|p Qv<|p (QG U)<|p (λ_=>Yj (i:=i) U U oa)<|pq (λ_ hc=>qF (us:=bys gr) (k9.J hc n1v) U (by rw[X2];exact gh) hgs2)<|?_
  refine pk<|xg<|(y8 (ma.I g5) (λe S=>ov (gc e (ko e S).1)) p5 gh g3).Y ?_;rintro r11 hl ⟨gi,a,⟨xa,xm,h5,rfl,hA⟩,hG,gq⟩;have hH:=g5.D gi;have p2:=hH.size;have gj:=hA [] od;refine⟨hH.any,?_⟩;refine p (λ_=>Q5 [(0,[.string nm]),(1,[xa,sS a.st,xm,h5])] ⟨OV (λb=>(Value.string b).cells) hE,U,U,U,Z⟩)<|pk<|Za [QJ ⟨nm,⟨xa,xm,h5,a⟩⟩] λb14 gk hf hb14 mg=>⟨(hH.D hf).any,?_⟩;have hy:=hH.D hf;have ka:=hw.I hy;refine pk<|Q2 (news:=QJ ⟨nm,⟨xa,xm,h5,a⟩⟩) (L:=[]) ka.c U U U (mg.at od) (QbJ gj.al.one gj.mr.one gj.ed.one) oa (ov hy.size) λmh hI kb J mj=>⟨(hy.any (L:=ob vr)).Q J,?_⟩;have mo:=ka.setC (yX (q:=⟨nm,⟨xa,xm,h5,a⟩⟩) (N:=↑hh) (λL hL=>(hA L hL).I hf) oa hw.avlt) kb J mj;refine p (QG U)<|pkk<|Qu ((g2.I hy).J J n3v) U U od (Qp kb) λhJ T hV=>pe ?_;have hge:=Qg hw.c;have hs715:O5 [H] w7 hI:=((hg.D kf.any).D hy.any).S J (λb E=>.inr (hge b E).1);refine Qs<|QH U U<|Qa<|xe<|⟨(i+1,mh,rq++[⟨nm,⟨xa,xm,h5,a⟩⟩]),og,La,h4,hs715.Q T,hV,mo.low T (λb E=>by rw[Lb.1 E];omega),by simp only[oN,oP];omega,λk O=>?_⟩;simp only[]at O ⊢;by_cases hj:k<rq.length
  ·rw[MI hj];exact h7 k hj
  have kc:k=i:=by simp only[oN,oP]at O;omega
  subst kc;rw[M8 oa];simp only[kn,Nat.sub_self,List.getElem_cons_zero];exact⟨⟨hE.symm,hG,λe S=>by rw[gq]at S;exact(gc e (ko e S).1).2⟩,λe S=>by rw[gq]at S;exact(ko e S).2⟩
 rintro⟨vr,rq⟩ g8 w8 ⟨hg,gs,hC,kn,h7⟩;simp only[]at gs hC kn h7;have pw:=hg.size;have ke:=hU.J hg mq;have g147:=QiS (l:=l) h.n 0;have hX6:Zn [H,b4] ↑w6 l.vx l.xs.length 4 (l.xs.flatMap Xt):=((h.x.up (L':=[H,b4]) (λb E=>.inr (by simp only[oL,oK,or_false]at E;omega))).I pg).I gx;have p7:Zn [H] ↑w8 l.vx l.xs.length 4 (l.xs.flatMap Xt):=((hX6.st hB).up (L':=[H]) (λb E=>.inl (by simp only[oJ]at E;simp[E]))).st hg;refine QX (α:=O2×List XV) [(10,14),(88,151)] (λ_=>[]) (λz w'=>O5 [H] w8 w'/\QZ ↑w' H 45 [ve,vc,vr,z.1,ZE]/\Ue Q3 2 105 (λq=>[(q.v,q.ls.length,2,q.ls.flatMap QD)]) ↑w8 w' z.1 z.2/\z.2.length<=2/\(z.2.map (·.nm)).Nodup/\∀q∈z.2,(∃k,k<2/\q.nm=⟨#[101]⟩++⟨#[UInt8.ofNat (48+k)]⟩)/\q.ls≠[]/\q.ls.length<=3/\X6 (co.map (·.p.a.st)) none q.ls=0) om ?_ ?_
 ·refine Qc<|Qo U ke U g147<|QF p7 U<|Qa<|xe<|Q7 (α:=Nat×O2×List XV) [(10,14),(91,151)] (λz=>[(91,sS z.1)])
   (λz w'=>z.1<=l.xs.length/\z.1<=2/\O5 [H] w8 w'/\QZ ↑w' H 45 [ve,vc,vr,z.2.1,ZE]/\Ue Q3 2 105 (λq=>[(q.v,q.ls.length,2,q.ls.flatMap QD)]) ↑w8 w' z.2.1 z.2.2/\z.2.2.length<=z.1/\(z.2.2.map (·.nm)).Nodup/\∀q∈z.2.2,(∃k,k<z.1/\q.nm=⟨#[101]⟩++⟨#[UInt8.ofNat (48+k)]⟩)/\q.ls≠[]/\q.ls.length<=3/\X6 (co.map (·.p.a.st)) none q.ls=0)
   (λz=>l.xs.length - z.1) (0,ZE,[]) La
   ⟨Lo _,Lo _,O5.Z _ _,gs,Ue.nil,Lx _,List.Pairwise.nil,λq G=>by cases G⟩ ?_
  rintro⟨i,vx,qx⟩ g9 w9 ⟨hi,hi2,V,hW,h6,kq,hX,hK⟩;simp only[]at hi hi2 hW h6 kq hX hK;have p8:(∀q∈qx,(∃k,k<2/\q.nm=⟨#[101]⟩++⟨#[UInt8.ofNat (48+k)]⟩)/\q.ls≠[]/\q.ls.length<=3/\X6 (co.map (·.p.a.st)) none q.ls=0):=λq G=>by
   obtain⟨⟨k,k1,k2⟩,h2⟩:=hK q G;exact⟨⟨k,oa,k2⟩,h2⟩
  refine Zo U U (λp9=>?_) (λp9=>?_)
  ·refine Qw ?_;exact⟨(vx,qx),Z,V,hW,h6,og,hX,p8⟩
  have h4:i<l.xs.length:=by have h93:(i:Int)<(l.xs.length:Int):=p9;omega
  have hX9:=p7.st V;refine Qf<|Qd<|Qm<|Qj<|xig ym hX9 U U h4 λa94 qc=>?_;refine Zf (l.xs[i]'h4) λxr hxr=>?_;rw[hxr]at qc;refine x (Qr qc U (ym xr))<|QM [.int .u8 0,.int .u8 0,.int .u8 0,.int .u8 0] λql hh hv hb11 hB11=>x Qi<|Qn<|Zv (us:=Xt xr) hB11 U U (ym xr) U (Qdv xr.1) λhl gi qm=>xe ?_;have h8:sX w9 hl:=hv.O gi hb11;refine Qd<|Qj<|x (QR U U)<|xe<|QO U (λqo=>?_) (λqo=>?_)
  ·refine Qw ?_;exact⟨(vx,qx),Z,V.D h8.any,hW.I h8,h6.I h8,og,hX,p8⟩
  have hi3:i<2:=by have h98:¬(i:Int)=2:=qo;omega
  have g6:(48:Int)+(i:Int)=((48+i:Nat):Int):=oa
  have p2:=h8.size;have hl11:=qm.lt;refine Zf (⟨#[101]⟩++⟨#[UInt8.ofNat (48+i)]⟩:ByteArray) λnm hE=>?_;refine Qf<|Qj<|QH U U<|x (Z6 (k':=.i32) U ⟨oa,oa⟩)<|x (qD (n:=48+i) (OV (Value.int .i32) g6) oa)<|x (YT (a:=⟨#[101]⟩) (b:=⟨#[UInt8.ofNat (48+i)]⟩) U U (by show 1+1<=1000000000;omega))<|x (Qx La) <|
   QM [.string .empty,ZE] λb12 gk hf qr gw=>Qn<|Zv (us:=[.string nm,ZE]) gw U (show Go.Lg.ev _ _=_ from OV (λs=>Value.agg #[.string s,ZE]) hE) U U oB λhM hN hB1213=>xe ?_
  have kr:sX hl hM:=hf.O hN qr;have mt:=h8.D kr;have hz1113:=kr.size;have k8:=V.size;have hltC:=Q8 ho.c;have nc3:H∉ob vc:=QP ho.c oa;have q0:∀b∈ob vc,b∉[H]:=λb E hm=>by rw[Lb.1 hm]at E;exact nc3 E
  have hC13:=Ql (Qe (Qe ho.c hg q0) V q0) mt;have mu:=hW.I mt;have hB1113:=qm.I kr;have hl12:=gw.lt;have q1:H∉[b12]:=oh
  have n1112:ql∉[b12]:=oh
  have q2:=QB (L:=[b12]) hC13 oa (λb E hm=>by rw[Lb.1 hm]at E;have:=hltC b12 E;omega);refine QX (α:=O2×xw) [(13,14),(104,140)] (λ_=>[]) (λz w'=>O5 [b12] hM w'/\QZ ↑w' b12 105 [.string nm,z.1]/\w'.ownsRow ↑hM 107 2 z.1 z.2.length (z.2.flatMap QD)/\z.2.length<=co.length/\z.2.Pairwise (λp q=>p.1<q.1)/\∀p∈z.2,0<=p.1/\p.1<(co.length:Int)/\0<=p.2/\p.2<O6 (co.map (·.p.a.st)) p.1.toNat) om ?_ ?_
  ·refine Qc<|Qo U mu U U<|QF q2 U<|Qa<|xe<|Q7 (α:=Nat×O2×xw) [(13,14),(107,140)] (λz=>[(107,sS z.1)])
    (λz w'=>z.1<=co.length/\O5 [b12] hM w'/\QZ ↑w' b12 105 [.string nm,z.2.1]/\w'.ownsRow ↑hM 107 2 z.2.1 z.2.2.length (z.2.2.flatMap QD)/\z.2.2.length<=z.1/\z.2.2.Pairwise (λp q=>p.1<q.1)/\∀p∈z.2.2,0<=p.1/\p.1<(z.1:Int)/\0<=p.2/\p.2<O6 (co.map (·.p.a.st)) p.1.toNat)
    (λz=>co.length - z.1) (0,ZE,[]) La
    ⟨Lo _,O5.Z _ _,hB1213,QE _ _ _ _,Lx _,List.Pairwise.nil,λp I=>by cases I⟩ ?_
   rintro⟨k,vl,ls⟩ g14 hO ⟨O,Y,hP,ha,mv,gl,hQ⟩;simp only[]at O hP ha mv gl hQ;refine Zo U U (λmw=>?_) (λmw=>?_)
   ·refine Qw ?_;have kc:k=co.length:=by have h109:¬(k:Int)<(co.length:Int):=mw;omega
    rw[kc]at hQ;exact⟨(vl,ls),Z,Y,hP,ha,og,gl,hQ⟩
   have hj:k<co.length:=by have h109:(k:Int)<(co.length:Int):=mw;omega
   have hAC14:=q2.st Y;have hY:=mu.J Y q1;have q3:=hB1113.J Y n1112;refine Qf<|Qd<|Qm<|Qj<|Qb<|Qc<|Qo U hY U U<|Qa<|xig Yv hAC14 U U hj λa113 q4=>?_;refine Zf (co[k]'hj) λq G=>?_;rw[G]at q4;refine x (Zd U)<|x (Zd U)<|x (Qy ((q4.from 1).fld 1 (sS q.p.a.st) U) U)<|Qb ?_;have my:=(hT k hj).g;rw[G]at my;have hqp:=my.p;have hqs:=my.s;have mz:=qW (ns:=xr.1) (j:=0+k*1) (by rw[xr.2.1];omega);have qx0l:=JH xr.2.2 (0+k*1);refine Zf (xr.1.getD (0+k*1) 0) λxk hxk=>?_;rw[hxk]at mz qx0l;have hmod:0<=(xk:Int) % (q.p.a.st+2):=Int.emod_nonneg _ oa;refine Qj<|x (Yj (i:=k) U U oa)<|Xn q3 U mz<|x (Z6 (k':=.i64) U ⟨oa,oa⟩)<|Qa<|QH U U<|x (JW (a:=(xk:Int)) (b:=q.p.a.st+2) U U oa oa)<|Qa<|Z5 U U<|xe ?_;have hgeL:=Qg ha;have q6:=Y.size;have j1:=hN.size;have j2:b12∉ob vl:=QP ha oa;have hn11v:ql∉ob vl:=QP ha oa;have hcget:O6 (co.map (·.p.a.st)) k=q.p.a.st:=by
    unfold O6;simp[oR,List.getElem?_map,Og hj,G]
   refine ZH U (λh125=>?_) (λh125=>?_)
   ·refine Qf<|Qs<|QH U U<|Qa<|xe ?_;exact⟨(k+1,vl,ls),og,La,hj,Y,hP,ha,og,gl,λp I=>by have:=hQ p I;simp only[];omega⟩
   have hd14:sX hO { hO with drawn:=hO.drawn+1 }:=O5.C _ _
   refine Zf ((xk:Int) % (q.p.a.st+2)) λst hst=>?_;refine Zz (ob vl) (YW 0 15 [11,12,14])<|p (QG U)<|pq (λ_ hc=>Qk (hP.J hc j2) U U)<|p Qv<|p Qv<|p (λ_=>Yj (i:=k) U U oa)<|pq (λ_ hc=>Qk (q3.J hc hn11v) U mz)<|p (λ_=>Z6 (k':=.i64) U ⟨oa,oa⟩)<|p Qv<|p (λ_=>XX U U ⟨oa,oa⟩) <|
    p (λ_=>JW (a:=(xk:Int)) (b:=q.p.a.st+2) U U oa oa)<|p (λ_=>Qx ⟨U,U,Z⟩)<|pk<|Za [QD ((k:Int),(xk:Int) % (q.p.a.st+2))] λb137 hI J hb137 hB137=>?_
   have gt:=hd14.D J;have hz1415:=gt.size;refine⟨gt.any,?_⟩;refine pk<|Q2 (news:=QD ((k:Int),(xk:Int) % (q.p.a.st+2))) (L:=[]) (Ql ha gt) U U U (hB137.at od) (Qff _) oa oa λv16 hJ gu T j3=>⟨(gt.any (L:=ob vl)).Q T,?_⟩;have hge16:∀b∈ob v16,↑hM<=b:=λb E=>(Qg gu b E).1;refine p (QG U)<|pkk<|Qu ((hP.I gt).J T j2) U U od (Qp gu) λm2 hz hU=>pe ?_;refine Qs<|QH U U<|Qa<|xe<|⟨(k+1,v16,ls++[((k:Int),(xk:Int) % (q.p.a.st+2))]),og,La,hj,((Y.D gt.any).S T (λb E=>.inr (hgeL b E).1)).Q hz,hU,?_,by simp only[oN,oP];omega,?_,λp I=>?_⟩
   ·have h9:=Qe gu hz (λb E=>by have:=hge16 b E;simp only[oJ];omega);simp only[oN,List.flatMap_append];simpa using h9
   ·simp only[];rw[MH];exact⟨gl,NM _ _,λp I p' m3=>by rw[Lb.1 m3];have:=hQ p I;simp only[];omega⟩
   simp only[]at I ⊢;rcases Lc.1 I with I|I
   ·have:=hQ p I;omega
   rw[Lb.1 I];simp only[Ou];rw[hcget];omega
  rintro⟨vl,ls⟩ g14 hO ⟨Y,hP,ha,mv,gl,hQ⟩;simp only[]at hP ha mv gl hQ;have q6:=Y.size;have j1:=hN.size;have hZ:sX w9 hO:=mt.O Y oa;have hY:=mu.J Y q1;have kt:=h6.I hZ;refine Qc<|Qo U hP U U<|QF (QB (L:=[]) ha oa od) rfl<|x (Yc rfl rfl)<|xe<|ZH U (λza=>?_) (λza=>?_)
  ·refine Qf<|Qs<|QH U U<|Qa<|xe<|⟨(i+1,vx,qx),og,La,h4,og,V.D hZ.any,hY,kt,og,hX,λq G=>?_⟩;obtain⟨⟨k,k1,k2⟩,h2⟩:=hK q G;exact⟨⟨k,og,k2⟩,h2⟩
  have zb:(0:Int)<(ls.length:Int):=za;have hxx:=Qp ha;refine Qs<|Qo U hY U U<|QT hP U U<|Qn<|Za [Q3 ⟨nm,vl,ls⟩] λb148 hI J hb148 hB148=>?_;refine Qn<|Q2 (news:=Q3 ⟨nm,vl,ls⟩) (L:=[]) (Ql kt.own J) U U U (hB148.at od) (Qa8 hxx) oa (oy hZ.size J.size) λv16 hJ gu T j3=>?_;have hs1115:sX hl hI:=(kr.O Y qr).D J;have hM16:=(h6.I h8).app hs1115 (q:=⟨nm,vl,ls⟩) (λt ht=>by rw[Lb.1 ht];exact⟨↑hM,107,Ql ha J,by show ls.length<=_;omega,hz1113⟩) oa gu T j3;have hgeX:=Qg kt.own;have n3x:H∉ob vx:=QP kt.own oa;refine QQ U<|Qn<|Qu ((hY.I J).J T n3x) U U od (Qp gu) λm2 hz hB317=>xe ?_;refine Qs<|QH U U<|Qa<|xe ?_;have ku:O5 [H] w8 hJ:=((V.D hZ.any).D J.any).S T (λb E=>.inr (hgeX b E).1);refine⟨(i+1,v16,qx++[⟨nm,vl,ls⟩]),og,La,h4,og,ku.Q hz,hB317,hM16.low hz (λb E=>by rw[Lb.1 E];omega),by simp only[oN,oP];omega,?_,λq G=>?_⟩
  ·simp only[Oj,oY,OL];rw[ME];refine⟨hX,od,λs hs s' hs' e=>?_⟩;obtain⟨q,G,rfl⟩:=LD.1 hs;obtain⟨⟨k,k1,k2⟩,_⟩:=hK q G;have hk0:k=0:=oa
   have hi1:i=1:=oa
   rw[Lb.1 hs',k2,<-hE,hk0,hi1]at e;exact OW e ol
  rcases Lc.1 G with G|G
  ·obtain⟨⟨k,k1,k2⟩,h2⟩:=hK q G;exact⟨⟨k,og,k2⟩,h2⟩
  rw[Lb.1 G];refine⟨⟨i,Nat.lt_succ_self _,hE.symm⟩,λe=>by rw[show ls=[] from e]at zb;exact OW zb ol,by show ls.length<=3;omega,Qf8 ls none (λb E=>by cases E) gl (λp I=>?_)⟩;rw[Lh];exact hQ p I
 rintro⟨vx,qx⟩ g9 w9 ⟨V,hW,h6,kq,hX,hK⟩;simp only[]at hW h6 kq hX hK;have k8:=V.size;have zv:=ke.J V mq;have g151:=QiS (l:=l) h.n 4;have hbd:=h.bd;have hbdb:=QeY l.bd (b:=8) ol;refine Zf (l.bd.tmod 8) λbd z1=>?_;rw[z1]at hbdb;refine Qc<|Qo U zv U g151<|x (Z6 (k':=.i64) U ⟨oa,oa⟩)<|x (Qd5 U U ol)<|x (Qx ⟨U,U,Z⟩)<|QM [.string .empty,ZE,sS 0] λga hh hv m4 m5 =>
  Qn<|Zv (us:=[.string ⟨#[107]⟩,ZE,sS bd]) m5 U (show Go.Lg.ev _ _=_ from OV (λn=>Value.agg #[.string ⟨#[107]⟩,ZE,sS n]) z1) U U oC λhl gi z2=>xe ?_
 have h8:sX w9 hl:=hv.O gi m4;have hB111:=zv.I h8;have hB311:=hW.I h8;have n115:b1∉[ga]:=oh
 have n315:H∉[ga]:=oh
 have hl15:=z2.lt;refine QX (α:=O2×xw) [(16,16),(157,179)] (λ_=>[]) (λz w'=>O5 [ga] hl w'/\QZ ↑w' ga 110 [.string ⟨#[107]⟩,z.1,sS bd]/\w'.ownsRow ↑hl 112 2 z.1 z.2.length (z.2.flatMap QD)/\z.2.length<=n/\z.2.Pairwise (λp q=>p.1<q.1)/\∀p∈z.2,0<=p.1/\p.1<(n:Int)/\-4<p.2/\p.2<4) om ?_ ?_
 ·refine Qj<|Qa<|xe<|Q7 (α:=Nat×O2×xw) [(16,16),(158,179)] (λz=>[(158,sS z.1)])
   (λz w'=>z.1<=n/\O5 [ga] hl w'/\QZ ↑w' ga 110 [.string ⟨#[107]⟩,z.2.1,sS bd]/\w'.ownsRow ↑hl 112 2 z.2.1 z.2.2.length (z.2.2.flatMap QD)/\z.2.2.length<=z.1/\z.2.2.Pairwise (λp q=>p.1<q.1)/\∀p∈z.2.2,0<=p.1/\p.1<(z.1:Int)/\-4<p.2/\p.2<4)
   (λz=>n - z.1) (0,ZE,[]) La
   ⟨Lo _,O5.Z _ _,z2,QE _ _ _ _,Lx _,List.Pairwise.nil,λp I=>by cases I⟩ ?_
  rintro⟨i,vt,ts⟩ g12 gk ⟨hi,hf,hR,h0,kg,gm,hS⟩;simp only[]at hi hR h0 kg gm hS;refine Zo U U (λm6=>?_) (λm6=>?_)
  ·refine Qw ?_;have k5:i=n:=by have h160:¬(i:Int)<1+(cn:Int) % 3:=m6;omega
   rw[k5]at kg hS;exact⟨(vt,ts),Z,hf,hR,h0,kg,gm,hS⟩
  have h4:i<n:=by have h160:(i:Int)<1+(cn:Int) % 3:=m6;omega
  have z3:=hB111.J hf n115;have qf:=Qqu (l:=l) h.n (i:=i) oa;have qfb:=Qqt h i oa;refine Zf (flk l i) λfk hfk=>?_;rw[hfk]at qf qfb;refine Qf<|Qd<|Qm<|Qj<|Qb<|Qj<|QQ U<|x (Yj (i:=i) U U oa)<|Xn z3 U qf<|Zx U U<|xe<|ZH U (λh165=>?_) (λh165=>?_)
  ·refine Qf<|Qs<|QH U U<|Qa<|xe ?_;exact⟨(i+1,vt,ts),og,La,h4,hf,hR,h0,og,gm,λp I=>by have:=hS p I;simp only[];omega⟩
  have hmd:=QeY fk (b:=4) ol;have hd12:sX gk { gk with drawn:=gk.drawn+1 }:=O5.C _ _
  have hz12:=hf.size;have hgeT:=Qg h0;have z4:ga∉ob vt:=QP h0 oa;have hn1v:b1∉ob vt:=QP h0 oa;refine Zz (ob vt) (YW 0 14 [10,11,13])<|p (QG U)<|pq (λ_ hc=>Qk (hR.J hc z4) U U)<|p Qv<|p Qv<|p (QG U)<|p (λ_=>Yj (i:=i) U U oa)<|pq (λ_ hc=>Qk (z3.J hc hn1v) U qf)<|p (λ_=>Z6 (k':=.i64) U ⟨oa,oa⟩) <|
   p (λ_=>Qd5 U U ol)<|p (λ_=>Qx ⟨U,U,Z⟩)<|pk<|Za [QD ((i:Int),fk.tmod 4)] λb176 hM hN hb176 hB176=>?_
  have gv:=hd12.D hN;have hz1213:=gv.size;refine⟨gv.any,?_⟩;refine pk<|Q2 (news:=QD ((i:Int),fk.tmod 4)) (L:=[]) (Ql h0 gv) U U U (hB176.at od) (Qff _) oa oa λz5 hO ha Y hn14=>⟨(gv.any (L:=ob vt)).Q Y,?_⟩;have hge14:∀b∈ob z5,↑hl<=b:=λb E=>(Qg ha b E).1;refine p (QG U)<|pkk<|Qu ((hR.I gv).J Y z4) U U od (Qp ha) λhI J m5=>pe ?_;refine Qs<|QH U U<|Qa<|xe<|⟨(i+1,z5,ts++[((i:Int),fk.tmod 4)]),og,La,h4,((hf.D gv.any).S Y (λb E=>.inr (hgeT b E).1)).Q J,m5,?_,by simp only[oN,oP];omega,?_,λp I=>?_⟩
  ·have h9:=Qe ha J (λb E=>by have:=hge14 b E;simp only[oJ];omega);simp only[oN,List.flatMap_append];simpa using h9
  ·simp only[];rw[MH];exact⟨gm,NM _ _,λp I p' m3=>by rw[Lb.1 m3];have:=hS p I;simp only[];omega⟩
  simp only[]at I ⊢;rcases Lc.1 I with I|I
  ·have:=hS p I;omega
  rw[Lb.1 I];simp only[];omega
 rintro⟨vt,ts⟩ g12 gk ⟨hf,hR,h0,kg,gm,hS⟩;simp only[]at hR h0 kg gm hS;have hz12:=hf.size;have hgT:=Qg h0;refine Qc<|Qo U hR U U<|Qz<|(Qnb h0 oa).Y ?_;rintro vu hM ⟨hN,kv⟩;have hup:(nzT ts).Pairwise (λp q=>p.1<q.1):=List.Pairwise.filter _ gm;have hul:=Mg (λp:Int×Int=>!decide (p.2=0)) ts;have hub:∀p∈nzT ts,0<=p.1/\p.1<(n:Int)/\p.2≠0/\-65536<=p.2/\p.2<=65536:=λp I=>by
  have h1:=L6.1 I;have h2:=hS p h1.1;have h3:¬p.2=0:=by simpa using h1.2
  omega
 refine Zf (nzT ts) λus hus=>?_;have hul':us.length<=3:=by rw[<-hus];exact LH hul oa
 rw[hus]at kv hup hub;have n15t:ga∉ob vt:=QP h0 oa;refine QQ rfl<|Qn<|Qu (hR.J hN n15t) U U od (Qp kv) λhO Y hB1514=>xe ?_;have hZ:sX w9 hO:=(((h8.O hf m4).S hN (λb E=>.inr (ov (hgT b E).1)))).O Y m4;have j1:=hN.size;have q6:=Y.size;have hgU:=Qg kv;have ha:=Qe kv Y (λb E=>by have:=(hgU b E).1;simp only[oJ];omega);have hY:=hW.I hZ;refine QX (α:=O2×List KV) [(184,190)] (λ_=>[]) (λz w'=>O5 [H] hO w'/\QZ ↑w' H 45 [ve,vc,vr,vx,z.1]/\z.2.length<=1/\(∀q∈z.2,q.nm=⟨#[107]⟩/\XN (co.map (·.p.a.st)) q.k=0)/\∀L:LN,(∀b∈L,b<↑w6)->jz L ↑w' z.1 z.2) om ?_ ?_
 ·refine Qc<|Qo U hB1514 U U<|QF (QB (L:=[]) ha oa od) rfl<|x (Yc rfl rfl)<|xe<|ZH U (λh187=>?_) (λh187=>?_)
  ·refine Qf ?_;exact⟨(ZE,[]),Z,O5.Z _ _,hY,ol,λq G=>(by cases G),λL _=>⟨Zn.nil _ _ 3,λq G=>(by cases G),λq G=>(by cases G)⟩⟩
  refine Qs<|QT hB1514 U U<|Qn<|Za [Q9 ⟨⟨#[107]⟩,vu,us,bd⟩] λb189 hI J hb189 hB189=>?_;refine QQ U<|Qn<|Qu (hY.I J) U U od rfl λhJ T hV=>xe ?_;refine⟨(_,[⟨⟨#[107]⟩,vu,us,bd⟩]),Z,J.any.Q T,hV,Lx _,λq G=>?_,λL hL=>?_⟩
  ·rw[Lb.1 G];refine⟨rfl,?_⟩;have hgr0:grt bd=false:=by unfold grt;rw[OZ oa,OZ oa];rfl
   have hct:=Qf5 (sz:=co.map (·.p.a.st)) us none (λb E=>by cases E) hup (λp I=>by rw[Lh,gy];exact hub p I);show XN _ ⟨_,us,bd⟩=0;unfold XN;rw[OT og,OT (by rw[hct];decide),OT (by simp only[];rw[hgr0];decide)]
  have kw:∀b∈H::L,b<hl.heap.size:=λb E=>by
   rcases Lj.1 E with rfl|E
   ·omega
   have:=hL b E;omega
  have h1:jz (H::L) ↑hI (sL b189 1 1) [⟨⟨#[107]⟩,vu,us,bd⟩]:=by
   refine⟨hB189.arr (λE=>ov (kw _ E)) U ol (Lx _),λq G=>?_,λq G=>?_⟩
   ·rw[Lb.1 G];exact(QB (L:=H::L) ha oa (λb E hbL=>oy (hgU b E).1 (kw b hbL))).I J
   rw[Lb.1 G];exact XI ol
  exact(h1.st (T.Y od)).up (λb E=>.inl (Lk _ E))
 rintro⟨vk,ks⟩ g16 hJ ⟨T,hV,hj,hgk,m7⟩;simp only[]at hV hj hgk m7;have hge3:=Qg gn;have hlt3:=Q8 gn;have ku:O5 [H] w8 hJ:=(V.D hZ.any).Q T;have hs716:O5 [H] w7 hJ:=hg.Q ku;have m8:O5 [H,b4] w6 hJ:=hB.Q (hs716.Y od);have m9:∀b∈[H],b<w6.heap.size:=λb E=>by rw[Lb.1 E];omega
 have hE16:=Qe (Ql gn pu) m8 (λb E hm=>by have:=hlt3 b E;simp only[oL,oK,or_false]at hm;omega);have hC16:=ho.low hs716 m9;have hR16:=hC.low ku (λb E=>ov (m9 b E));have hX16:=(h6.I hZ).low T (λb E=>ov (m9 b E));have n23:b2∉[H]:=oh
 have n234:b2∉[H,b4]:=ot
 have hB216:=(pf.I gx).J m8 n234;refine Qc<|QT hV U U<|QK [ve,vc,vr,vx,vk] hB216 ⟨Qp hE16,Qp hC16.c,Qp hR16.c,Qp hX16.own,(m7 [] od).arr.one,Z⟩ λm2 hz hB217=>xe ?_;have pa:∀b∈[b2],b<w6.heap.size:=λb E=>by rw[Lb.1 E];omega
 have lo2':∀b∈[b2],b<w2.heap.size:=λb E=>by rw[Lb.1 E];omega
 have hE17:=Qe hE16 hz (λb E hm=>oy (hge3 b E).1 (lo2' b hm));have hC17:=hC16.low hz pa;have hR17:=hR16.low hz (λb E=>ov (pa b E));have pc:=hX16.low hz (λb E=>ov (pa b E));have hs017:sX w m2:=((pg.D gx).S m8 (λb E=>.inr (by simp only[oL,oK,or_false]at E;omega))).O hz oa;have hcon:∀q∈co,JF q.nm:=λq G=>by
  obtain⟨k,O,rfl⟩:=LO G;rw[(hT k O).nm];exact qL 99 k
 have hrqn:∀q∈rq,JF q.nm:=λq G=>by
  obtain⟨k,O,rfl⟩:=LO G;rw[(h7 k O).1.nm];exact qL 114 k
 have hxnm:∀q∈qx,JF q.nm:=λq G=>by
  obtain⟨⟨k,_,k2⟩,_⟩:=hK q G;rw[k2];exact qL 101 k
 have hevn:∀e∈ev,JF e.nm:=λe S=>Qka _ e (by rw[ki];exact S);have hevl:ev.length=5:=by rw[<-ki];exact VZ _ _
 refine Qh ⟨[.agg #[ve,vc,vr,vx,vk]],⟨Yl hB217,Z⟩,hs017,⟨ev,co.map IV.it,rq.map IV.it,qx.map XV.x,ks.map KV.k⟩,⟨⟨ve,vc,vr,vx,vk,ev,co,rq,qx,ks⟩,U,U,λL hL=>?_⟩,?_⟩
 ·have kw:∀b∈L,b<w2.heap.size:=λb E=>ov (hL b E)
  have hLn:b2∉L:=λhm=>ov (hL b2 hm)
  have kh:∀b∈b2::L,b<w6.heap.size:=λb E=>by
   rcases Lj.1 E with rfl|E
   ·omega
   have:=hL b E;omega
  refine⟨⟨QB hE17 (by show ev.length<=_;omega) (λb E hbL=>oy (hge3 b E).1 (kw b hbL)),hevn⟩,hC17.itms oa hcon (λb E=>ov (kh b (Lk _ E))),hR17.itms oa hrqn (λb E=>ov (kh b (Lk _ E))),⟨QB pc.own (by show qx.length<=_;omega) (λb E hbL=>oy (Qg pc.own b E).1 (kh b (Lk _ hbL))),λq G=>?_,hxnm⟩,?_⟩
  ·exact pc.each q G _ (Lb.2 U) L (λb E=>.inl (ov (kh b (Lk _ E))))
  exact((m7 (b2::L) kh).st (hz.Y od)).up (λb E=>.inl (Lk _ E))
 rw[<-ki];exact Qpy oa oa hT gp oa h7 kq hX hK hj hgk
structure jU (base:Nat)(w:O1)(vc va:O2)(co:List IV)(al:List Kq):Prop where
 c:w.ownsRow base 98 5 vc co.length (co.flatMap QJ)
 a:w.ownsRow base 169 5 va al.length (al.flatMap Zs)
 dj:Dj vc va
 each:∀q∈co,∀t∈Qg9 q,YO base (ob vc++ob va) ↑w t.1 t.2.1 t.2.2.1 t.2.2.2
section
variable {base:Nat}{vc vc' va':O2}{co:List IV}{al:List Kq}
theorem jU.nil:jU base w (nS) (nS) [] []:=⟨QE _ _ _ _,QE _ _ _ _,Dj.nil _,λq E=>by cases E⟩
theorem jU.I (h:jU base w vc va co al)(E:sX w w'):jU base w' vc va co al:=⟨Ql h.c E,Ql h.a E,h.dj,λq G t H=>(h.each q G t H).I E⟩
theorem jU.low {X:LN}(h:jU base w vc va co al)(E:O5 X w w')(G:∀b∈X,b<base):jU base w' vc va co al :=
 ⟨Qe h.c E (λb H I=>oy (Qg h.c b H).1 (G b I)),Qe h.a E (λb H I=>oy (Qg h.a b H).1 (G b I)),h.dj,λq J t O=>(h.each q J t O).low E G⟩
theorem jU.avlt (h:jU base w vc va co al):∀b∈ob vc++ob va,b<w.heap.size:=λb E=>(Lc.1 E).elim (Q8 h.c b) (Q8 h.a b)
theorem jU.setC {q:IV}(h:jU base w vc va co al)(V:∀t∈Qg9 q,YO base (ob vc++ob va) ↑w t.1 t.2.1 t.2.2.1 t.2.2.2)(Y:w'.ownsRow base 98 5 vc' (co.length+1) (co.flatMap QJ++QJ q))
  (G:O5 (ob vc) w w') (H:∀b∈ob vc',b∈ob vc\/↑w<=b):jU base w' vc' va (co++[q]) al:=by
 have I:O5 (ob vc++ob va) w w':=G.Y (λb E=>Lc.2 (.inl E));have J:∀b∈ob vc'++ob va,b∈ob vc++ob va\/↑w<=b:=λb E=>by
  rcases Lc.1 E with E|E
  ·exact(H b E).imp (λh=>Lc.2 (.inl h)) id
  exact .inl (Lc.2 (.inr E))
 refine⟨?_,Qe h.a G (λb E ha=>h.dj b ha E),λb E O=>?_,λd hd t S=>?_⟩
 ·rw[Ll,LA];simpa using Y
 ·rcases H b E with T|T
  ·exact h.dj b T O
  have:=Q8 h.a b O;omega
 rcases Lc.1 hd with hd|hd
 ·exact(h.each d hd t S).app I J
 simp only[oJ]at hd;subst hd;exact(V t S).app I J
theorem jU.setA {G:List Kq}(h:jU base w vc va co al)(S:w'.ownsRow base 169 5 va' G.length (G.flatMap Zs))(I:O5 (ob va) w w')(J:∀b∈ob va',b∈ob va\/↑w<=b):jU base w' vc va' co G:=by
 have T:O5 (ob vc++ob va) w w':=I.Y (λb E=>Lc.2 (.inr E));have V:∀b∈ob vc++ob va',b∈ob vc++ob va\/↑w<=b:=λb E=>by
  rcases Lc.1 E with E|E
  ·exact .inl (Lc.2 (.inl E))
  exact(J b E).imp (λh=>Lc.2 (.inr h)) id
 refine⟨Qe h.c I (λb E H=>h.dj b E H),S,λb E H=>?_,λd hd t Y=>(h.each d hd t Y).app T V⟩;rcases J b H with O|O
 ·exact h.dj b E O
 have:=Q8 h.c b E;omega
theorem jU.itms (h:jU base w vc va co al)(I:co.length<=1099511627776)(J:∀q∈co,JF q.nm)(G:∀b∈L,b<base):X4 L ↑w vc co :=
 ⟨QB h.c I (λb E hbL=>oy (Qg h.c b E).1 (G b hbL)),λq H=>⟨h.each q H (q.p.va,q.p.a.al.length,1,q.p.a.al.map (.int .i64)) od L (λb E=>.inl (G b E)),h.each q H (q.p.vm,q.p.a.mr.length,1,q.p.a.mr.map (.int .i64)) od L (λb E=>.inl (G b E)),h.each q H (q.p.ve,q.p.a.ed.length,3,q.p.a.ed.flatMap QA) od L (λb E=>.inl (G b E))⟩,J⟩
end
def mzA (s f:Int):Q6:=⟨[s,f],2,[0],[(0,s,1),(1,f,0)]⟩
theorem QeP (nm:ByteArray)(s f:Int)(w:O1):QY sV 189 [.string nm,sS s,sS f] w λr w'=>sX w w'/\∃xa xm xe,r=.agg #[.string nm,xa,sS 2,xm,xe]/\Zb [xa,xm,xe]/\∀L:LN,(∀b∈L,b<↑w)->ZM L ↑w' xa xm xe (mzA s f):=by
 refine Zq func189 ?_;refine Qc<|QM [.string .empty,nS,sS 0,nS,nS] λb6 w1 hf hg T=>xe ?_;have hh:=T.lt;refine Qj<|Qa<|Qn<|Za [[sS s],[sS f]] λE w2 V ht hi=>Qn<|Za [[sS 0]] λG w3 J hu hj =>
  Qa<|x (Qx ⟨U,U,U,Z⟩)<|Qa<|x (Qx ⟨U,U,U,Z⟩)<|Qn<|Za [QA (0,s,1),QA (1,f,0)] λH Y O hv hk=>?_
 have ha:=(V.D J).D O;have hl:=hf.D ha;have hw:=V.size;have hy:=J.size;have hF:JK ↑w1 ↑Y (.agg #[sL E 2 2,sS 2,sL G 1 1,sL H 2 2]) (mzA s f):=
  Qa7 (a:=mzA s f) ((hi.I J).I O) (hj.I O) hk oa oa oa U U U ol ol ol
 refine x (Qx ⟨U,U,U,U,Z⟩)<|QM K5 λb7 w5 hm hn ho=>QK [sL E 2 2,sS 2,sL G 1 1,sL H 2 2] ho oD λw6 hp hq=>xe ?_;have S:sX Y w6:=hm.O hp hn;refine Qj<|QT hq U U<|x (Q5 [(0,[.string nm]),(1,[sL E 2 2,sS 2,sL G 1 1,sL H 2 2])] ⟨U,U,U,U,Z⟩) <|
  QK [.string nm,sL E 2 2,sS 2,sL G 1 1,sL H 2 2] ((T.I ha).I S) ⟨U,U,U,U,U,Z⟩ λw7 hc hr=>xe ?_
 obtain⟨xa,xm,hz,hs,hA⟩:=hF;have he:=OV (λv=>match v with|Value.agg cs=>cs.toList|_=>[]) hs
 simp only[List.cons.injEq,and_true]at he;obtain⟨rfl,_,rfl,rfl⟩:=he;refine Qh ⟨[.agg #[.string nm,sL E 2 2,sS 2,sL G 1 1,sL H 2 2]],⟨Yl hr,Z⟩,(hl.D S).O hc hg,_,_,_,U,oC,λL hL=>?_⟩;have h1:=(hA (b6::L) (λb I=>by
  rcases Lj.1 I with rfl|I
  ·exact hh
  have:=hL b I;omega)).I S
 exact(h1.st (hc.Y od)).up (λb I=>.inl (Lk _ I))
def nmZ (p:Array UInt8)(i:Nat):ByteArray:=⟨p⟩++⟨#[UInt8.ofNat (97+i)]⟩
abbrev QiT:Array UInt8:=#[115,116,97,114,116]
abbrev Qfd:Array UInt8:=#[102,105,110,105,115,104]
abbrev JX:Array UInt8:=#[109,97,99,104,105,110,101]
def QcH (i:Nat):List Kq:=[⟨nmZ QiT i,true,true,false,0⟩,⟨nmZ Qfd i,false,true,false,0⟩]
def mzE (c:Nat):List Kq:=(oV c).flatMap QcH
def Qqy (i:Nat):XD:=⟨nmZ JX i,mzA (2*(i:Int)) (2*(i:Int)+1)⟩
def mzC (c:Nat):ZF:=⟨mzE c,(oV c).map Qqy,[],[],[]⟩
theorem qJ (p:Array UInt8)(i:Nat)(h:p.size<=10):JF (nmZ p i):=by
 show(ByteArray.mk _++ByteArray.mk _).size<=_;rw[ByteArray.size_append];show p.size+1<=_;omega
theorem QoT (c:Nat):∀e∈mzE c,JF e.nm:=λe E=>by
 unfold mzE at E;obtain⟨i,_,hi⟩:=Me.1 E;simp only[QcH,oL,oK,or_false]at hi;rcases hi with rfl|rfl
 ·exact qJ _ _ ol
 exact qJ _ _ ol
theorem QcI (c:Nat):mzE (c+1)=mzE c++QcH c:=by unfold mzE;rw[NC,LA];simp
theorem Qfo:∀c,(mzE c).length=2*c
 | 0=>rfl
 | c+1=>by rw[QcI,Ll,Qfo c];show 2*c+2=_;omega
theorem QgY (i:Nat):∀u∈(QcH i).flatMap Zs,u.oneCell'=true:=λu E=>by
 obtain⟨e,_,G⟩:=Me.1 E;exact Qc0 e u G
theorem Kp (c:Nat)(hU:c<=4)(w:O1):QY sV 118 [sS c] w λr w'=>sX w w'/\QeV ↑w ↑w' r (mzC c):=by
 refine Zq func118 ?_;refine Qc<|QM Z8 λb2 w1 hD hV ht=>xe ?_;refine Qc<|QM Z8 λJ O hv hW hw=>xe ?_;have hX:=ht.lt;have hj:=hw.lt;refine Qd<|Qj<|Qa<|xe<|Q7 (α:=Nat×O2×List Kq×O2×List IV) [(4,4),(6,42)] (λz=>[(6,sS z.1)])
  (λz w'=>z.1<=c/\O5 [J] O w'/\QZ ↑w' J 45 [z.2.1,z.2.2.2.1,ZE,ZE,ZE]/\jU ↑O w' z.2.2.2.1 z.2.1 z.2.2.2.2 z.2.2.1/\z.2.2.1=mzE z.1/\z.2.2.2.2.map IV.it=(oV z.1).map Qqy/\∀q∈z.2.2.2.2,JF q.nm)
  (λz=>c - z.1) (0,ZE,[],ZE,[]) La ⟨Lo _,O5.Z _ _,hw,jU.nil,U,U,λq E=>by cases E⟩ ?_
 rintro⟨i,ve,ev,vc,co⟩ g3 w3 ⟨hi,ha,hf,H,S,T,hk⟩;simp only[]at hi hf H S T hk;have hY:=ha.size;have hZ:ev.length=2*i:=by rw[S];exact Qfo i
 have ga:co.length=i:=by have:=OV oQ T;simpa using this
 refine Zo rfl U (λh7=>?_) (λh7=>?_)
 ·refine Qw ?_;have hE:i=c:=by have h8:¬(i:Int)<(c:Int):=h7;omega
  rw[hE]at S T;have hF:b2∉[J]:=oh
  have hl:=(ht.I hv).J ha hF;refine Qc<|QT hf U U<|QK [ve,vc,ZE,ZE,ZE] hl ⟨Qp H.a,Qp H.c,U,U,U,Z⟩ λw4 I hG=>xe ?_;have hH:∀b∈[b2],b<O.heap.size:=λb G=>by rw[Lb.1 G];omega
  have hm:=H.low I hH;refine Qh ⟨[.agg #[ve,vc,ZE,ZE,ZE]],⟨Yl hG,Z⟩,((hD.D hv).O ha oa).O I oa,⟨ve,vc,ZE,ZE,ZE,ev,co,[],[],[]⟩,U,?_,λL hL=>?_⟩
  ·show(⟨ev,co.map IV.it,[],[],[]⟩:ZF)=mzC c;rw[S,T];rfl
  have hy:∀b∈L,b<O.heap.size:=λb G=>ov (hL b G)
  exact⟨⟨QB hm.a (by show ev.length<=_;omega) (λb G hbL=>oy (Qg hm.a b G).1 (hy b hbL)),λe he=>QoT c e (by rw[<-S];exact he)⟩,hm.itms oa hk hy,⟨Zn.nil _ _ 5,λq E=>(by cases E),λq E=>(by cases E)⟩,⟨Zn.nil _ _ 2,λq E=>(by cases E),λq E=>(by cases E)⟩,⟨Zn.nil _ _ 3,λq E=>(by cases E),λq E=>(by cases E)⟩⟩
 have hI:i<c:=by have h8:(i:Int)<(c:Int):=h7;omega
 have hu:(97:Int)+(i:Int)=((97+i:Nat):Int):=oa
 refine Qf<|Qd<|Qm<|Qj<|Qb<|Qc<|Qo U hf U U<|Qa<|QH U U<|x (Z6 (k':=.i32) U ⟨oa,oa⟩)<|x (qD (n:=97+i) (OV (Value.int .i32) hu) oa)<|x (YT (a:=⟨QiT⟩) (b:=⟨#[UInt8.ofNat (97+i)]⟩) U U (by show 5+1<=1000000000;omega))<|x (Qx ⟨U,U,U,Z⟩) <|
  Qa<|QH rfl U<|x (Z6 (k':=.i32) U ⟨oa,oa⟩)<|x (qD (n:=97+i) (OV (Value.int .i32) hu) oa)<|x (YT (a:=⟨Qfd⟩) (b:=⟨#[UInt8.ofNat (97+i)]⟩) U U (by show 6+1<=1000000000;omega))<|x (Qx ⟨U,U,Z⟩) <|
  Qn<|Za ((QcH i).map Zs) λgb w4 I gc hl=>?_
 have gg:=I.size;have hJ:J∉ob ve:=QP H.a hj;have hz:J∉ob vc:=QP H.c hj;have hK:=Qg H.c;refine Qn<|Q2 (m:=2) (news:=(QcH i).flatMap Zs) (L:=[]) (Ql H.a I) U U U (hl.at od) (QgY i) oa oa λhn w5 h0 ho hM=>?_;refine QQ rfl<|Qn<|Qu (j:=0) (u:=hn) ((hf.I I).J ho hJ) U U od (Qp h0) λV h1 h2=>xe ?_;have hN:jU ↑O w5 vc hn co (ev++QcH i):=(H.I I).setA (by rw[Ll,LA];exact h0) ho hM;have h3:∀b∈[J],b<O.heap.size:=λb G=>by rw[Lb.1 G];exact hj
 have h4:=hN.low h1 h3;have h5:O5 [J] O V:=((ha.D I.any).S ho (λb G=>.inr ((Qg H.a) b G).1)).Q h1;have gh:=h5.size;have hO:sX V { V with drawn:=V.drawn+1 }:=O5.C _ _
 refine Zz (ob vc) (YW 0 17 [12,13,14,16])<|p (QG U)<|pq (λ_ hc=>Qk (h2.J hc hz) U U)<|p Qv<|p (λ_=>XX U U ⟨oa,oa⟩)<|p (λ_=>Z6 (k':=.i32) U ⟨oa,oa⟩)<|p (λ_=>qD (n:=97+i) (OV (Value.int .i32) hu) oa) <|
  p (λ_=>YT (a:=⟨JX⟩) (b:=⟨#[UInt8.ofNat (97+i)]⟩) U U (by show 7+1<=1000000000;omega))<|p Qv<|p (λ_=>QiK U U ⟨oa,oa⟩)<|p Qv<|p (λ_=>QiK U U ⟨oa,oa⟩)<|p (λ_=>XX U U ⟨oa,oa⟩) <|
  pk<|xg<|(QeP (nmZ JX i) (2*(i:Int)) (2*(i:Int)+1) _).Y ?_
 rintro r7 w7 ⟨hP,xa,xm,hg,rfl,hp,hA⟩;have hr:=hO.D hP;refine⟨hr.any,?_⟩;refine pk<|Za [QJ ⟨nmZ JX i,⟨xa,xm,hg,mzA (2*(i:Int)) (2*(i:Int)+1)⟩⟩] λgi w8 hs gj hQ=>⟨(hr.D hs).any,?_⟩;have Y:=hr.D hs;have h6:=h4.I Y;refine pk<|Q2 (news:=QJ ⟨nmZ JX i,⟨xa,xm,hg,mzA (2*(i:Int)) (2*(i:Int)+1)⟩⟩) (L:=[]) h6.c U U U (hQ.at od) (QbJ hp.1 hp.2.1 hp.2.2.1) oa (ov Y.size) λh9 w9 hB hh hR=>⟨(Y.any (L:=ob vc)).Q hh,?_⟩;have hS:=h6.setC (yX (q:=⟨nmZ JX i,⟨xa,xm,hg,mzA (2*(i:Int)) (2*(i:Int)+1)⟩⟩) (N:=↑V) (λL hL=>(hA L hL).I hs) oa h4.avlt) hB hh hR;refine p (QG U)<|pkk<|Qu (j:=1) (u:=h9) ((h2.I Y).J hh hz) U U od (Qp hB) λgk hC hT=>pe ?_;refine Qs<|QH U U<|Qa<|xe<|⟨(i+1,hn,ev++QcH i,h9,co++[⟨nmZ JX i,⟨xa,xm,hg,mzA (2*(i:Int)) (2*(i:Int)+1)⟩⟩]),og,La,hI,((h5.D Y.any).S hh (λb G=>.inr (hK b G).1)).Q hC,hT,hS.low hC h3,?_,?_,λq E=>?_⟩
 ·simp only[];rw[QcI,S]
 ·simp only[];rw[Lr,T,NC,Lr];rfl
 rcases Lc.1 E with E|E
 ·exact hk q E
 rw[Lb.1 E];exact qJ _ _ ol
section
variable {pS:String}
abbrev i4 (p:Int×Int×Int×Int):LV:=[sS p.1,sS p.2.1,sS p.2.2.1,sS p.2.2.2]
class S4 (P:O4)(t:Nat):Prop where
 u:∃f0 f1 f2 f3,P.underlying t=some (.struct #[f0,f1,f2,f3])/\f0.name ≠ "_" /\ f1.name ≠ "_" /\ f2.name ≠ "_" /\ f3.name ≠ "_" /\ f0.offset=0/\f1.offset=1/\f2.offset=2/\f3.offset=3 /\
  P.underlying f0.type=some (.int .i64)/\P.underlying f1.type=some (.int .i64)/\P.underlying f2.type=some (.int .i64)/\P.underlying f3.type=some (.int .i64)
 s:P.stoodInHeld t=false
 g:P.eqGuardType P.depth t=false
theorem Qbl [h:S4 P t](w:O1)(p:Int×Int×Int×Int):(Op.equal t (sT (i4 p)) (sT (i4 p))).run P w=.ok true w:=by
 obtain⟨a,b,c,e⟩:=p;obtain⟨f0,f1,f2,f3,O,S,n1,T,V,Y,o1,o2,o3,I,J,u2,u3⟩:=h.u;have G:∀e w,P.underlying e=some (.int .i64)->(isAgg e).run P w=.ok false w:=λe w E=>by simp[isAgg,run_underlying E]
 have hp:∀e (x y z u:Int) (w:O1),P.underlying e=some (.int .i64)->(part e #[sS x,sS y,sS z,sS u] 0).run P w=.ok (sS x) w:=λe x y z u w E=>by simp[part,G e w E]
 have ha:∀e (x y z u:Int) (w:O1),P.underlying e=some (.int .i64)->(part e #[sS x,sS y,sS z,sS u] 1).run P w=.ok (sS y) w:=λe x y z u w E=>by simp[part,G e w E]
 have hb:∀e (x y z u:Int) (w:O1),P.underlying e=some (.int .i64)->(part e #[sS x,sS y,sS z,sS u] 2).run P w=.ok (sS z) w:=λe x y z u w E=>by simp[part,G e w E]
 have hc:∀e (x y z u:Int) (w:O1),P.underlying e=some (.int .i64)->(part e #[sS x,sS y,sS z,sS u] 3).run P w=.ok (sS u) w:=λe x y z u w E=>by simp[part,G e w E]
 have H:∀e (m:Nat) (x y:Int) (w:O1),P.underlying e=some (.int .i64)->(Op.equalIn (m+1) e (sS x) (sS y)).run P w=.ok (x == y) w:=λe m x y w E=>by simp[Op.equalIn,run_underlying E]
 have key:∀m,(Op.equalIn (m+2) t (.agg (i4 (a,b,c,e)).toArray) (.agg (i4 (a,b,c,e)).toArray)).run P w=.ok true w:=by
  intro m;simp only[i4];unfold Op.equalIn;simp only[Sem.run_bind,run_underlying O,Result.andThen_ok];simp[h.s,S,n1,T,V,Y,o1,o2,o3,hp _ _ _ _ _ _ I,ha _ _ _ _ _ _ J,hb _ _ _ _ _ _ u2,hc _ _ _ _ _ _ u3,H _ _ _ _ _ I,H _ _ _ _ _ J,H _ _ _ _ _ u2,H _ _ _ _ _ u3]
 exact key 9998
theorem QiJ [h:S4 P t]{x:O3}{p:Int×Int×Int×Int}(hx:ev f x=sT (i4 p))(G:ev f y=sT (i4 p)):
  (execOp (ev f) ⟨d,.binOp .neq t x y E,ty,pS,af,gd⟩).run P w=.ok (.value (.bool false)) w:=by
 have H:(eqGuard .neq t x y (sT (i4 p)) (sT (i4 p))).run P w=.ok () w:=by simp[eqGuard,h.g]
 simp only[execOp,hx,G,Sem.run_bind,H,Result.andThen_ok,binOp,Qbl,Sem.run_pure];rfl
end
instance s4Rsn:S4 sV 171:=⟨⟨_,_,_,_,underlying171,ol,ol,ol,ol,U,U,U,U,underlying3,underlying3,underlying3,underlying3⟩,oe,oe⟩
theorem qR {v:O2}{l:List Rsn}(h:Zn L ↑w v l.length 4 (l.flatMap Z2))(G:Zn L' ↑w v' l.length 4 (l.flatMap Z2)):
  QY sV 120 [v,v'] w λr w'=>r=.bool true/\sX w w':=by
 have Y:=h.le;refine Zq func120 ?_;refine Qc<|Qb<|Qd<|Qj<|QF h U<|Qa<|QF G U<|Zx U U<|xe<|QO rfl (λJ=>OW U J) (λJ=>?_);refine Qf<|Qd<|Qj<|QF h U<|Qa<|xe<|Q7 (α:=Nat) [(4,5),(13,25)] (λk=>[(13,sS k)]) (λk w'=>sX w w'/\k<=l.length) (λk=>l.length - k) 0 La ⟨O5.Z _ _,Lo _⟩ ?_;rintro k g O ⟨H,hk⟩
 replace h:=h.I H
 replace G:=G.I H;refine Zo rfl U (λS=>?_) (λS=>?_)
 ·refine Qw<|Qc<|Qb<|Qh ⟨[.bool true],La,U,H⟩
 have E:k<l.length:=oa
 refine Qf<|Qd<|Qm<|Qj<|Qb<|Qd<|Zz [] (YW 0 9 [])<|p Qv<|p Qv<|Lg.pig (g:=Z2) (i:=k) U QiA h U U E λha T=>pq (λ_ I=>Qr (T.I I) U U) <|
  p Qv<|p Qv<|Lg.pig (g:=Z2) (i:=k) U QiA G U U E λhb V=>pq (λ_ I=>Qr (V.I I) U U)<|p (λ_=>QiJ (p:=((l[k]'E).st,(l[k]'E).kd,(l[k]'E).ix,(l[k]'E).ev)) U U)<|pe ?_
 refine ZO rfl<|Qf<|Qs<|QH U U<|Qa<|xe ?_;exact⟨k+1,oa,La,(H.D (O5.C [] O)),oa⟩
def UY:ByteArray:=⟨#[110,101,118,101,114]⟩
def Xe:ByteArray:=⟨#[98,111,116,104]⟩
def Qbv:ByteArray:=⟨#[109,111,115,116]⟩
def QbK:XD:=⟨UY,⟨[1],1,[0],[]⟩⟩
def Qj6 (i j:Int):qv:=⟨Xe,[(i,1),(j,1)]⟩
def QpA:xK:=⟨Qbv,[(0,1),(1,1)],1⟩
def k1C:ZF:={ mzC 1 with rq:=[QbK] }
def k2C:ZF:={ mzC 2 with ex:=[Qj6 0 1] }
def k3C:ZF:={ mzC 2 with cs:=[QpA] }
theorem QqK:Y3 k1C=0:=oe
theorem QqJ:(spc k1C).fb=[⟨1,3,0,1⟩]:=oe
theorem Qn1:(spc k1C).a.st=2:=oe
theorem Qo4:Qf4 k1C=true:=oe
theorem Qo5:cmB k1C=[2]:=oe
theorem QrS:Y3 k2C=0:=oe
theorem QqH:(spc k2C).fb=[⟨3,1,0,-1⟩]:=oe
theorem QqG:(spc k2C).a.st=4:=oe
theorem QrR:Y3 k3C=0:=oe
theorem QqF:(spc k3C).fb=[⟨3,2,0,-1⟩]:=oe
theorem Qgt {v:O2}(E:v.cells=#[v]):QY sV 262 [v] w λr w'=>sX w w'/\∃b,r=.func (.func 308) #[] #[sP b]/\↑w<=b/\QZ ↑w' b 63 [v]:=by
 refine Zq func262 ?_;refine Qc<|Qn<|yN (us:=[v]) E λb1 J G H I=>Qb<|Qc<|x ZD<|Qb<|Qh ⟨[_],La,G,b1,U,H,I⟩
theorem Qb9 {m:Nat}{v:O2}{es:LI}(hb:QZ ↑w b1 63 [v])(hE:QL L ↑w v es):
  SeqStopsK (fen none) m sV 308 #[sP b1] (λx:Int=>#[sS x]) (Lw ↑w L) (λys=>ys=es) (λ_=>True) (es.length+1) w:=by
 intro l J Jx W hc hJ hf hY h0;have S:sX w W:=O5.of_below hc;have hl:=hE.le;have ab:∀{ys:LI} {W1 W2:O1},J ys W1->sX W1 W2->J ys W2:=λ{ys W1 W2} hj I=>hJ ys W1 W2 none hj ⟨I.os,I.tape,I.output,I.size,λk O _=>I.block k O od⟩ (λr e=>by cases e);have key:QY sV 308 [.func (.yield l) #[] #[],sP b1] W (λ_ W'=>(∃ys,ys=es/\J ys W')\/(∃pre,True/\Jx pre W')):=by
  refine QY.of_G m func308 U ntmps308 results308 od ?_;refine Zk<|QI om om<|Xn (hb.I S) U U<|QF (hE.I S) U<|Qa<|xe<|Yf<|ze (α:=Nat) [(4,4),(7,15)] (λk=>[(7,sS k)]) (λk ds W'=>ds=[]/\k<=es.length/\O5 L w W'/\J (es.take k) W') (λk=>es.length - k) om 0 La
   ⟨U,Lo _,S.any,h0⟩ ?_
  rintro k g ds w1 ⟨rfl,O,ha,T⟩;refine Zk<|QI om om<|Z5 U U<|xe<|Zk<|Qa5 U (λV=>?_) (λV=>?_)
  ·refine VS ?_;have hg:es.length<=k:=by have Y:¬(k:Int)<(es.length:Int):=V;omega
   rw[Lu hg]at T;exact⟨λ_ h=>(by cases h),MN,[],λW' E=>⟨Z,.inl ⟨es,rfl,ab T E⟩⟩⟩
  refine YV ?_;have G:k<es.length:=by have Y:(k:Int)<(es.length:Int):=V;omega
  have hh:es.take (k+1)=es.take k++[es[k]'G]:=Ln G;have hm:(es.take k).length=k:=by rw[LB];omega
  refine Zk<|Yf<|Zk<|QI om om<|xii (i:=k) (hE.st ha) U U G λa9 Y=>x (Qy Y U)<|Qb<|Zk<|V9 om ?_;refine J9.pre2 ?_;refine Qa<|Qa<|xe<|xy (l:=l) U (hY (es.take k) (es[k]'G) w1 T oa) λen W3 hi=>Or.elim hi (λH=>⟨.bool true,H.1,?_⟩) (λH=>⟨.bool false,H.1,?_⟩)
  ·refine J9.of_XL<|x (Zy U)<|xe<|Ua U<|YV ?_;refine QI om om<|QH U U<|Qa<|xe ?_;exact⟨k+1,oa,La,U,G,ha.lw H.2.2,by rw[hh];exact H.2.1⟩
  refine J9.of_XL<|x (Zy U)<|xe<|QbZ U ?_;refine VR ⟨λ_ h=>(by cases h),MN,[],λW' E=>⟨Z,.inr ⟨es.take k++[es[k]'G],Z,?_⟩⟩⟩;exact hf _ W3 W' none H.2 ⟨E.os,E.tape,E.output,E.size,λk O _=>E.block k O od⟩ (λr e=>by cases e)
 refine(callsIn_wide (n:=m)).2 ?_;have ea:(#[.func (.yield l) #[] #[]]++[sP b1].toArray:Array O2)=#[.func (.yield l) #[] #[],sP b1]:=od
 rw[ea];unfold QY at key;refine Calls.mono key λe w' he=>?_;cases e with
 | returned v=>exact⟨⟨v,U⟩,he⟩
 | panicked c=>exact he.elim
 | outgrown=>exact he.elim
theorem QhJ {v:O2}{es:LI}(hh:QZ ↑w b1 63 [v])(hE:QL [] ↑w v es)(hl:es.length<=1000):
  QY sV 336 [ZE,.func (.func 308) #[] #[sP b1]] w λr w'=>sX w w'/\Qq 3 ↑w w' r es:=by
 refine QY.of_G 20 func336 U ntmps336 results336 od ?_;refine Zk<|QI om om<|Zl [ZE] λb2 w1 S ha hc=>Qb ?_;have ho:=S.size;have hp:=hc.lt;refine Zk<|Zk<|QI om om<|Qa<|xe<|Yf<|QnJ (α:=Int) [b2] oa (capt:=[sP b1]) U (enc:=λx=>sS x) ol
  (Qb9 (hh.I S) ((hE.up (L':=[b2]) (λb E=>.inr (by rw[Lb.1 E];exact ha))).I S))
  (λpre W=>∃vo,O5 [b2] w1 W/\QZ ↑W b2 63 [vo]/\Qq 3 ↑w1 W vo pre)
  (λpre=>YI.ex λvo=>(YI.J (Lx _)).and (YI.blk.and YI.row))
  ⟨ZE,O5.Z _ _,hc,QE _ _ _ _⟩
  (λf x T W=>T=upd (upd f 7 (sS x)) 5 (sS x)) (λx T=>YI.pure _) ?_ ?_ ?_
 ·rintro l pre e W ⟨vo,J,I,G⟩;refine QI om om<|Qb<|⟨U,Vg.refl _ _ _,⟨vo,J,I,G⟩,U⟩
 ·rintro l pre e T W ⟨vo,J,I,G⟩ rfl hN;have he:b2∉ob vo:=QP G oa;have hge:=Qg G;have hi:=J.size;refine Yf<|QI om om<|Xn I U U<|Qa<|Qn<|Za [[sS e]] λhq w2 H hr hj=>?_;refine Qn<|Q2 (m:=1) (news:=[sS e]) (Ql G H) U U U (hj.at (L:=[]) od) oq oa (ov H.size) λv3 w3 V O hs=>?_;refine Qn<|Qu (u:=v3) ((I.I H).J O he) U U od (Qp V) λw4 Y hk=>xe ?_;have ht:=H.size;refine⟨((Vg.I H hi).D (Vg.J O oa (λb E=>⟨.inr (hge b E).1,Go.Lg.QV (Ql G H) b E⟩))).D (Vg.blk Y (ov O.size) ((I.I H).J O he) (.inl Lq)),v3,((J.D H.any).S O (λb E=>.inr (hge b E).1)).Q Y,hk,?_⟩;exact Qq.snoc (Qe V Y (λb E=>by have:=(Qg V b E).1;simp only[oJ];omega))
 rintro D xs W hD rfl ⟨vo,J,I,G⟩ hf;refine Zk<|QI om om<|Xn I U U<|Qb<|VR ⟨λD' hn=>by rw[Lb.1 hn];exact hf,NM _ _,[vo],λW' hg=>⟨La,(S.O J ha).S hg (λb E=>.inr (by rw[Lb.1 E];omega)),?_⟩⟩;refine ZB (Qe G hg (λb E hm=>?_)) oa;rw[Lb.1 hm]at E;obtain⟨o,h1,h2⟩:=Go.Lg.QV G _ E;rw[hf]at h1;cases h1
 cases h2
theorem Qez {v:O2}{es:LI}(E:QZ ↑w b1 63 [v])(hE:QL [] ↑w v es)(G:es.length<=1000):
  QY sV 307 [.func (.func 308) #[] #[sP b1]] w λr w'=>sX w w'/\Qq 3 ↑w w' r es:=by
 refine Zq func307 ?_;refine Qc<|Qb<|Qj<|Qz<|(QhJ E hE G).Y ?_;rintro v1 J ⟨H,I⟩;refine Qb<|Qh ⟨[v1],La,H,I⟩
theorem Qgy {v:O2}{es:LI}(G:QZ ↑w b1 63 [v])(hE:QL [] ↑w v es)(H:es.length<=1000):
  QY sV 261 [.func (.func 308) #[] #[sP b1]] w λr w'=>sX w w'/\Qq 3 ↑w w' r (es.mergeSort λx y=>decide (x<=y)):=by
 refine Zq func261 ?_;refine Qc<|Qb<|Qj<|Qz<|(Qez G hE H).Y ?_;rintro v1 T ⟨I,E⟩;refine Qb<|Qj<|Qz<|(j9 E oa).Y ?_;rintro r2 V ⟨J,O⟩;refine xe<|Qj<|Qb<|Qh ⟨[v1],La,I.S J (λb S=>.inr (Qg E b S).1),O⟩
theorem QjM:∀{l:LI}{k:Nat}(h:k<l.length) {n:Int},l[k]'h=n->n∉l.take k->l.idxOf n=k
 | [],_,h,_,_,_=>by simp at h
 | a::l,0,_,n,e,_=>by
  have e2:a=n:=e;rw[e2,List.idxOf_cons_self]
 | a::l,k+1,h,n,e,E=>by
  have G:a≠n:=λe2=>E (by rw[MK,e2];exact Lq);rw[List.idxOf_cons,show(a == n)=false by simpa using G];show List.idxOf n l+1=k+1;have:=QjM (l:=l) (k:=k) (oA h) (oA e) (λH=>E (by rw[List.take_succ_cons];exact Lk _ H));omega
theorem Qpe {v:O2}(h:QL L ↑w v l){n:Int}(I:n∈l):
  QY sV 67 [v,sS n] w λr w'=>w'=w/\r=sS (l.idxOf n:Nat):=by
 have S:=h.le;refine Zq func67 ?_;refine Qc<|Qb<|Qd<|Qj<|QF h U<|Qa<|xe<|Q7 (α:=Nat) [(4,5),(8,18)] (λk=>[(8,sS k)]) (λk w'=>w'=w/\k<=l.length/\n∉l.take k) (λk=>l.length - k) 0 La ⟨U,Lo _,od⟩ ?_;rintro k g T ⟨rfl,V,E⟩;refine Zo rfl U (λJ=>?_) (λJ=>?_)
 ·exfalso;rw[Lu oa]at E;exact E I
 have G:k<l.length:=oa
 refine Qf<|Qd<|Qm<|Qj<|Qb<|Qj<|Qa<|Qa<|xii h U U G λY O=>x (Qy O U)<|x (QR U U)<|xe<|QO rfl (λH=>?_) (λH=>?_)
 ·refine Qj<|Qb<|Qh ⟨[sS k],La,U,OV (λm:Nat=>sS m) (QjM G (Eq.symm H) E).symm⟩
 refine Qf<|Qs<|QH U U<|Qa<|xe<|⟨k+1,oa,La,U,oa,?_⟩;rw[Ln G,Lc,Lb];exact λh=>h.elim E H
def rlE (a:Q6)(to:LI):List Ed:=a.ed.map λe=>(e.1,O6 to (a.al.idxOf e.2.1),e.2.2)
theorem QeM {to sa:LI}{se:List Ed}(h:ZM [] ↑w va vm ve a)(gv:JB a=0)(ho:ZK a)(ht:QL [] ↑w vt to)(hA:to.length=a.al.length)(hJ:∀e∈to,0<=e/\e<32)(gw:to.Nodup)
  (hK:to.mergeSort (λx y=>decide (x<=y))=sa) (gx:∀l',l'.Perm (rlE a to)->l'.Pairwise Qc6->l'=se) (gy:ZK ⟨sa,a.st,a.mr,se⟩):
  QY sV 196 [.agg #[va,sS a.st,vm,ve],vt] w λr w'=>sX w w'/\∃v,r=.tuple #[v,sS 0]/\JK ↑w ↑w' v (Yk ⟨sa,a.st,a.mr,se⟩):=by
 have k7:=ho.st0;have k8:=ho.st1;have k9:=ho.al_le;refine Zq func196 ?_;refine Qc<|Zl [va,sS a.st,vm,ve] λb2 w1 hM ma gz=>QM K5 λb4 w2 hN mf hO=>Qb ?_;have hP:=hM.D hN;have mg:=hM.size;have mh:=hO.lt;have hQ:=gz.I hN;refine Qd<|Qc<|QT hQ U U<|Qz<|(Js (h.I hP)).Y ?_;rintro r3 w3 ⟨hR,hu⟩;rw[gv]at hR;subst hR;have hC:=hP.D hu;have mj:=hu.size;have hf:=hQ.I hu;refine Qb<|Qj<|Zx U U<|xe<|ZO rfl<|Qf ?_;have hw:=h.I hC;have V:=ht.I hC;refine Qd<|Qj<|QF V U<|Qo U hf U U<|QF hw.al U<|Zx U U<|xe<|QO rfl (λhS=>OW (OV (λm:Nat=>(m:Int)) hA) hS) (λhS=>?_);refine Qf<|QX (α:=Unit) [(5,5),(7,8),(25,47)] (λ_=>[]) (λ_ w'=>w'=w3) om ?_ ?_
 ·refine Qj<|QF V U<|Qa<|xe<|Q7 (α:=Nat) [(5,5),(7,8),(27,47)] (λk=>[(27,sS k)]) (λk w'=>w'=w3/\k<=to.length) (λk=>to.length - k) 0 La ⟨U,Lo _⟩ ?_;rintro k g w' ⟨rfl,hk⟩;refine Zo U U (λhT=>?_) (λhT=>?_)
  ·refine Qw ?_;exact⟨(),Z,U⟩
  have I:k<to.length:=by have mo:(k:Int)<(to.length:Int):=hT;omega
  have g0:=hJ _ (Lm I);have hU:(to[k]'I)∉to.take k:=λhm=>by
   obtain⟨j,hj,hV⟩:=LO hm;rw[Nh]at hV;have g2:j<k:=by rw[LB]at hj;omega
   have:=(MT.1 gw) j k oa I g2;exact this hV
  refine Zf (to[k]'I) λe T=>?_;rw[T]at g0 hU;refine Qf<|Qd<|Qm<|Qj<|xii V U U I λmq hW=>?_;rw[T]at hW;refine x (Qy hW U)<|x Qi<|Qb<|Qm<|Qj<|xb (YX U U) (λhX=>OW (show e<0 from hX) oa) (λhX=>?_);refine Qa<|Qa<|x (YC U U)<|QC U<|Qb<|QO U (λhY=>OW (show e≥32 from hY) oa) (λhY=>?_);refine Qj<|Qa<|Qoi V U U oa λg3 g4=>?_;have g5:QL [] ↑w' g3 (to.take k):=by
   unfold QL;have g6:(to.take k).length=k:=by rw[LB];omega
   rw[g6,NX];simpa using g4
  refine Qa<|Qz<|(Yr g5 e).Y ?_;rintro ms w' ⟨rfl,rfl⟩;refine Qb<|QO U (λhZ=>OW hZ hU) (λhZ=>?_);refine Qf<|Qs<|QH U U<|Qa<|xe ?_;exact⟨k+1,oa,La,U,I⟩
 rintro⟨⟩ g w' rfl;have g7:sX w' { w' with drawn:=w'.drawn+1 }:=O5.C _ _
 refine QX (α:=Nat×O2) [(9,9),(48,55)] (λz=>[(9,.pointer (some ⟨z.1,0,none⟩))]) (λz H=>sX w' H/\↑w'<=z.1/\QZ ↑H z.1 66 [z.2,sS a.st,vm,nS]/\z.2.oneCell'=true/\∀L:LN,(∀b∈L,b<↑w'\/b=z.1)->QL L ↑H z.2 sa) om ?_ ?_
 ·refine Jh (α:=O2) (sX w') [oE 0,oE 3,oE 4,oE 5,oE 6] [oF 1,oF 2,oE 7] 8 9 [oF 9] [] [(48,55)] [(49,50),(55,55)] (λz=>[(55,.agg #[z,sS a.st,vm,nS])])
   (λz own H=>(∀b∈own,↑w'<=b)/\z.oneCell'=true/\∀L:LN,(∀b∈L,b∉own)->QL L ↑H z sa)
   (λv H=>∃b,v=sP b/\↑w'<=b/\QZ ↑H b 66 K5) mixed om oe om U g7 od ?_ ?_ ?_ ?_
  ·rintro v own wa wb ⟨b,rfl,E,hB⟩ hs hn;exact⟨b,U,E,hB.J hs (hn b ou)⟩
  ·rintro z own wa wb ⟨h1,Y,h3⟩ hs;exact⟨h1,Y,λL hL=>(h3 L hL).I hs⟩
  ·rintro z g own wz v ⟨i1,i2,i3⟩ g8 ⟨G,rfl,hg,hz⟩ g9;have ga:=(g9 G ou).1;refine pkk<|JY [z,sS a.st,vm,nS] hz ⟨i2,U,hw.mr.one,U,Z⟩ λH ha ka=>pe ?_;refine⟨(G,z),La,g8.O ha hg,hg,ka,i2,λL hL=>?_⟩;have h1:=i3 (G::L) (λb E=>by
    rcases Lj.1 E with rfl|E
    ·exact ga
    rcases hL b E with Y|Y
    ·exact λh3=>ov (i1 b h3)
    subst Y;exact ga)
   exact(h1.st (ha.Y od)).up (λb E=>.inl (by simp[E]))
  refine Go.Lg.p Qv<|Go.Lg.p (QG U)<|pq (λ_ hc=>Qk (hf.I hc) U U)<|Go.Lg.p (QG U)<|pq (λ_ hc=>Qk (hf.I hc) U U) <|
   pe ⟨λg wf kb=>flA K5 kb,?_⟩
  refine f2k λx1 p1 c1=>xg<|(Qgt V.cells).Y ?_;rintro mt y1 ⟨gb,mu,rfl,mv,hD⟩;refine⟨c1.D gb,Ut ↑x1 ↑y1,gb.any,λb E=>.inr (Zw.1 E),?_⟩;refine f2k λx2 p2 c2=>xg<|(Qgy (hD.I p2) (V.I c2) oa).Y ?_;rintro kc y2 ⟨gc,hh⟩;rw[hK]at hh;refine⟨c2.D gc,Ut ↑x1 ↑y1++Ut ↑x2 ↑y2,gc.any,λb E=>(Lc.1 E).imp id λE=>Zw.1 E,?_⟩;refine Ul (λ_=>Qx ⟨xL hh,U,hw.mr.cells,Z⟩)<|f2e ?_;refine⟨kc,La,λb E=>?_,Qp hh,λL hL=>?_⟩
  ·have e1:=c1.size;have e2:=c2.size;rcases Lc.1 E with E|E
   ·have:=Zw.1 E;omega
   have:=Zw.1 E;omega
  exact QB hh (by rw[<-hK,(NK to _).length_eq];omega) (λb E hm=>hL b hm (Lc.2 (.inr (Zw.2 (Qg hh b E)))))
 rintro⟨G,vs⟩ g H ⟨ha,hg,hz,hvo,ke⟩;have gg:=hz.lt;have gh:=hf.I ha;have gi:∀b∈[G],b∈([]:LN)\/↑w'<=b:=λb E=>.inr (by rw[Lb.1 E];exact hg);have hi:ZM [G] ↑H va vm ve a:=(hw.up gi).I ha;have kf:QL [G] ↑H vt to:=(V.up gi).I ha;have mw:=hi.ed.le;have kg:b2∉[G]:=by have:=hf.lt;simp only[oJ];omega
 have my:b4∉[G]:=oh
 have kh:(rlE a to).length=a.ed.length:=by unfold rlE;rw[Lh]
 have ki:∀e∈rlE a to,(0<=e.1/\e.1<1099511627776)/\0<=e.2.1/\e.2.1<1099511627776:=λe T=>by
  unfold rlE at T;obtain⟨d,hd,rfl⟩:=LD.1 T;have h1:=ho.ed d hd;have Y:a.al.idxOf d.2.1<to.length:=by rw[hA];exact MJ h1.2.2.1
  have h3:=hJ _ (Lm Y);have h4:=ZL Y;simp only[];omega
 refine QX (α:=O2) [(11,11),(56,78)] (λ_=>[]) (λz J=>O5 [G] H J/\QZ ↑J G 66 [vs,sS a.st,vm,z]/\J.ownsRow ↑H 159 3 z (rlE a to).length ((rlE a to).flatMap QA)) om ?_ ?_
 ·refine Qc<|Qo U gh U U<|QF hi.ed U<|Qa<|xe<|Q7 (α:=Nat×O2) [(11,11),(59,78)] (λz=>[(59,sS z.1)]) (λz J=>z.1<=a.ed.length/\O5 [G] H J/\QZ ↑J G 66 [vs,sS a.st,vm,z.2]/\J.ownsRow ↑H 159 3 z.2 z.1 (((rlE a to).take z.1).flatMap QA)) (λz=>a.ed.length - z.1) (0,ZE) La ⟨Lo _,O5.Z _ _,hz,QE _ _ _ _⟩ ?_;rintro⟨k,vr⟩ g J ⟨hk,O,hl,S⟩;refine Zo U U (λhE=>?_) (λhE=>?_)
  ·refine Qw ?_;have kj:k=a.ed.length:=by have h0:¬(k:Int)<(a.ed.length:Int):=hE;omega
   rw[Lu oa,kj,<-kh]at S;exact⟨vr,Z,O,hl,S⟩
  have I:k<a.ed.length:=by have h0:(k:Int)<(a.ed.length:Int):=hE;omega
  have hG:=ho.ed _ (Lm I);have kk:(rlE a to)[k]'oa=((a.ed[k]'I).1,O6 to (a.al.idxOf (a.ed[k]'I).2.1),(a.ed[k]'I).2.2):=by unfold rlE;rw[Mr]
  have hq:(rlE a to).take (k+1)=(rlE a to).take k++[(rlE a to)[k]'oa]:=Ln oa;rw[kk]at hq;refine Zf (a.ed[k]'I) λe T=>?_;rw[T]at hG hq;have hix:a.al.idxOf e.2.1<to.length:=by rw[hA];exact MJ hG.2.2.1
  rw[<-ZL hix]at hq;refine Zf (to[a.al.idxOf e.2.1]'hix) λy hy=>?_;rw[hy]at hq;refine Qf<|Qd<|Qm<|Qc<|xie (i:=k) (hi.ed.st O) U U I λmz h0=>?_;rw[T]at h0;refine x (Qr h0 U U)<|QM [sS 0,sS 0,sS 0] λkn w7 hr gj ko=>QK (QA e) ko oC λw8 h5 gk=>xe ?_;have h6:sX J w8:=hr.O h5 gj;have kq:=O.size;refine Qj<|Qo U ((gh.J O kg).I h6) U U<|Qo U gk U U<|Qz<|(Qpe ((hi.al.st O).I h6) hG.2.2.1).Y ?_;rintro m2 w8 ⟨rfl,rfl⟩;refine xii ((kf.st O).I h6) U U hix λm3 gl=>?_;rw[hy]at gl;refine x (Qy gl U)<|QQ U<|Qn<|Qu (u:=sS y) gk U U (by simp[QA]) rfl λw9 h7 kr=>xe ?_;have kt:QZ ↑w9 kn 159 (QA (e.1,y,e.2.2)):=kr;have h8:sX J w9:=h6.O h7 gj;have gm:=hl.I h8;have n9v:G∉ob vr:=QP S gg;have m4:=h8.size;refine Qs<|Qo U gm U U<|QT kt U U<|Qn<|Za [QA (e.1,y,e.2.2)] λm5 m6 h9 m7 ku=>?_;refine Qn<|Q2 (m:=1) (news:=QA (e.1,y,e.2.2)) (L:=[]) (Ql (Ql S h8) h9) U U U (ku.at od) (by simp[QA,Value.oneCell']) oa (ov h9.size) λgn m8 hH go m9=>?_;refine QQ U<|Qn<|Qu (u:=gn) ((gm.I h9).J go n9v) U U od (Qp hH) λpa gp kv=>xe ?_;refine Qs<|QH U U<|Qa<|xe<|⟨(k+1,gn),og,La,I,(((O.D h8.any).D h9.any).S go (λb E=>.inr ((Qg S) b E).1)).Q gp,kv,?_⟩;simp only[];rw[hq,LA];simpa using(Qe hH gp (λb E=>by have:=(Qg hH b E).1;simp only[oJ];omega))
 rintro vr g J ⟨O,hl,S⟩;have n9r:G∉ob vr:=QP S gg;have kq:=O.size;have gq:=Qg S;refine Qc<|Qo U hl U U<|Qz<|(Qbf S oa ki).Y ?_;rintro r7 w7 ⟨hr,l',hp,kw,kx⟩;have kz:=gx l' hp kw;subst kz;refine xe ?_;have k0:∀b∈G::ob vr,b∈[G]\/↑H<=b:=λb E=>by
  rcases Lj.1 E with rfl|E
  ·exact .inl Lq
  exact .inr (gq b E).1
 have gr:∀{v:O2} {l:LI},QL [G] ↑H v l->QL [] ↑w7 v l:=λhv=>(((hv.up k0).st (O.Y od)).st (hr.Y (λb E=>Lk _ E))).up (λb E=>by cases E);have k4:zP [] ↑w7 vr l':=QB kx (ov hp.length_eq) od;have k5:ZM [] ↑w7 vs vm vr ⟨sa,a.st,a.mr,l'⟩:=⟨gr (ke [G] (λb E=>.inr (Lb.1 E))),gr hi.mr,k4⟩;have hI:sX w' w7:=(ha.O O hg).S hr (λb E=>.inr (ov (gq b E).1));have pc:=hI.size;refine Qc<|QT (hl.J hr n9r) U U<|Qz<|(JJ k5 gy).Y ?_;rintro v w8 ⟨h5,hF⟩;obtain⟨us,gs,gt,k6⟩:=J5 hF;refine Qn<|Zv (us:=us) (((hO.I hu).I hI).I h5) U gs gt U k6 λw9 h7 hD=>Qb ?_;have gu:=hC.D hI;refine Qh ⟨[sT us,sS 0],⟨⟨_,U,Yb gt (hD.at (L:=[]) od).cells⟩,rfl,Z⟩,(gu.D h5).O h7 oa,v,by rw[gs];rfl,?_⟩;exact(KW hF oa h7).Y (ov gu.size)
theorem Qow {motive:LI->Prop}(nil:motive [])(append_singleton:∀u v,motive u->motive (u++[v]))(u:LI):motive u:=by
 have key:∀r:LI,motive r.reverse:=by
  intro r;induction r with
  | nil=>exact nil
  | cons v r ih=>rw[List.reverse_cons];exact append_singleton _ _ ih
 have:=key u.reverse;rw[List.reverse_reverse]at this;exact this
def enc (u:LI):Int:=u.foldl (λn e=>n*33+(e+1)) 0
theorem VK (u:LI)(v:Int):enc (u++[v])=enc u*33+(v+1):=by unfold enc;rw[MF];rfl
def QhN (u:LI):Prop:=∀e∈u,0<=e/\e<32
theorem QhN.snoc {v:Int}(h:QhN (u++[v])):QhN u/\0<=v/\v<32:=⟨λe E=>h e (Mf _ E),h v od⟩
theorem Qpn (h:QhN u):0<=enc u:=by
 induction u using Qow with
 | nil=>exact NQ _
 | append_singleton u v ih=>rw[VK];have:=ih h.snoc.1;have:=h.snoc.2;omega
def rn (a:Q6)(x:Int)(u:LI):Int:=u.foldl (λs v=>xh a.ed s v) x
theorem Ql4 (a:Q6)(x:Int)(u:LI)(v:Int):rn a x (u++[v])=xh a.ed (rn a x u) v:=by unfold rn;rw[MF];rfl
def x0 (a:Q6):Int:=if 0<a.st then 0 else -1
structure Fw where
 u:LI
 s:Int
def zl:Fw:=⟨[],0⟩
def wdN (e:Fw)(d:Ed):Fw:=⟨e.u++[d.2.1],d.2.2⟩
def wdR (a:Q6)(e:Fw):List Fw:=(Z7 a.ed e.s).map (wdN e)
def wdL (a:Q6)(most:Nat):Nat->Nat->List Fw->Option (List Fw)
 | 0,_,L=>some L
 | f+1,i,L=>if i<L.length then(if(L.getD i zl).u.length=most then some L else if 1024<(L++wdR a (L.getD i zl)).length then none else wdL a most f (i+1) (L++wdR a (L.getD i zl)))else some L
def wds (a:Q6)(most:Nat):Option (List Fw):=wdL a most 1025 0 [zl]
structure WdI (a:Q6)(most i:Nat)(L:List Fw):Prop where
 ne:0<L.length
 le:i<=L.length
 mx:L.length<=1024
 rx:∀e∈L,e.s=rn a 0 e.u/\0<=e.s/\e.s<a.st/\(∀v∈e.u,v∈a.al)/\e.u.length<=most
 so:L.Pairwise λp q=>enc p.u<enc q.u
 hd:(L.getD 0 zl).u=[]
 pr:∀e∈L,e.u=[]\/∃j v,j<i/\e.u=(L.getD j zl).u++[v]
 ch:∀j v,j<i->0<=xh a.ed (L.getD j zl).s v->∃e∈L,e.u=(L.getD j zl).u++[v]
theorem QjU {L:List Fw}(h:i<L.length):L.getD i zl∈L:=by simp[oR,h]
theorem QjV {L r:List Fw}(h:i<L.length):(L++r).getD i zl=L.getD i zl:=by simp[oR,List.getElem?_append_left h]
theorem WdI.J (O:ZK a){most:Nat}{L:List Fw}(h:WdI a most i L)(hi:i<L.length)(hl:(L.getD i zl).u.length≠most)(hm:¬1024<(L++wdR a (L.getD i zl)).length):WdI a most (i+1) (L++wdR a (L.getD i zl)):=by
 have T:QhN a.al:=O.al;have hc:∀e∈L,QhN e.u:=λe E u H=>T u ((h.rx e E).2.2.2.1 u H);have hb:=QjU hi;obtain⟨r1,r2,r3,r4,r5⟩:=h.rx _ hb;generalize V:L.getD i zl=ei at *;have Y:∀e∈wdR a ei,∃d∈Z7 a.ed ei.s,e=wdN ei d/\d.2.1∈a.al/\0<=d.2.2/\d.2.2<a.st/\xh a.ed ei.s d.2.1=d.2.2:=λe E=>by
  unfold wdR at E;obtain⟨d,hd,rfl⟩:=LD.1 E;obtain⟨hf,hs⟩:=ZV hd;have ha:=O.ed d hf;refine⟨d,hd,U,ha.2.2.1,ha.2.2.2.1,ha.2.2.2.2,?_⟩;rw[Qfk];obtain⟨k,hk,rfl⟩:=LO hd;refine Qea _ ei.s _ k hk (λe E=>(ZV E).2) U (λm hg e=>?_);have I:(Z7 a.ed ei.s).Pairwise λx y:Ed=>x.1<y.1\/(x.1=y.1/\x.2.1<y.2.1):=List.Pairwise.sublist M0 O.edi;have:=MT.1 I m k oa hk hg;have e1:=(ZV (Lm (l:=Z7 a.ed ei.s) (show m<(Z7 a.ed ei.s).length by omega))).2;have e2:=(ZV (Lm hk)).2;omega
 have ht:=Qpn (hc _ hb);have hh:∀e∈L,∀v,v∈a.al->enc e.u<enc (ei.u++[v]):=λe E v hv=>by
  have hw:=T v hv;rw[VK];rcases h.pr e E with G|⟨j,u,J,G⟩
  ·rw[G];show(0:Int)<_;omega
  rw[G,VK];have hz:enc (L.getD j zl).u<enc ei.u:=by
   have:=MT.1 h.so j i oa hi J;rw[<-V];simpa[oR,show j<L.length by omega,hi]using this
  have h0:u<32:=by
   have:=(h.rx e E).2.2.2.1 u (by rw[G];simp);exact(T u this).2
  omega
 have keepD:∀r:List Fw,∀j,j<L.length->(L++r).getD j zl=L.getD j zl:=λr j J=>QjV J;refine⟨by simp;have:=h.ne;omega,by simp;omega,oa,λe E=>?_,?_,by rw[keepD _ 0 h.ne];exact h.hd,λe E=>?_,λj v J S=>?_⟩
 ·rcases Lc.1 E with E|E
  ·exact h.rx e E
  obtain⟨d,_,rfl,G,h2,h3,h4⟩:=Y e E;refine⟨?_,h2,h3,λu H=>?_,?_⟩
  ·show d.2.2=rn a 0 (ei.u++[d.2.1]);rw[Ql4,<-r1,h4]
  ·rcases Lc.1 (show u∈ei.u++[d.2.1] from H)with H|H
   ·exact r4 u H
   simp only[oJ]at H;subst H;exact G
  show(ei.u++[d.2.1]).length<=most;rw[Ll,LE];omega
 ·rw[MH];refine⟨h.so,?_,λp I q hq=>?_⟩
  ·unfold wdR;rw[MQ];have I:(Z7 a.ed ei.s).Pairwise λx y:Ed=>x.1<y.1\/(x.1=y.1/\x.2.1<y.2.1):=List.Pairwise.sublist M0 O.edi;refine List.Pairwise.imp_of_mem (λ{x y} hx hy h5=>?_) I;have e1:=(ZV hx).2;have e2:=(ZV hy).2;show enc (ei.u++[x.2.1])<enc (ei.u++[y.2.1]);rw[VK,VK];omega
  obtain⟨d,_,rfl,G,_⟩:=Y q hq;exact hh p I _ G
 ·rcases Lc.1 E with E|E
  ·rcases h.pr e E with G|⟨j,u,J,G⟩
   ·exact .inl G
   exact .inr ⟨j,u,oa,by rw[keepD _ j oa];exact G⟩
  obtain⟨d,_,rfl,_⟩:=Y e E;exact .inr ⟨i,d.2.1,oa,by rw[keepD _ i hi,V];rfl⟩
 rw[keepD _ j oa]at S ⊢;by_cases e:j=i
 ·subst e;rw[V]at S ⊢;refine⟨wdN ei (ei.s,v,xh a.ed ei.s v),Nz _ ?_,U⟩;unfold wdR;exact LP (by unfold Z7;exact L6.2 ⟨(Qbu S),od⟩)
 obtain⟨e',hr,G⟩:=h.ch j v oa S;exact⟨e',Mf _ hr,G⟩
theorem Qqf (G:0<a.st)(most:Nat):WdI a most 0 [zl]:=by
 refine⟨od,OR _,od,λe E=>?_,od,by simp[oR,zl],λe E=>?_,λj v H=>oa⟩
 ·simp only[oJ]at E;subst E;exact⟨U,NQ _,G,by simp[zl],by simp[zl]⟩
 simp only[oJ]at E;subst E;exact .inl U
section
variable {pS:String}
theorem zw {base e:Nat}{bys:Nat}[h:Sl P t e sz bys z]{v:O2}(E:w.ownsRow base e sz v n cs)
  {a:Addr} {m c:Nat}  (I:news.length=m*sz) (T:∀j u,news[j]?=some u->w.cell? (a.add j)=some u) (h1:∀u∈news,u.oneCell'=true)
  (hb:n+m<=1099511627776) (hs:bys<=128) (he:base<=↑w):
  ∃v' w',(Builtin.append_ #[t,t] ty #[v,.slice (some a) m c]).run P w=.ok v' w'/\w'.ownsRow base e sz v' (n+m) (cs++news)/\O5 (ob v) w w'/\(∀b∈ob v',b∈ob v\/↑w<=b)/\w'.ownsRow base e sz v n cs:=by
 obtain⟨i,hi,Y,J,ha⟩:=Sl.info h;have hc:(n+m)*bys<=140737488355328:=LH (Nat.mul_le_mul hb hs) oa;have hf:n+m<=maxLen:=by simp only[maxLen];omega
 by_cases hg:∃g cap cur,v=sL g n cap/\w.heap[g]?=some (.cells cur e (0,0))/\n+m<=cap
 ·obtain⟨v',w',S,ho,ht,_⟩:=run_append_own (P:=P) w base t ty e i z sz bys h.u hi Y J ha h.zs h.pos v n cs E a m c news I T h1 hf hc he;have hu:O5 (ob v) w w':=by rw[yL];exact O5.of_grown ht
  refine⟨v',w',S,ho,hu,?_⟩;obtain⟨g,cap,cur,rfl,hh,O⟩:=hg;rcases E.2 with⟨h2,_⟩|⟨g2,cap2,hj,h2,h3,h4,h5,h6,h7,h8⟩
  ·cases h2
  cases h2
  have hv:n*i.size+news.length<=hj.size:=by rw[I,h7,J,<-Mu];exact L3 _ O
  rw[(run_append_room (P:=P) w t ty e i h.u hi g n cap hj h4 a m c news (by rw[J];exact I) T h1 O hv)]at S;cases S
  refine⟨λb H=>.inl H,E.1,?_⟩;have hB:=E.1;rcases ho.2 with⟨e1,_⟩|⟨g3,cap3,cur3,e1,k3,k4,k5,k6,k7,k8⟩
  ·cases e1
  cases e1
  refine .inr ⟨g,cap,cur3,U,k3,k4,h5,k6,k7,?_⟩;have:=OV (List.take (n*sz)) k8;rw[M6,Mk (L3 _ (Nat.le_add_right n m)),M1 oa,Lu (l:=cs) oa]at this;exact this
 have new:∀(old:Nat),old<n+m->∀G,G=(Obj.cells (cs.toArray++news.toArray++Builtin.zeroCells z.cells (grownCap w (n+m) old e - (n+m))) e) ->
   (w.drew.alloc G).ownsRow base e sz (.slice (some ⟨↑w,0,none⟩) (n+m) (grownCap w (n+m) old e)) (n+m) (cs++news):=by
  intro old ho G hw;subst hw;have hge:=grownCap_ge w (n+m) old e;have hp:grownCap w (n+m) old e<=maxLen:=grownCap_le_maxLen w (n+m) old e hf;have hq:(cs++news).length=(n+m)*sz:=by rw[Ll,E.1,I,Mu]
  refine⟨hq,.inr ⟨↑w,_,_,U,he,Kx w.drew _,hge,hp,?_,?_⟩⟩
  ·simp only[Array.size_append,Od,size_zeroCells,h.zs,E.1,I,<-Oq];congr 1;omega
  simp only[Array.toList_append,o6];rw[<-LC,<-hq];exact List.take_left
 have stp:∀G,O5 (ob v) w (w.drew.alloc G):=λG=>⟨U,U,U,by rw[V3];exact NP _,λk hk _=>qY w.drew G k hk⟩;have hy:∀G,sX w (w.drew.alloc G):=λG=>⟨U,U,U,by rw[V3];exact NP _,λk hk _=>qY w.drew G k hk⟩;have fin:∀(b:Nat),b∈ob (.slice (some ⟨↑w,0,none⟩) (n+m) 0)->b∈ob v\/↑w<=b:=λb H=>by simp[ob]at H;omega
 rcases E.2 with⟨rfl,rfl⟩|⟨g,cap,cur,rfl,hC,hh,hD,hp,hE,hF⟩
 ·have hx:cs=[]:=Ls (oA E.1);subst hx;by_cases hm:m=0
  ·subst hm;have V:news=[]:=Ls (oA I);subst V;refine⟨nS,w,?_,QE _ _ _ _,O5.Z _ _,λb H=>by simp[ob]at H,QE _ _ _ _⟩;simp[Builtin.append_,run_underlying h.u,sizeOf,typeInfo,hi,Builtin.lenOf,Builtin.firstCells,loadCells,loadCellsFrom]
  have S:=run_append_nil (P:=P) w t ty e i z h.u hi Y a m c news (by rw[J];exact I) T oa oa (by rw[ha];have h0:=hc;simp only[oZ]at h0;omega);have V:=new 0 oa _ U;simp only[oZ,Om,Array.empty_append]at V ⊢;exact⟨_,_,S,V,stp _,λb H=>fin b H,QE _ _ _ _⟩
 have O:cap<n+m:=by
  rcases Ns cap (n+m)with h9|hge
  ·exact h9
  exact OW ⟨g,cap,cur,U,hh,hge⟩ hg
 have hA:∀j u,cs[j]?=some u->w.cell? ((⟨g,0,none⟩:Addr).add j)=some u:=E.cells (g:=g) U;exact⟨_,_,(run_append_grow (P:=P) w t ty e i z h.u hi Y ⟨g,0,none⟩ n cap cs (by rw[J];exact E.1) hA a m c news (by rw[J];exact I) T O oa (growslice_fits O (by rw[ha];exact hc))),new cap O _ U,stp _,λb H=>fin b H,Ql E (hy _)⟩
theorem Qi1 {e bys:Nat}[h:Sl P t e sz bys z]{s:O3}{base:Nat}{v:O2}(E:w.ownsRow base e sz v n cs)(G:ev f s=v)
  {a:Addr} {m c:Nat}  (H:ev f y=.slice (some a) m c) (I:news.length=m*sz)  (J:At L ↑w a news) (O:∀u∈news,u.oneCell'=true)
  (S:n+m<=1099511627776) (T:base<=↑w)
  (hK:∀v' w',w'.ownsRow base e sz v' (n+m) (cs++news)->O5 (ob v) w w'->(∀b∈ob v',b∈ob v\/↑w<=b)->w'.ownsRow base e sz v n cs->K (QN f d v') w') (V:bys<=128:=by decide):
  XO P ⟨d,.call ⟨.builtin .append,#[s,y],#[t,t]⟩,ty,pS,af,gd⟩ f w K:=by
 obtain⟨v',w',Y,h2,h3,h4,h5⟩:=zw (P:=P) (t:=t) (ty:=ty) E I J.cells O S V T (c:=c);have ha:(execOp (ev f) ⟨d,.call ⟨.builtin .append,#[s,y],#[t,t]⟩,ty,pS,af,gd⟩).run P w=.ok (.value v') w':=by
  simp[execOp,resolve,invoke,builtin,G,H,Y]
 exact xv ha (hK v' w' h2 h3 h4 h5)
end
section
variable {pS:String}{C:xz}{pl:xt}{i0:Nat}
theorem QrN {g:α->LV}{x:O3}{e bys:Nat}[Sl P t e sz bys z](G:QS ops i0=⟨d,.indexAddr t x y,ty,pS,af,gd⟩)(J:∀x,(g x).length=sz){es:List α}{v:O2}{H:O1}{k:IntKind}
  (h:∀w',C w'->Zn L ↑w' v es.length sz (es.flatMap g)) (O:C H) (S:ev f x=v) (T:ev f y=.int k i) (hi:i<es.length)
  (hK:∀a,(∀w',C w'->At L ↑w' a (g es[i]))->XP P ops C K pl (QN f d (.pointer (some a))) w) (V:Z9 ops f (QS ops i0)=true:=by rfl):
  XP P ops C K ((i0,true)::pl) f w:=by
 obtain⟨a,cap,E,_⟩:=Zn.at (h H O) hi;refine Lg.p (λw'=>by rw[G];exact Xv (S.D E) T oa oa) ?_ V;rw[G];refine hK _ λw' Y=>?_;obtain⟨a',cap',ha,I⟩:=Zn.at (h w' Y) hi;rw[ha]at E;cases E
 rw[Xw g sz J es i hi]at I;simpa using I
end
theorem Qq5 (b:Bool):b=true\/b=false:=by cases b;exact .inr U;exact .inl U
structure FV where
 v:O2
 f:Fw
abbrev Yp (p:FV):LV:=[p.v,sS p.f.s]
theorem QbL (p:FV):(Yp p).length=2:=rfl
structure WdM (wB:O1)(vL:O2)(es:List FV)(w:O1):Prop where
 st:sX wB w
 l:w.ownsRow ↑wB 411 2 vL es.length (es.flatMap Yp)
 each:∀p∈es,QL (ob vL) ↑w p.v p.f.u
theorem WdM.I {wB w w':O1}{vL:O2}{es:List FV}(h:WdM wB vL es w)(E:sX w w'):WdM wB vL es w':=⟨h.st.D E,Ql h.l E,λp G=>(h.each p G).I E⟩
theorem WdM.add {wB:O1}{vL vL':O2}{es:List FV}{p:FV}(h:WdM wB vL es w)(H:O5 (ob vL) w w')(J:w'.ownsRow ↑wB 411 2 vL' (es.length+1) (es.flatMap Yp++Yp p))(I:∀b∈ob vL',b∈ob vL\/↑w<=b)(O:QL (ob vL) ↑w p.v p.f.u):WdM wB vL' (es++[p]) w':=by
 refine⟨h.st.S H (λb G=>.inr (Qg h.l b G).1),by rw[Ll,LA];simpa using J,λq E=>?_⟩;rcases Lc.1 E with E|E
 ·exact(h.each q E).grow H (λb G=>G) I
 simp only[oJ]at E;subst E;exact O.grow H (λb G=>G) I
theorem QjP {es:List FV}(h:i<es.length):(es.map (·.f)).getD i zl=(es[i]'h).f:=by simp[oR,h]
theorem Qmc (E:ZK a)(s:Int):(Z7 a.ed s).length<=32:=by
 have G:(Z7 a.ed s).Pairwise λx y:Ed=>x.1<y.1\/(x.1=y.1/\x.2.1<y.2.1):=List.Pairwise.sublist M0 E.edi;have hi:Xa ((Z7 a.ed s).map λe=>e.2.1):=by
  unfold Xa;rw[MQ];refine List.Pairwise.imp_of_mem (λ{x y} hx H O=>?_) G;have e1:=(ZV hx).2;have e2:=(ZV H).2;omega
 have:=Je _ 0 32 hi (λv I=>by
  obtain⟨e,J,rfl⟩:=LD.1 I;exact E.al _ (E.ed e (ZV J).1).2.2.1)
 rw[Lh]at this;omega
def Qh6 (a:Q6)(most:Nat)(mk:Bool):Option (List (LI)):=if a.st=0 then some []else(wds a most).map λL=>(L.filter λf=>!mk || decide (f.s∈a.mr)).map (·.u)
def Qrc (o:Option (List (LI)))(r:O2)(H:xA):Prop:=(o=none/\r=.tuple #[ZE,sS 3])\/∃l v ps,o=some l/\r=.tuple #[v,sS 0]/\Ka [] H v ps/\ps.map (·.2)=l
theorem QhL (h:ZM [] ↑w va vm ve a)(mo:JB a=0)(ho:ZK a)(most:Nat)(q1:most<=4096)(mk:Bool):
  QY sV 195 [.agg #[va,sS a.st,vm,ve],sS most,.bool mk] w λr w'=>sX w w'/\Qrc (Qh6 a most mk) r ↑w':=by
 have q2:=ho.st0;have q3:=ho.st1;refine Zq func195 ?_;refine Qc<|Zl [va,sS a.st,vm,ve] λb3 w1 g2 q4 g3=>x Qi<|Qb<|Qd<|Qc<|QT g3 U U<|Qz<|(Js (h.I g2)).Y ?_;rintro r2 w2 ⟨g5,g7⟩;rw[mo]at g5;subst g5;have J:=g2.D g7;refine Qb<|Qj<|Zx U U<|xe<|ZO rfl<|Qf<|Qd<|Qj<|xb (YX U U) (λg8=>OW (show(most:Int)<0 from g8) oa) (λg8=>?_);refine Qa<|Qa<|x (Yc U U)<|QC U<|xe<|QO rfl (λg9=>OW (show(most:Int) > 4096 from g9) oa) (λg9=>?_);refine Qf ?_;have hO:=g3.I g7;refine Qd<|Qc<|Qo U hO U U<|x (QR U U)<|xe<|QO rfl (λhP=>?_) (λhP=>?_)
 ·refine Qc<|x Qi<|Qb<|Qh ⟨[ZE,sS 0],oB,J,.inr ⟨[],ZE,[],by unfold Qh6;rw[OU hP],rfl,⟨Zn.nil _ _ _,λp G=>by cases G⟩,rfl⟩⟩
 have mq:0<a.st:=by have q5:¬a.st=0:=hP;omega
 have hW:Qh6 a most mk=(wds a most).map λL=>(L.filter λf=>!mk || decide (f.s∈a.mr)).map (·.u):=by unfold Qh6;rw[OT oa]
 refine Zf (wds a most) λR hR=>?_;rw[hR]at hW;refine Qf<|Qc<|x (Qx Z)<|Qn<|Za [Yp ⟨nS,zl⟩] λka w3 ms mt mu=>Qb ?_;have mv:WdM w2 (sL ka 1 1) [⟨nS,zl⟩] w3:=by
  refine⟨ms,mu.own (n:=1) U oa mt,λp G=>?_⟩;simp only[oJ]at G;subst G;exact Zn.nil _ _ _
 have mw:∀e∈a.ed,0<=e.1/\e.1<=1099511627776:=λe he=>ov (ho.ed e he)
 refine QX (α:=O2×List FV) [(6,7),(9,10),(12,12),(32,77)] (λz=>[(9,z.1)]) (λz w'=>WdM w2 z.1 z.2 w'/\R=some (z.2.map (·.f))/\z.2.length<=1024) om ?_ ?_
 ·refine Qc<|Qb<|Q7 (α:=Nat×O2×List FV) [(6,7),(9,10),(12,12),(32,77)] (λz=>[(9,z.2.1),(10,sS z.1)])
   (λz w'=>z.1<=1025/\WdM w2 z.2.1 z.2.2 w'/\WdI a most z.1 (z.2.2.map (·.f))/\wdL a most (1025 - z.1) z.1 (z.2.2.map (·.f))=R) (λz=>1025 - z.1) (0,sL ka 1 1,[⟨nS,zl⟩]) oB
   ⟨Lo _,mv,Qqf mq most,hR⟩ ?_
  rintro⟨i,vL,es⟩ g4 w4 ⟨my,hg,h5,H⟩;simp only[]at my hg h5 H;have hQ:=h5.mx;have mz:=h5.le;rw[Lh]at hQ mz;have hw:Zn [] ↑w4 vL es.length 2 (es.flatMap Yp):=QB hg.l oa (λb _=>od);refine Qd<|Qj<|Qa<|QF hw U<|Z5 U U<|xe<|ZH U (λhS=>?_) (λhS=>?_)
  ·refine Qw ?_;have m2:¬i<(es.map (·.f)).length:=by rw[Lh];have m3:¬(i:Int)<(es.length:Int):=hS;omega
   refine⟨(vL,es),La,hg,?_,hQ⟩;rw[<-H];generalize 1025 - i=f;cases f with
   | zero=>rfl
   | succ f=>rw[wdL,OT m2]
  have hi:i<es.length:=by have m3:(i:Int)<(es.length:Int):=hS;omega
  rw[show 1025 - i=(1025 - (i+1))+1 by omega,wdL,OU (by rw[Lh];exact hi),QjP hi]at H;have kb:=hg.each _ (Lm hi);have hU:=h5.rx _ (LP (f:=λq:FV=>q.f) (Lm hi));have hV:=λhl hm=>h5.J ho (by rw[Lh];exact hi) hl hm;rw[QjP hi]at hV;refine Zf (es[i]'hi) λei hG=>?_;rw[hG]at H kb hU hV;have kc:=hg.st;refine Qf<|Qd<|Qm<|Qd<|Qj<|Qa<|xig (g:=Yp) (i:=i) QbL hw U U hi λq6 ke=>?_;rw[hG]at ke;refine x (Zd U)<|x (Qy (ke.fld 0 _ U) U)<|QF (kb.up (L':=[]) (λb E=>by cases E)) rfl<|Qa<|x (QR rfl rfl)<|xe<|QO U (λhX=>?_) (λhX=>?_)
  ·refine Qw ?_;have hH:ei.f.u.length=most:=by have m4:(ei.f.u.length:Int)=(most:Int):=hX;omega
   rw[OU hH]at H;exact⟨(vL,es),La,hg,H.symm,hQ⟩
  have hH:ei.f.u.length≠most:=by have m4:¬(ei.f.u.length:Int)=(most:Int):=hX;omega
  rw[OT hH]at H;have hY:=hV hH;refine Qf ?_;have m5:ZM (ob vL) ↑w4 va vm ve a:=((h.I J).up (L':=ob vL) (λb E=>.inr (Qg hg.l b E).1)).I kc;have m6:=Qmc ho ei.f.s;have hout:=Qbs (va:=va) (vm:=vm) (st:=a.st) (m5.ed.I (O5.C [] w4)) ho.eds mw ei.f.s hU.2.1 oa;refine Zf (Z7 a.ed ei.f.s) λos kf=>?_;rw[kf]at m6 hout;have m7:wdR a ei.f=os.map (wdN ei.f):=by unfold wdR;rw[kf]
  rw[m7]at H hY;refine Qd<|Qd<|Zz [] [oE 0,oE 1,oE 2,oE 3,oE 4,oE 5,oE 8,oF 6,oE 7]<|pq (λ_ O=>Zu ((hO.I kc).I O) U U)<|p Qv<|p Qv<|Lg.pig (g:=Yp) (i:=i) U QbL hw U U hi λj1 kg=>?_;rw[hG]at kg;refine p (λ_=>Zd U)<|pq (λ_ O=>Qy ((kg.fld 1 _ U).I O) U)<|p Qv<|pk<|xg<|hout.Y ?_;rintro ro w5 ⟨m8,kh⟩;have ki:=(O5.C [] w4).D m8;refine⟨ki,?_⟩;refine p (λ_=>Yo kh U)<|pe ?_;refine Zf (es.map (·.f)++os.map (wdN ei.f)) λL1 kj=>?_;rw[kj]at H hY;refine Q7 (α:=Nat×O2×List FV) [(9,9),(12,12),(54,74)] (λz=>[(9,z.2.1),(54,sS z.1)])
   (λz w'=>z.1<=os.length/\WdM w2 z.2.1 z.2.2 w'/\zP (ob z.2.1) ↑w' ro os/\z.2.2.length=es.length+z.1/\(∃h:i<z.2.2.length,z.2.2[i]'h=ei)/\z.2.2.map (·.f)++(os.drop z.1).map (wdN ei.f)=L1) (λz=>os.length - z.1) (0,vL,es) oB
   ⟨Lo _,(hg.I ki),kh,U,⟨hi,hG⟩,kj⟩ ?_
  rintro⟨k,vL2,fs⟩ g6 w6 ⟨hk,hn,hZ,m9,kk,hh⟩;simp only[]at hk hn hZ m9 kk hh;refine Zo U U (λga=>?_) (λga=>?_)
  ·refine Qw ?_;have gb:os.length<=k:=by have hI:¬(k:Int)<(os.length:Int):=ga;omega
   rw[Lt gb,Nr,LS]at hh;have pa:Zn [] ↑w6 vL2 fs.length 2 (fs.flatMap Yp):=QB hn.l oa (λb _=>od);have j2:L1.length=fs.length:=by rw[<-hh,Lh]
   refine Qj<|QF pa U<|x (Yc U U)<|xe<|QO U (λgc=>?_) (λgc=>?_)
   ·have hJ:1024<L1.length:=by have pc:(fs.length:Int) > 1024:=gc;omega
    rw[OU hJ]at H;refine Qc<|x Qi<|Qb<|Qh ⟨[ZE,sS 3],oB,J.D hn.st,.inl ⟨by rw[hW,<-H];rfl,U⟩⟩
   have hJ:¬1024<L1.length:=by have pc:¬(fs.length:Int) > 1024:=gc;omega
   rw[OT hJ,<-hh]at H;have kn:=hY hJ;rw[<-hh]at kn;refine Qf<|Qs<|Qa<|QH U U<|Qb<|⟨(i+1,vL2,fs),og,oB,og,hn,kn,H⟩
  have S:k<os.length:=by have hI:(k:Int)<(os.length:Int):=ga;omega
  rw[Zc S,LJ]at hh;refine Zf (os[k]'S) λd hd=>?_;rw[hd]at hh;refine Qf<|Exists.elim kk λgg gh=>?_;have ko:=hn.each _ (Lm gg);rw[gh]at ko;refine QX (α:=O2×O2) [(9,9),(12,12),(56,73)] (λz=>[(9,z.1)]) (λz w'=>WdM w2 z.1 (fs++[⟨z.2,wdN ei.f d⟩]) w'/\zP (ob z.1) ↑w' ro os) om ?_ ?_
  ·refine Qm<|Qc<|xie (i:=k) hZ U U S λj3 hI=>?_;rw[hd]at hI;refine x (Qr hI U U)<|QM [sS 0,sS 0,sS 0] λb12 w7 pd pf pg=>QK (QA d) pg oC λI ph kq=>xe ?_;have gi:sX w6 I:=pd.O ph pf;have h6:=hn.I gi;have kr:=hZ.I gi;have pj:=ko.I gi;have kt:=pj.up (L':=[]) (λb E=>by cases E);have h0:sX I { I with drawn:=I.drawn+1 }:=O5.C [] I
   have za:=h0.size;have ku:=hU.2.2.2.2;have V:∀w',sX I w'->O5 (ob vL2) I w'/\w'.ownsRow ↑w2 411 2 vL2 fs.length (fs.flatMap Yp):=λw' hs=>⟨hs.Y od,Ql h6.l hs⟩;have kv:b12∉ob vL2:=λE=>ov (Q8 hn.l b12 E)
   refine QnD (λw'=>O5 (ob vL2) I w'/\w'.ownsRow ↑w2 411 2 vL2 fs.length (fs.flatMap Yp)) (.f2 [oE 0,oE 1,oE 2,oE 3,oE 4,oE 5,oE 7,oE 8,oE 11,oE 12] 6 9 (.pl [oF 9,oF 10,oE 13,oF 14,oF 15,oE 16]) (.pl [oF 6,oF 10,oE 13,oF 14,oF 15,oE 16])) mixed om oe (V _ h0) ?_;refine u2<|p Qv<|p Qv<|p Qv<|QrN (g:=Yp) (i:=i) (L:=[]) U QbL (λw' O=>QB O.2 oa (λb _=>od)) (V _ h0) rfl rfl gg λzb kw=>?_;rw[gh]at kw;refine p (λ_=>Zd U)<|pq (λw' O=>Qy ((kw w' O).fld 0 _ U) U)<|p (QG U)<|pq (λ_ O=>Qk (kq.J O.1 kv) U U)<|p (QG U)<|pq (λ_ O=>Qk (kq.J O.1 kv) U U)<|pe ⟨?_,?_⟩
   ·refine ue<|xg<|(Z3 (kt.I h0)).Y ?_;rintro vk w9 ⟨h7,h8⟩;have h2:=h0.D h7;have pm:=h7.size;have pn:=Qg h8;refine⟨V _ h2,?_⟩;refine uP<|pk<|Za [[sS d.2.1]] λbl po hq hbl gj=>?_;have h9:=h2.D hq;have pp:=hq.size;refine⟨V _ h9,?_⟩;refine pk<|Q2 (news:=[sS d.2.1]) (L:=[]) (Ql h8 hq) U U U (gj.at od) oq oa oa λT gk gl gm pu=>?_;have hA:sX I gk:=h9.S gm (λb E=>.inr (ov (pn b E).1));have hr:=Qq.snoc (ZB gl (show ↑I<=_ by omega));refine⟨V _ hA,?_⟩;have gn:=(Qq.ints (L:=[]) hr (by simp;omega) od).one;have go:=(Qq.ints (L:=[]) hr (by simp;omega) od).cells;refine p (λ_=>Qx ⟨go,U,Z⟩)<|pk<|Za [Yp ⟨T,wdN ei.f d⟩] λbm gp J pw hB=>?_;have ha:=hA.D J;refine⟨V _ ha,?_⟩;have ht:=h6.I ha;have gq:=ht.st.size;refine pk<|Qi1 (news:=Yp ⟨T,wdN ei.f d⟩) (L:=[]) (m:=1) ht.l U U U (hB.at od) (by intro u hu;simp only[oL,oK,or_false]at hu;rcases hu with rfl|rfl;exact gn;rfl) oa gq λvz pz gr hv hC gs=>⟨⟨(ha.Y od).Q hv,gs⟩,p ZG<|pe ?_⟩
    have gt:QL (ob vL2) ↑gp T (wdN ei.f d).u:=Qq.ints (Ql hr J) (by show(ei.f.u++[d.2.1]).length<=_;rw[Ll,LE];omega) (λb E=>Q8 h6.l b E);exact⟨(vz,T),La,ht.add hv gr hC gt,(kr.I ha).grow hv (λb E=>E) hC⟩
   refine ue<|Za [[sS d.2.1]] λbl w9 h7 hbl gj=>?_;have h2:=h0.D h7;have pm:=h7.size;refine⟨V _ h2,?_⟩;refine uP<|pk<|xg<|(Z3 (kt.I h2)).Y ?_;rintro vk po ⟨hq,h8⟩;have h9:=h2.D hq;have pp:=hq.size;refine⟨V _ h9,?_⟩;refine pk<|Q2 (news:=[sS d.2.1]) (L:=[]) h8 U U U ((gj.I hq).at od) oq oa oa λT gk gl gm pu=>?_;have hA:sX I gk:=h9.S gm (λb E=>.inr (ov ((Qg h8) b E).1));have hr:=Qq.snoc (ZB gl (show ↑I<=_ by omega));refine⟨V _ hA,?_⟩;have gn:=(Qq.ints (L:=[]) hr (by simp;omega) od).one;have go:=(Qq.ints (L:=[]) hr (by simp;omega) od).cells;refine p (λ_=>Qx ⟨go,U,Z⟩)<|pk<|Za [Yp ⟨T,wdN ei.f d⟩] λbm gp J pw hB=>?_;have ha:=hA.D J;refine⟨V _ ha,?_⟩;have ht:=h6.I ha;have gq:=ht.st.size;refine pk<|Qi1 (news:=Yp ⟨T,wdN ei.f d⟩) (L:=[]) (m:=1) ht.l U U U (hB.at od) (by intro u hu;simp only[oL,oK,or_false]at hu;rcases hu with rfl|rfl;exact gn;rfl) oa gq λvz pz gr hv hC gs=>⟨⟨(ha.Y od).Q hv,gs⟩,p ZG<|pe ?_⟩
   have gt:QL (ob vL2) ↑gp T (wdN ei.f d).u:=Qq.ints (Ql hr J) (by show(ei.f.u++[d.2.1]).length<=_;rw[Ll,LE];omega) (λb E=>Q8 h6.l b E);exact⟨(vz,T),La,ht.add hv gr hC gt,(kr.I ha).grow hv (λb E=>E) hC⟩
  rintro⟨vz,T⟩ zv z1 ⟨kx,kz⟩;simp only[]at kx kz;refine Qs<|QH U U<|Qa<|xe ?_;exact⟨(k+1,vz,fs++[⟨T,wdN ei.f d⟩]),og,oB,S,kx,kz,by simp;omega,⟨by simp;omega,by simp only[];rw[MI gg];exact gh⟩,by simp only[];rw[Lr,LC];exact hh⟩
 rintro⟨vL,es⟩ z2 hD ⟨h3,k0,p0⟩;simp only[]at h3 k0 p0;rw[k0]at hW;have p1:=J.D h3.st;have hw:Zn [] ↑hD vL es.length 2 (es.flatMap Yp):=QB h3.l oa (λb _=>od);refine Qc<|Qb<|Qd<|Qj<|QF hw U<|Qa<|xe<|Q7 (α:=Nat×O2×List TV) [(13,13),(15,15),(80,100)] (λz=>[(13,z.2.1),(80,sS z.1)])
  (λz w'=>z.1<=es.length/\sX hD w'/\jP 63 ↑hD w' z.2.1 z.2.2/\z.2.2.map (·.2)=((es.take z.1).filter λp=>!mk || decide (p.f.s∈a.mr)).map (λp=>p.f.u)/\∀p∈z.2.2,QL (ob z.2.1) ↑w' p.1 p.2) (λz=>es.length - z.1) (0,nS,[]) oB
  ⟨Lo _,O5.Z _ _,QE _ _ _ _,U,λp G=>by cases G⟩ ?_
 rintro⟨k,vT,ps⟩ z3 k4 ⟨hk,hf,hT,hE,hK⟩;simp only[]at hk hf hT hE hK;have z4:ps.length<=k:=by
  have h1:=OV oQ hE;rw[Lh,Lh]at h1;rw[h1];refine LH (Mg _ _) ?_;rw[LB];omega
 refine Zo rfl U (λgu=>?_) (λgu=>?_)
 ·refine Qw ?_;have gb:es.length<=k:=by have hL:¬(k:Int)<(es.length:Int):=gu;omega
  refine Qj<|x Qi<|Qb<|Qh ⟨[vT,sS 0],oB,p1.D hf,.inr ⟨_,vT,ps,hW,U,⟨QB hT oa (λb _=>od),λp G=>(hK p G).up (λb E=>by cases E)⟩,?_⟩⟩;rw[hE,Lu gb];show _=((es.map (λp:FV=>p.f)).filter λf=>!mk || decide (f.s∈a.mr)).map (λx:Fw=>x.u);rw[List.filter_map,Mn];rfl
 have S:k<es.length:=by have hL:(k:Int)<(es.length:Int):=gu;omega
 have k5:=h3.each _ (Lm S);refine Zf (es[k]'S) λek gv=>?_;rw[gv]at k5;have k6:QL (ob vT) ↑k4 ek.v ek.f.u:=((k5.up (L':=[]) (λb E=>by cases E)).up (λb E=>.inr (Qg hT b E).1)).I hf;refine Qf<|Qd<|Qm<|Qc<|xig (g:=Yp) (i:=k) QbL (hw.I hf) U U S λz5 hL=>?_;rw[gv]at hL;refine x (Qr hL U U)<|QM [nS,sS 0] λb15 w22 p2 p3 p4=>QK (Yp ek) p4 ⟨k6.one,U,Z⟩ λhj p5 k7=>xe ?_;have Y:sX k4 hj:=p2.O p5 p3;have hB:=((hO.I h3.st).I hf).I Y;have p6:QL [] ↑hj vm a.mr:=(((h.I J).mr.I h3.st).I hf).I Y;have hF:(es.take (k+1)).filter (λp=>!mk || decide (p.f.s∈a.mr))=(es.take k).filter (λp=>!mk || decide (p.f.s∈a.mr))++(if(!mk || decide (ek.f.s∈a.mr))=true then[ek]else[]):=by
  rw[Ln S,L4,gv,Md,Nm]
 refine QX (α:=Bool) [(84,92)] (λz=>[(92,.bool z)]) (λz w'=>w'=hj/\z=(!mk || decide (ek.f.s∈a.mr))) om ?_ ?_
 ·refine Or.elim (Qq5 mk) (λgw=>?_) (λgw=>?_)
  ·subst gw;refine Qs<|Qa<|x (Zy U)<|Qa<|Qo U hB U U<|Qo U k7 U U<|Qz<|(Yr p6 ek.f.s).Y ?_;rintro r91 hj ⟨rfl,rfl⟩;refine QC U<|xe ?_;exact⟨_,La,U,U⟩
  subst gw;refine Qs<|Qa<|x (Zy U)<|Qa<|Zt<|Ys<|QC U<|xe ?_;exact⟨true,La,U,U⟩
 rintro z g23 hj ⟨rfl,hz⟩;rw[<-hz]at hF;refine QU rfl (λgx=>?_) (λgx=>?_)
 rotate_left
 ·rw[OT (by rw[gx];decide),LS]at hF;refine Qf<|Qs<|QH U U<|Qa<|xe ?_;exact⟨(k+1,vT,ps),og,oB,S,hf.D Y,Ql hT Y,by simp only[];rw[hF];exact hE,λp G=>(hK p G).I Y⟩
 rw[OU gx]at hF;have k8:=k6.I Y;have k9:=Ql hT Y;have ku:=k8.le;refine Qs<|Qa<|Qn<|XZ λb94 w24 hM ma p7=>QQ U<|x (Qk (k7.I hM) U U) <|
  Qn<|Qbt (base:=↑hj) (p7.own (n:=0) (sz:=1) U oa ma) U (k8.I hM) U (UX ek.f.u) oa (ov hM.size) λh4 gy p8 p9 hn25=>?_
 have qc:sX hj gy:=hM.O p9 ma;have qf:Qq 3 ↑hj gy h4 ek.f.u:=by simpa[tup]using p8
 have gz:QL (ob vT) ↑gy h4 ek.f.u:=Qq.ints qf ku (λb E=>Q8 k9 b E);refine Qn<|Xy (us:=[[h4]]) U U ol od ⟨gz.cells,rfl,Z⟩ λb98 w26 mf hb98 ql=>?_;have hN:=qc.D mf;have qm:=Ql k9 hN;refine Qn<|Q2 (news:=[h4]) (L:=[]) qm U U U (ql.at od) (λy hy=>by simp only[oJ]at hy;subst hy;exact gz.one) oa (oz hf.size Y.size hN.size) λmg mh qo g0 mj=>Qb ?_;have qr:sX hD mh:=((hf.D Y).D hN).S g0 (λb E=>.inr (Qg hT b E).1);have q0:jP 63 ↑hD mh mg (ps++[(h4,ek.f.u)]):=jP.snoc qo;refine Qs<|QH U U<|Qa<|xe<|⟨(k+1,mg,ps++[(h4,ek.f.u)]),og,oB,S,qr,q0,?_,λp G=>?_⟩
 ·simp only[];rw[Lr,hE,hF,Lr];rfl
 rcases Lc.1 G with G|G
 ·exact(((hK p G).I Y).I hN).grow g0 (λb E=>E) mj
 simp only[oJ]at G;subst G;exact(gz.I mf).grow g0 (λb E=>E) mj
theorem US {v:O2}{l':LI}(h:QL L ↑w v l)(E:QL L' ↑w v' l'):QY sV 198 [v,v'] w λr w'=>r=.bool (decide (l=l'))/\sX w w':=by
 have hg:=h.le;refine Zq func198 ?_;refine Qc<|Qb<|Qd<|Qj<|QF h U<|Qa<|QF E U<|Zx U U<|xe<|QO rfl (λV=>?_) (λV=>?_)
 ·refine Qc<|Qb<|Qh ⟨[.bool false],La,?_,O5.Z _ _⟩;have H:l≠l':=λe=>V (by rw[e]);simp[tup,H]
 refine Qf<|Qd<|Qc<|Qb<|Q7 (α:=Nat) [(4,5),(11,25)] (λk=>[(5,sS k)]) (λk w'=>sX w w'/\k<=l.length/\(l=l'↔l.drop k=l'.drop k)) (λk=>l.length - k) 0 La ⟨O5.Z _ _,Lo _,od⟩ ?_;rintro k g w1 ⟨G,hk,I⟩
 replace h:=h.I G
 replace E:=E.I G;refine Qd<|Qj<|Qa<|QF h U<|Z5 U U<|xe<|ZH rfl (λha=>?_) (λha=>?_)
 ·refine Qw<|Qc<|Qb<|Qh ⟨[.bool true],La,?_,G⟩;rw[Lt oa,Lt oa]at I;simp[tup,I]
 have J:k<l.length:=oa
 have O:k<l'.length:=oa
 refine Qf<|Qd<|Qm<|Qd<|Zz [] (YW 0 9 [])<|p Qv<|p Qv<|pii (i:=k) U h U U J λhh hb=>pq (λ_ S=>Qy (hb.I S) U)<|p Qv<|p Qv<|pii (i:=k) U E U U O λhi hf=>pq (λ_ S=>Qy (hf.I S) U)<|p (λ_=>XH U U)<|pe ?_;have Y:=G.D (O5.C [] w1);refine QO rfl (λT=>?_) (λT=>?_)
 ·refine Qc<|Qb<|Qh ⟨[.bool false],La,?_,Y⟩;have H:l≠l':=λe=>T (by simp[e]);simp[tup,H]
 refine Qf<|Qs<|Qa<|QH U U<|Qb<|⟨k+1,oa,La,Y,oa,?_⟩;have he:l[k]'J=l'[k]'O:=Lp.1 T;rw[I,Zc J,Zc O,he];exact⟨λh=>(List.cons.inj h).2,λh=>by rw[h]⟩
theorem Qk9 {ua um ue:O2}(h:ZM L ↑w va vm ve a)(h':ZM L' ↑w ua um ue a):QY sV 197 [.agg #[va,sS a.st,vm,ve],.agg #[ua,sS a.st,um,ue]] w λr w'=>r=.bool true/\sX w w':=by
 have hq:=h.ed.le;refine Zq func197 ?_;refine Qc<|Zl [va,sS a.st,vm,ve] λb2 w1 hl hr hm=>Zl [ua,sS a.st,um,ue] λb3 w2 hb hs I=>Qb ?_;have S:=hl.D hb;have J:=hm.I hb;have T:=h.I S;have V:=h'.I S;refine Qd<|QX (α:=Unit) [(6,35)] (λ_=>[(35,.bool false)]) (λ_ w'=>sX w2 w') om ?_ ?_
 ·refine Qs<|Qo U J U U<|Qo U I U U<|Qz<|(US T.al V.al).Y ?_;rintro r3 w3 ⟨he,E⟩;rw[OX rfl]at he;subst he;refine x (Zy U)<|Qa<|Qo U (J.I E) U U<|Qo U (I.I E) U U<|xb (XH U U) (λhf=>OW U hf) (λhf=>?_);refine QC U<|Qa<|Qo U (J.I E) U U<|Qo U (I.I E) U U<|Qz<|(US (T.mr.I E) (V.mr.I E)).Y ?_;rintro r4 w4 ⟨hg,G⟩;rw[OX rfl]at hg;subst hg;have O:=E.D G;refine x (Zy U)<|QC U<|Qa<|Qo U (J.I O) U U<|QF (T.ed.I O) U<|Qo U (I.I O) U U<|QF (V.ed.I O) U<|xb (XH U U) (λhh=>OW U hh) (λhh=>?_);refine QC U<|xe ?_;exact⟨(),La,O⟩
 rintro⟨⟩ g w3 E;have Y:=S.D E;refine ZO rfl<|Qf<|Qd<|Qc<|Qb<|Q7 (α:=Nat) [(4,5),(36,53)] (λk=>[(5,sS k)]) (λk w'=>sX w3 w'/\k<=a.ed.length) (λk=>a.ed.length - k) 0 La ⟨O5.Z _ _,Lo _⟩ ?_;rintro k g w4 ⟨G,hk⟩;have h4:=(h.I Y).ed.I G;have hi:=(J.I E).I G;refine Qd<|Qj<|Qo U hi U U<|QF h4 U<|Z5 U U<|xe<|ZH rfl (λhn=>?_) (λhn=>?_)
 ·refine Qw<|Qc<|Qb<|Qh ⟨[.bool true],La,U,Y.D G⟩
 have ha:k<a.ed.length:=oa
 refine Qf<|Qd<|Qm<|Qd<|Zz [] (YW 0 11 [])<|p (QG U)<|pq (λ_ H=>Qk (hi.I H) U U)<|p Qv<|pie (i:=k) U h4 U U ha λht ho=>pq (λ_ H=>Qr (ho.I H) U U)<|p (QG U)<|pq (λ_ H=>Qk (((I.I E).I G).I H) U U)<|p Qv <|
  pie (i:=k) U ((h'.I Y).ed.I G) U U ha λhu hp=>pq (λ_ H=>Qr (hp.I H) U U)<|p (λ_=>UV U U)<|pe ?_
 refine QO rfl (λhj=>OW U hj) (λhj=>?_);refine Qf<|Qs<|Qa<|QH U U<|Qb<|⟨k+1,oa,La,G.D (O5.C _ _),ha⟩
theorem Qbo {pS:String}[h:S3 P t]{x:O3}{p q:Ed}(hx:ev f x=sT (QA p))(G:ev f y=sT (QA q)):
  (execOp (ev f) ⟨d,.binOp .eql t x y E,ty,pS,af,gd⟩).run P w=.ok (.value (.bool (decide (p=q)))) w:=by
 have H:(eqGuard .eql t x y (sT (QA p)) (sT (QA q))).run P w=.ok () w:=by simp[eqGuard,h.g]
 simp only[execOp,hx,G,Sem.run_bind,H,Result.andThen_ok,binOp,UT,Sem.run_pure]
def ex3:Q6:=⟨[0,2],3,[2],[(0,0,2),(0,2,0),(2,2,0)]⟩
def cn3:Q6:=⟨[0,2],2,[1],[(0,0,1),(0,2,0),(1,2,0)]⟩
def se3:List Ed:=[(0,1,0),(0,3,1),(1,1,0)]
theorem Qj8:JB ex3=0:=oe
theorem Qm1:Yk ex3=cn3:=oe
theorem QbU:JB cn3=0:=oe
theorem Qnr:Ql1 cn3 0 [0,0]=0:=oe
theorem Qns:flw cn3 0 [0,0]=(1,1):=oe
theorem Qnq:Qh6 cn3 2 true=some [[0],[2,0]]:=oe
theorem Qoy:JB ⟨[1,3],2,[1],se3⟩=0:=oe
theorem Qox:(Yk ⟨[1,3],2,[1],se3⟩).ed=se3:=oe
theorem QpE:rlE cn3 [3,1]=[(0,3,1),(0,1,0),(1,1,0)]:=oe
theorem QrD:([3,1]:LI).mergeSort (λx y=>decide (x<=y))=[1,3]:=by
 refine List.Perm.eq_of_pairwise (le:=λx y:Int=>x<=y) (λa b _ _ E G=>oa) ?_ ol ((NK _ _).D (List.Perm.swap _ _ _));refine(List.pairwise_mergeSort (le:=λx y:Int=>decide (x<=y)) (λa b c E G=>by simp at *;omega) (λa b=>by simp;omega) [3,1]).imp λh=>oA h
theorem Qov (l':List Ed)(E:l'.Perm (rlE cn3 [3,1]))(O:l'.Pairwise Qc6):l'=se3:=by
 rw[QpE]at E;refine List.Perm.eq_of_pairwise (le:=Qc6) (λa b S G H I=>?_) O (by unfold se3 Qc6;decide) (E.D (List.Perm.swap _ _ _));have J:=E.mem_iff.1 S;simp only[oL,oK,or_false]at J;simp only[se3,oL,oK,or_false]at G;unfold Qc6 at H I;rcases J with rfl|rfl|rfl <;> rcases G with rfl|rfl|rfl <;> first|rfl|(exfalso;simp only[]at H I;omega)
theorem QcZ (w:O1):QY sV 193 [] w λr w'=>sX w w'/\JK ↑w ↑w' r ex3:=by
 refine Zq func193 ?_;refine Qc<|QM K5 λb0 V I Y J=>xe ?_;refine Qc<|Qn<|Za [[sS 0],[sS 2]] λb1 w2 O hf ha=>Qn<|Za [[sS 2]] λb2 w3 E hg hb =>
  x (Qx ⟨rfl,U,U,Z⟩)<|x (Qx ⟨U,U,U,Z⟩)<|x (Qx ⟨U,U,U,Z⟩)<|Qn<|Xy (us:=[QA (0,0,2),QA (0,2,0),QA (2,2,0)]) U U ol (by exact(by decide:3*3<=1000000)) ⟨U,U,U,U,U,U,Z⟩ λG w4 H hh hc=>?_
 have S:=(O.D E).D H;have hi:=O.size;have hj:=E.size;have hF:JK ↑V ↑w4 (.agg #[sL b1 2 2,sS 3,sL b2 1 1,sL G 3 3]) ex3 :=
  Qa7 (a:=ex3) ((ha.I E).I H) (hb.I H) hc oa oa oa U U U ol ol ol
 refine x (Qx ⟨U,U,U,U,Z⟩)<|QK [sL b1 2 2,sS 3,sL b2 1 1,sL G 3 3] (J.I S) oD λw5 T he=>xe ?_;refine Qh ⟨[.agg #[sL b1 2 2,sS 3,sL b2 1 1,sL G 3 3]],⟨Yl he,Z⟩,(I.D S).O T Y,?_⟩;exact(KW hF J.lt T).Y I.size
theorem Qg8 (w:O1):QY sV 121 [] w λr w'=>r=.bool true/\sX w w':=by
 refine Zq func121 ?_;refine Qc<|Qb<|Qc<|Qz<|(QcZ w).Y ?_;rintro r1 w1 ⟨hE,va,vm,ve,rfl,hF⟩;refine Qz<|(Qb1 (hF [] od)).Y ?_;rintro r2 w2 ⟨hG,v2,rfl,_,hH⟩;have hf:=hH Qj8;rw[Qm1]at hf;obtain⟨ca,cm,ce,rfl,hI⟩:=hf;have J:=hI [] od;refine Qa<|QW U U<|QW U U<|QM K5 λb1 w3 hJ hK hM=>QK [ca,sS 2,cm,ce] hM ⟨J.al.one,U,J.mr.one,J.ed.one,Z⟩ λw4 hN O=>Qb ?_;have hg:sX w2 w4:=hJ.O hN hK;have S:=J.I hg;refine Qc<|QT O U U<|Qn<|Za [[sS 0],[sS 0]] λg0 w5 hh g2 hO=>Qz<|(QpV (u:=[0,0]) (S.I hh) (hO.arr (L:=[]) od (n:=2) (cap:=2) (sz:=1) rfl oa (Lx _)) 0).Y ?_;rintro r6 w6 ⟨hP,hi⟩;rw[OT (by rw[Qnr];decide),Qns]at hi;subst hi;refine Qa<|QW U U<|QW U U<|QW U U<|x Qi<|x Qi<|Qb ?_;have V:=hh.D hP;refine Qc<|QT (O.I V) U U<|Qz<|(QhL (S.I V) QbU ((Z4 _).1 QbU) 2 ol true).Y ?_;rintro r7 w7 ⟨hQ,hj⟩;rw[Qnq]at hj;have hS:∃I G H,r7=.tuple #[I,sS 0]/\Ka [] ↑w7 I [G,H]/\G.2=[0]/\H.2=[2,0]:=by
  rcases hj with⟨h,_⟩|⟨l,I,ps,hl,h2,Y,E⟩
  ·cases h
  cases hl
  match ps,Y,E with
  | [G,H],Y,E =>
   simp only[oY,OL,List.cons.injEq,and_true]at E;exact⟨I,G,H,h2,Y,E.1,E.2⟩
  | [],_,E=>simp at E
  | [_],_,E=>simp at E
  | _::_::_::_,_,E=>simp at E
 obtain⟨I,G,H,rfl,hT,hU,hV⟩:=hS;refine Qa<|QW U U<|QW U U<|x Qi<|Qb ?_;have ha:=V.D hQ;refine Qc<|QT (O.I ha) U U<|Qn<|Za [[sS 3],[sS 1]] λg3 w8 hk g4 hW =>
  Qz<|(QeM (to:=[3,1]) ((S.I ha).I hk) QbU ((Z4 _).1 QbU) (hW.arr (L:=[]) od (n:=2) (cap:=2) (sz:=1) rfl oa (Lx _)) rfl ol ol QrD Qov ((Z4 _).1 Qoy)).Y ?_
 rintro r9 w9 ⟨hX,v9,rfl,hY⟩;obtain⟨ra,rm,re,rfl,hZ⟩:=hY;have hR:=hZ [] od;have ga:zP [] ↑w9 re se3:=by
  have h:=hR.ed;rw[show(Yk ⟨[1,3],cn3.st,cn3.mr,se3⟩).ed=se3 from Qox]at h;exact h
 refine Qa<|QW U U<|QW U U<|QM K5 λb8 g5 gb gc gg=>Qn<|Zv (us:=[ra,sS (Yk ⟨[1,3],cn3.st,cn3.mr,se3⟩).st,rm,re]) gg U U U U ⟨hR.al.one,U,hR.mr.one,hR.ed.one,Z⟩ λhm gh gi=>Qb ?_;have hn:sX w9 hm:=gb.O gh gc;have ho:=(hk.D hX).D hn;have hb:=ha.D ho;refine QX (α:=Unit) [(0,0),(33,98)] (λz=>[(0,.bool true)]) (λz w'=>sX hm w') om ?_ ?_
 ·refine Qs<|Qa<|xb (QR U U) (λhp=>?_) (λhp=>OW Qj8 hp);refine Qa<|QT (O.I hb) U U<|Qn<|Za [[sS 0],[sS 2]] λgj g6 gk g7 gl=>Qn<|Za [[sS 1]] λgm g8 hq g9 gn =>
   x (Qx ⟨U,U,U,Z⟩)<|x (Qx ⟨U,U,U,Z⟩)<|x (Qx ⟨U,U,U,Z⟩)<|Qn<|Xy (us:=[QA (0,0,1),QA (0,2,0),QA (1,2,0)]) U U ol (by exact(by decide:3*3<=1000000)) ⟨U,U,U,U,U,U,Z⟩ λgo gp hc ka gq=>?_
  have hr:=(gk.D hq).D hc;have hL:ZM [] ↑gp (sL gj 2 2) (sL gm 1 1) (sL go 3 3) cn3 :=
   ⟨((gl.I hq).I hc).arr (L:=[]) od (n:=2) (cap:=2) (sz:=1) rfl oa (Nat.le_refl _),(gn.I hc).arr (L:=[]) od (n:=1) (cap:=1) (sz:=1) rfl oa (Nat.le_refl _),gq.arr (L:=[]) od (n:=3) (cap:=3) (sz:=3) rfl oa (Lx _)⟩
  refine x (Qx ⟨U,U,U,U,Z⟩)<|Qz<|(Qk9 (a:=cn3) ((S.I hb).I hr) hL).Y ?_;rintro kb kc ⟨rfl,gr⟩;have hs:=hr.D gr;have T:=(hT.I ho).I hs;refine QC U<|Qa<|Qa<|xb (QR U U) (λht=>?_) (λht=>OW U ht);refine QC U<|Qa<|Qa<|xb (QR U U) (λhu=>?_) (λhu=>OW U hu);refine QC U<|Qa<|Qa<|xb (QR U U) (λhv=>?_) (λhv=>OW U hv);refine QC U<|Qa<|Qa<|xb (QR U U) (λhw=>?_) (λhw=>OW U hw);refine QC U<|Qa<|Qa<|QF T.arr U<|xb (QR U U) (λhy=>?_) (λhy=>OW U hy);refine QC U<|Qa<|Qa<|xig (g:=YS) (i:=0) Us T.arr U U od λke gs=>x (Qy gs rfl)<|Qn<|Za [[sS 0]] λkf kg hz kh gt =>
   Qz<|(US (l:=G.2) (l':=[0]) ((T.each G od).I hz) (gt.arr (L:=[]) od (n:=1) (cap:=1) (sz:=1) rfl oa (Lx _))).Y ?_
  rintro ki kj ⟨h0,gu⟩;rw[hU,OX rfl]at h0;subst h0;have h1:=hz.D gu;have h5:=T.I h1;refine QC U<|Qa<|Qa<|xig (g:=YS) (i:=1) Us h5.arr U U od λkk gv=>x (Qy gv rfl)<|Qn<|Za [[sS 2],[sS 0]] λkn ko h6 kq gw =>
   Qz<|(US (l:=H.2) (l':=[2,0]) ((h5.each H od).I h6) (gw.arr (L:=[]) od (n:=2) (cap:=2) (sz:=1) rfl oa (Lx _))).Y ?_
  rintro kr kt ⟨h7,gx⟩;rw[hV,OX rfl]at h7;subst h7;have he:=(hs.D h1).D (h6.D gx);have h8:=gi.I he;have h9:=(ga.I hn).I he;refine QC U<|Qa<|Qa<|xb (QR U U) (λhA=>?_) (λhA=>OW U hA);refine QC U<|Qa<|Qo U h8 U U<|QF h9 U<|xb (QR U U) (λhB=>?_) (λhB=>OW U hB);refine QC U<|Qa<|Qo U h8 U U<|xie (i:=1) h9 U U ol λku gy=>x (Qr gy U U)<|x (Qx ⟨U,U,U,Z⟩)<|xb (Qbo (p:=(0,3,1)) (q:=(0,3,1)) U U) (λhD=>?_) (λhD=>OW U hD);refine QC U<|Qb<|⟨(),La,he⟩
 rintro z g kv gz;exact Qh ⟨[.bool true],La,U,(((hE.D hG).D hg).D hb).D gz⟩
theorem QhP (w:O1):QY sV 61 [] w λr w'=>r=.bool true/\sX w w':=by
 refine Zq func61 ?_;refine Qc<|Qb<|Qc<|Qz<|(Qg8 w).Y ?_;rintro G H ⟨rfl,E⟩;refine Qb<|Qh ⟨[.bool true],La,U,E⟩
theorem CL.cel_rq {c:CL}{k:ZF}(h:c.V=k)(v:O2)(qs:List IV):(CL.mk c.ve c.vc v c.vx c.vk c.ev c.co qs c.ex c.cs).V={ k with rq:=qs.map IV.it }:=by rw[<-h];rfl
theorem CL.cel_ex {c:CL}{k:ZF}(h:c.V=k)(v:O2)(qs:List XV):(CL.mk c.ve c.vc c.vr v c.vk c.ev c.co c.rq qs c.cs).V={ k with ex:=qs.map XV.x }:=by rw[<-h];rfl
theorem CL.cel_cs {c:CL}{k:ZF}(h:c.V=k)(v:O2)(qs:List KV):(CL.mk c.ve c.vc c.vr c.vx v c.ev c.co c.rq c.ex qs).V={ k with cs:=qs.map KV.k }:=by rw[<-h];rfl
theorem QdY {c:CL}{k:ZF}(h:ZI [] ↑w c)(J:c.V=k)(G:Y3 k=0)(O:Kb w 4096):
  QY sV 53 [c.val] w λr w'=>sX w w'/\∃va vm ve v1 v2 v3 E,r=.tuple #[.agg #[va,sS (spc k).a.st,vm,ve,v1,v2,v3,E],sS 0]/\Zb [va,sS (spc k).a.st,vm,ve,v1,v2,v3,E]/\Zn [] ↑w' E (spc k).fb.length 4 ((spc k).fb.flatMap Z2):=by
 refine(jw h O).Y ?_;rintro r w' ⟨S,v,rfl,⟨us,T,_,H⟩,I⟩;rw[J]at I ⊢;obtain⟨va,vm,ve,v1,v2,v3,E,cos,rqs,rfl,_,_,V⟩:=I G;have Y:us=[va,sS (spc k).a.st,vm,ve,v1,v2,v3,E]:=by
  simpa using(OV (λv=>match v with|Value.agg cs=>cs.toList|_=>[]) T).symm
 rw[Y]at H;exact⟨S,va,vm,ve,v1,v2,v3,E,by rw[G],H,(V [] od).2.2.2.2⟩
theorem QpF {c:CL}{k:ZF}(h:ZI [] ↑w c)(E:c.V=k)(G:Y3 k=0)(H:(spc k).a.st<4096)(I:Qf4 k=true)(J:Kb w 4096):
  QY sV 119 [c.val] w λr w'=>sX w w'/\∃xa xm xe vb,r=.tuple #[.agg #[xa,sS ((spc k).a.st+1),xm,xe],vb,sS 0]/\Zb [xa,xm,xe]/\Qq 3 ↑w w' vb (cmB k):=by
 subst E;exact QdI h J G H I
abbrev QoQ:LV:=[nS,sS 0,nS,nS,nS,nS,nS,nS]
theorem Qrb {P:Prop}{a b:Int}(e:a=b)(h:¬a=b):P:=OW e h
theorem Qeh (ha:Kb w 4096):QY sV 60 [] w λr w'=>r=.bool true/\sX w w':=by
 refine Zq func60 ?_;refine Qc<|Qb<|Qc<|Qz<|(Kp 1 ol w).Y ?_;rintro r1 w1 ⟨hD,c1,rfl,gw,gx⟩;refine Qz<|(Kp 2 ol w1).Y ?_;rintro r2 w2 ⟨hw,c2,rfl,gy,gz⟩;refine Qz<|(Kp 2 ol w2).Y ?_;rintro r3 w3 ⟨hc,c3,rfl,g0,g2⟩;have hE:=((gx [] od).I hw).I hc;have hF:=(gz [] od).I hc;have hG:=g2 [] od;refine QM Z8 λb1 w4 g3 pw hH=>QM Z8 λb2 w5 hI pz hJ=>QM Z8 λE w6 hy p0 J=>?_;have p1:=hH.lt;have p2:=hJ.lt;have p3:=J.lt;refine QK c1.cells ((hH.I hI).I hy) hE.ones λw7 he g4=>QK c2.cells ((hJ.I hy).J he oh) hF.ones λw8 hf g5 =>
  QK c3.cells ((J.J he oh).J hf oh) hG.ones λw9 hg g6=>xe ?_
 have hh:sX w3 w9:=((((g3.D hI).D hy).O he oa).O hf oa).O hg oa;have J:∀b∈[b1,b2,E],↑w3<=b/\b<w6.heap.size:=λb H=>by
  simp only[oL,oK,or_false]at H;rcases H with rfl|rfl|rfl <;> omega
 have m1:∀b∈[b1],b∈[b1,b2,E]:=od
 have m2:∀b∈[b2],b∈[b1,b2,E]:=od
 have m3:∀b∈[E],b∈[b1,b2,E]:=od
 have p4:w6.heap.size<=w9.heap.size:=by have:=he.size;have:=hf.size;have:=hg.size;omega
 have nB:∀b,↑w9<=b->b∉[b1,b2,E]:=λb H hm=>ov (J b hm).2
 refine Qc<|Qn<|Za [[sS 1]] λhi p5 hK p6 g7=>Qn<|Za [[sS 0]] λhj p7 hz p8 g8=>x (Qx ⟨U,U,U,Z⟩) <|
  x (Q5 [(0,[.string UY]),(1,[sL hi 1 1,sS 1,sL hj 1 1,nS])] ⟨U,U,U,U,Z⟩) <|
  Qn<|Za [[.string UY,sL hi 1 1,sS 1,sL hj 1 1,nS]] λh0 g9 h1 p9 ka=>?_
 have hk:=(hK.D hz).D h1;refine QQ rfl<|Qn<|Qu (j:=2) (u:=sL h0 1 1) (((g4.J hf oh).J hg oh).I hk) U U od rfl λh2 hl kb=>xe ?_;have qc:=hK.size;have qf:=hz.size;have V:O5 [b1,b2,E] w9 h2:=hk.any.Q (hl.Y m1);have kc:ZI [b1,b2,E] ↑h2 (CL.mk c1.ve c1.vc (sL h0 1 1) c1.vx c1.vk c1.ev c1.co [⟨UY,⟨sL hi 1 1,sL hj 1 1,nS,QbK.a⟩⟩] c1.ex c1.cs):=by
  have G:=((hE.up (L':=[b1,b2,E]) (λb H=>.inr (J b H).1)).I hh).st V;refine⟨G.ev,G.co,X4.st (w:=g9) ⟨ka.arr (nB _ oa) (n:=1) (cap:=1) (sz:=5) U ol (Lx _),λq I=>?_,λq I=>?_⟩ (hl.Y m1),G.ex,G.cs⟩
  ·rw[Lb.1 I];exact⟨((g7.I hz).I h1).arr (nB _ oa) (n:=1) (cap:=1) (sz:=1) U ol (Lx _),(g8.I h1).arr (nB _ oa) (n:=1) (cap:=1) (sz:=1) U ol (Lx _),Zn.nil _ _ 3⟩
  rw[Lb.1 I];exact XI ol
 refine Qc<|x (Qx ⟨U,U,Z⟩)<|x (Qx ⟨U,U,Z⟩)<|Qn<|Za [QD (0,1),QD (1,1)] λh3 ql hL qm ke=>x (Qx ⟨U,U,Z⟩) <|
  Qn<|Za [[.string Xe,sL h3 2 2]] λh4 kf hM qo kg=>?_
 have hn:=hL.D hM;refine QQ rfl<|Qn<|Qu (j:=3) (u:=sL h4 1 1) (((g5.J hg oh).J (hk.any.Q hl) oh).I hn) U U od rfl λh5 ho kh=>xe ?_;have qr:=hL.size;have Y:O5 [b1,b2,E] h2 h5:=hn.any.Q (ho.Y m2);have q0:=Y.size;have q1:=V.size;have ki:ZI [b1,b2,E] ↑h5 (CL.mk c2.ve c2.vc c2.vr (sL h4 1 1) c2.vk c2.ev c2.co c2.rq [⟨Xe,sL h3 2 2,[(0,1),(1,1)]⟩] c2.cs):=by
  have G:=((hF.up (L':=[b1,b2,E]) (λb H=>.inr (J b H).1)).I hh).st (V.Q Y);refine⟨G.ev,G.co,G.rq,jD.st (w:=kf) ⟨kg.arr (nB _ oa) (n:=1) (cap:=1) (sz:=2) U ol (Lx _),λq I=>?_,λq I=>?_⟩ (ho.Y m2),G.cs⟩
  ·rw[Lb.1 I];exact(ke.I hM).arr (nB _ oa) (n:=2) (cap:=2) (sz:=2) U ol (Lx _)
  rw[Lb.1 I];exact XI ol
 refine Qc<|x (Qx ⟨U,U,Z⟩)<|x (Qx ⟨U,U,Z⟩)<|Qn<|Za [QD (0,1),QD (1,1)] λh6 q2 hN q3 kj=>x (Qx ⟨U,U,U,Z⟩) <|
  Qn<|Za [[.string Qbv,sL h6 2 2,sS 1]] λh7 kk hO q4 kn=>?_
 have hp:=hN.D hO;refine QQ rfl<|Qn<|Qu (j:=4) (u:=sL h7 1 1) (((g6.J (hk.any.Q hl) oh).J (hn.any.Q ho) oh).I hp) U U od rfl λS hr ko=>xe ?_;have q5:=hN.size;have hs:O5 [b1,b2,E] h5 S:=hp.any.Q (hr.Y m3);have kq:ZI [b1,b2,E] ↑S (CL.mk c3.ve c3.vc c3.vr c3.vx (sL h7 1 1) c3.ev c3.co c3.rq c3.ex [⟨Qbv,sL h6 2 2,[(0,1),(1,1)],1⟩]):=by
  have G:=((hG.up (L':=[b1,b2,E]) (λb H=>.inr (J b H).1)).I hh).st ((V.Q Y).Q hs);refine⟨G.ev,G.co,G.rq,G.ex,jz.st (w:=kk) ⟨kn.arr (nB _ oa) (n:=1) (cap:=1) (sz:=3) U ol (Lx _),λq I=>?_,λq I=>?_⟩ (hr.Y m3)⟩
  ·rw[Lb.1 I];exact(kj.I hO).arr (nB _ oa) (n:=2) (cap:=2) (sz:=2) U ol (Lx _)
  rw[Lb.1 I];exact XI ol
 have hP:ZI [] ↑S _:=((kc.st Y).st hs).up (L':=[]) od;have kr:ZI [] ↑S _:=(ki.st hs).up (L':=[]) od;have kt:ZI [] ↑S _:=kq.up (L':=[]) od;have hQ:=(kb.J (hn.any.Q ho) oh).J (hp.any.Q hr) oh;have hR:sX w S:=(((hD.D hw).D hc).D hh).S ((V.Q Y).Q hs) (λb H=>.inr (oy (J b H).1 ((hD.D hw).D hc).size));have hS:=CL.cel_rq gw (sL h0 1 1) [⟨UY,⟨sL hi 1 1,sL hj 1 1,nS,QbK.a⟩⟩];refine Qc<|QT hQ U U<|Qz<|(QdY (k:=k1C) hP hS QqK (ha.I hR)).Y ?_;rintro q6 ku ⟨kv,sa,sm,se,s1,s2,s3,s4,rfl,kw,hT⟩;rw[QqJ]at hT;refine Qa<|QW U U<|QW U U<|QM QoQ λb4 j1 kx kz k0=>QK [sa,sS (spc k1C).a.st,sm,se,s1,s2,s3,s4] k0 kw λk4 k5 k6=>Qb ?_;have hU:sX ku k4:=kx.O k5 kz;have ht:=kv.D hU;have hV:=hR.D ht;refine Qc<|QT (hQ.I ht) U U<|Qz<|(QpF (k:=k1C) (hP.I ht) hS QqK (by rw[Qn1];decide) Qo4 (ha.I hV)).Y ?_;rintro j2 hW ⟨k7,xa,xm,k8,vb,rfl,h8,hX⟩;rw[Qo5]at hX;have k9:QL [] ↑hW vb [2]:=Qq.ints (L:=[]) hX od od;refine Qa<|QW U U<|QW U U<|QW U U<|QM K5 λb6 j3 ma mf mg=>QK [xa,sS ((spc k1C).a.st+1),xm,k8] mg ⟨h8.1,U,h8.2.1,h8.2.2.1,Z⟩ λmh mj mo=>x Qi<|Qb ?_;have hY:sX hW mh:=ma.O mj mf;have hu:=k7.D hY;have hA:=ht.D hu;have hZ:=hV.D hu;refine Qc<|x (Zu ((kh.J (hp.any.Q hr) oh).I hA) U U)<|Qz<|(QdY (k:=k2C) (kr.I hA) (CL.cel_ex gy (sL h4 1 1) [⟨Xe,sL h3 2 2,[(0,1),(1,1)]⟩]) QrS (ha.I hZ)).Y ?_;rintro za mq ⟨ms,ta,tm,te,t1,t2,t3,t4,rfl,mt,ga⟩;rw[QqH]at ga;refine Qa<|QW U U<|QW U U<|QM QoQ λb9 zb mu mv mw=>QK [ta,sS (spc k2C).a.st,tm,te,t1,t2,t3,t4] mw mt λmy mz m4=>Qb ?_;have gb:sX mq my:=mu.O mz mv;have T:=ms.D gb;have gc:=hA.D T;have gg:=hZ.D T;refine Qc<|QT (ko.I gc) U U<|Qz<|(QdY (k:=k3C) (kt.I gc) (CL.cel_cs g0 (sL h7 1 1) [⟨Qbv,sL h6 2 2,[(0,1),(1,1)],1⟩]) QrR (ha.I gg)).Y ?_;rintro zv m5 ⟨m6,ua,um,ue,u1,u2,u3,u4,rfl,m7,gh⟩;rw[QqF]at gh;refine Qa<|QW U U<|QW U U<|QM QoQ λz1 z2 m8 m9 pa=>QK [ua,sS (spc k3C).a.st,um,ue,u1,u2,u3,u4] pa m7 λgi pc pd=>Qb ?_;have gj:sX m5 gi:=m8.O pc m9;have O:=m6.D gj;have gk:=m4.I O;refine QX (α:=Unit) [(0,0),(55,105)] (λz=>[(0,.bool true)]) (λz w'=>sX gi w') om ?_ ?_
 ·refine Qs<|Qa<|xb (QR U U) (λgl=>?_) (λgl=>OW U gl);refine Qa<|Qa<|xb (QR U U) (λgm=>?_) (λgm=>OW U gm);refine QC U<|Qa<|Qa<|xb (QR U U) (λgn=>?_) (λgn=>OW U gn);refine QC U<|Qa<|Qa<|xb (QR U U) (λgo=>?_) (λgo=>OW U go);refine QC U<|Qa<|QQ U<|x (Qk (((k6.I hu).I T).I O) U U)<|x (Qx ⟨U,U,U,U,Z⟩)<|Qn<|Za [Z2 ⟨1,3,0,1⟩] λz3 z4 gp z5 pf =>
   Qz<|(qR (l:=[⟨1,3,0,1⟩]) ((((((hT.I hU).I hu).I T).I O)).I gp) (pf.arr (L:=[]) od (n:=1) (cap:=1) (sz:=4) rfl ol (Lx _))).Y ?_
  rintro r74 w33 ⟨rfl,pg⟩;have hB:=gp.D pg;refine QC U<|Qa<|QQ U<|x (Qk (((mo.I T).I O).I hB) U U)<|xb (QR U U) (λgq=>?_) (λgq=>Qrb (by rw[Qn1];rfl) gq);refine QC U<|Qa<|Qa<|Qn<|Za [[sS 2]] λb83 w34 gr hb83 ph =>
   Qz<|(JQ (l:=[2]) (l':=[2]) (((((k9.I hY).I T).I O).I hB).I gr) (ph.arr (L:=[]) od (n:=1) (cap:=1) (sz:=1) rfl oa (Lx _))).Y ?_
  rintro r84 w35 ⟨gs,pj⟩;rw[OX rfl]at gs;subst gs;have hv:=hB.D (gr.D pj);refine QC U<|Qa<|QQ U<|Qo U (gk.I hv) U U<|xb (QR U U) (λgt=>?_) (λgt=>Qrb QqG gt);refine QC U<|Qa<|Qo U (gk.I hv) U U<|x (Qx ⟨U,U,U,U,Z⟩)<|Qn<|Za [Z2 ⟨3,1,0,-1⟩] λb96 w36 gu hb96 pm =>
   Qz<|(qR (l:=[⟨3,1,0,-1⟩]) ((((ga.I gb).I O).I hv).I gu) (pm.arr (L:=[]) od (n:=1) (cap:=1) (sz:=4) rfl ol (Lx _))).Y ?_
  rintro r97 w37 ⟨rfl,pn⟩;have hC:=hv.D (gu.D pn);refine QC U<|Qa<|Qo U (pd.I hC) U U<|x (Qx ⟨U,U,U,U,Z⟩)<|Qn<|Za [Z2 ⟨3,2,0,-1⟩] λb103 w38 gv hb103 po =>
   Qz<|(qR (l:=[⟨3,2,0,-1⟩]) (((gh.I gj).I hC).I gv) (po.arr (L:=[]) od (n:=1) (cap:=1) (sz:=4) rfl ol (Lx _))).Y ?_
  rintro r104 w39 ⟨rfl,pp⟩;refine QC U<|Qb<|⟨(),La,hC.D (gv.D pp)⟩
 rintro z g w40 pu;exact Qh ⟨[.bool true],La,U,(gg.D O).D pu⟩
section
variable {s:Q6}{l:List UN}
end
section
variable {s:Q6}{l:List UN}
end
def xM (n:Nat)(d:LI):Prop:=∀x,x<n->0<=O6 d x->O6 d x<=x/\O6 d (O6 d x).toNat=O6 d x
section
variable {s:Q6}{l:List UN}
end
section
variable {p s:Q6}{pairs:List (LI)}
end
section
variable {s:Q6}{l:List UN}
end
section
variable {s:Q6}{l:List UN}{nm:LI}
end
section
variable {s:Q6}{l:List UN}
end
theorem QhF (E:ZK a):ZK (Yk a):=by
 have Y:=E.st0;have h1:=E.st1;by_cases T:a.st=0
 ·unfold Yk;rw[OU T];exact⟨E.al,E.ali,od,od,od,od,od,od⟩
 obtain⟨ord,h⟩:=QhE E oa;have hl:ord.length<=a.st.toNat:=xG _ _ h.nd (λx hx=>ov (h.bd x hx));refine⟨by rw[h.al];exact E.al,by rw[h.al];exact E.ali,by rw[h.st];omega,by rw[h.st];omega,λs H=>?_,?_,λe J=>?_,?_⟩
 ·rw[h.mk2]at H;simp only[OA,OH,OB]at H;obtain⟨i,⟨hi,_⟩,rfl⟩:=H;rw[h.st];omega
 ·rw[h.mk2];unfold Xa;rw[MQ];refine List.Pairwise.sublist M0 ?_;exact(Nj (s:=0) (n:=ord.length)).imp (λh=>oa)
 ·rw[h.ed]at J;obtain⟨j,I,hd⟩:=Me.1 J;rw[MD]at I;unfold cnR at hd;obtain⟨d,O,rfl⟩:=LD.1 hd;have:=MJ (h.cl j oa d O);rw[h.st,h.al];unfold cnF;exact⟨og,og,((E.ed d (ZV O).1).2.2.1),og,og⟩
 rw[h.ed];have key:∀n,((oS 0 n).flatMap (cnR a ord)).Pairwise λx y:Ed=>x.1<y.1\/(x.1=y.1/\x.2.1<y.2.1):=by
  intro n;induction n with
  | zero=>simp
  | succ n ih =>
   rw[MB,LA,LT,MH];refine⟨ih,?_,λx hx y G=>?_⟩
   ·simp only[Of,OM,Oy];unfold cnR;rw[MQ];have V:(Z7 a.ed (Yg ord n)).Pairwise λx y:Ed=>x.1<y.1\/(x.1=y.1/\x.2.1<y.2.1):=List.Pairwise.sublist M0 E.edi;refine List.Pairwise.imp_of_mem (λ{x y} hx G ha=>?_) V;have e1:=(ZV hx).2;have e2:=(ZV G).2;right;exact⟨U,by show x.2.1<y.2.1;omega⟩
   obtain⟨j,I,S⟩:=Me.1 hx;rw[MD]at I;simp only[Of,OM,Oy]at G;unfold cnR at S G;obtain⟨d,_,rfl⟩:=LD.1 S;obtain⟨d',_,rfl⟩:=LD.1 G;left;show(j:Int)<(n:Int);omega
 exact key _
theorem QeQ (E:Kb w 4096):QY sV 21 [] w λr w'=>r=.bool true/\sX w w':=by
 refine Zq func21 ?_;refine Qc<|Qb<|QX (α:=Unit) [(0,4)] (λz=>[(0,.bool true)]) (λz w'=>sX w w') om ?_ ?_
 ·refine Qs<|Qz<|(Qeh E).Y ?_;rintro O G ⟨rfl,H⟩;refine Qa<|Qz<|(QhP G).Y ?_;rintro r2 S ⟨rfl,I⟩;refine QC U<|Qb<|⟨(),La,H.D I⟩
 rintro z g T J;exact Qh ⟨[.bool true],La,U,J⟩
def Xd:ByteArray:=⟨#[98,117,102,102,101,114]⟩
def U3:XD:=⟨Xd,⟨[1,2],2,[0,1],[(0,1,1),(1,2,0)]⟩⟩
def QbG:ZF:={ mzC 3 with rq:=[U3],ex:=[Qj6 1 2] }
theorem Qo3:Zj QbG=0:=oe
open Go.ChangeShapes Go.WideShapes Go.RowKit
section
variable {H:Type}{enc:TypeId×O2->H}
theorem QaQ (G:laidOutB P=true){W W':O1}(I:sX W W'){sp:Nat->Bool}:∀{ts:List TypeId}{vs:LV}{ds:List (DataW H)}{ps:List MemPlace},
  (ts.all λt=>P.readableRec t && decide (t<P.types.size))=true->DataW.TrodAll enc P W 0 (λ_=>true) true ts vs ds ps->(∀x∈ps,x.block<↑W)->(∀x∈ps,sp x.block=true)->DataW.TrodAll enc P W' 0 sp true ts vs ds ps
 | [],vs,ds,ps,_,h,_,_=>by
  obtain⟨rfl,rfl,rfl⟩:=trodAll_nil h;exact trodAll_mk0
 | t::ts,vs,ds,ps,E,h,J,hsp=>by
  obtain⟨v,V,d,ds1,a,b,rfl,rfl,rfl,O,S⟩:=trodAll_cons h;simp only[oT,oM,decide_eq_true_eq]at E;have T:Below ↑W W W':=I.below;refine trodAll_cons_mk (WideElems.Trod_stays G E.1.1 E.1.2 O (λx hx=>T.same (J x (Mf _ hx))) (λx hx=>hsp x (Mf _ hx))) ?_;exact QaQ G I (oA E.2) S (λx hx=>J x (Nz _ hx)) (λx hx=>hsp x (Nz _ hx))
theorem Qjo {f:Func}{s:ChangeSpec}{apart fresh handsOn again:Bool}{W:O1}{args:Array O2}{ds gs:List (DataW H)}{before:List MemPlace}{tb:TypeId}
  (hl:laidOutB P=true) (hg:(f.params.toList.all λt=>P.readableRec t && decide (t<P.types.size))=true) (J:f.resultTypes=#[tb]) (O:P.underlying tb=some .bool) (S:s.vars=[])
  (E:s.fn H (ds++gs)={ results:=[.lit (.bool true)],args:=ds })
  (G:DataW.Whole enc P f.params.toList s.vars apart W args.toList ds gs before) (T:sX W W'):s.post enc P f apart fresh handsOn again W args (.bool true) W':=by
 have I:=G.lt;have hh:=G;obtain⟨p,q,hA,V,rfl,hz,hn⟩:=G;rw[S]at V;obtain⟨rfl,rfl⟩:=trodVars_none V;rw[LS]at *;have Y:∀sp:Nat->Bool,(∀x∈p,sp x.block=true)->DataW.TrodAll enc P W' 0 sp true f.params.toList args.toList ds p:=λsp hsp=>QaQ hl T hg hA I hsp;have hc:∀(b:Nat) (sp:Nat->Bool) (hd:Bool),DataW.TrodAll enc P W' b sp hd f.resultTypes.toList ((Value.bool true).resultList f.resultTypes.size) [.lit (.bool true)] []:=λb sp hd=>by
  rw[J];exact trodAll_mk1 (shut_bool O true)
 have hb:Below ↑W W W':=T.below;have he:∀sp:Nat->Bool,DataW.TrodVars enc P W' sp s.vars ([]:List (DataW H)) []:=λsp=>by rw[S];rfl
 have hi:(s.fn H ds).results=[.lit (.bool true)]:=by rw[E]
 have hj:(s.fn H ds).args=ds:=by rw[E]
 have hk:(s.fn H ds).vars=[]:=by rw[E]
 have hm:∀(j:Nat) (t:TypeId) (r:O2),f.resultTypes[j]?=some t->((Value.bool true).resultList f.resultTypes.size)[j]?=some r->Value.okWide P W' .any 0 t r:=ok_one J U (okWide_bool_mk O true);refine⟨ds,[],p,[],p,[],hh,?_,?_,?_,?_,λ_=>⟨hm,[.lit (.bool true)]++ds,[],([]++p)++[],⟨[]++p,[],?_,?_,U,?_,?_⟩,?_⟩⟩
 ·rw[LS,hi];exact hc _ _ _
 ·rw[LS,hj];exact Y _ (λx hx=>oA (I x hx))
 ·rw[LS,hk];exact he _
 ·exact World.keptBut_mono (λ_ f=>f.elim) (hb.frame (λ_=>False))
 ·exact trodAll_append (Y _ (λ_ _=>U)) (hc _ _ _)
 ·exact he _
 ·intro b off hp;have hf:MemPlace.cell b off∈p:=by simpa using hp
  rw[hb.frozen (p:=⟨b,off,none⟩) (I _ hf)];exact hz b off hf
 ·intro ha;have:=hn ha;simpa using this
 intro x hx _;simpa using hx
end
open Go.ChangeShapes Go.WideShapes Go.RowKit Go.Lg
theorem QeF:∀(l:LV),(∀v∈l,∃n:Nat,v=.int .u8 (n:Int)/\n<256)->∃ns:LN,l=bys ns/\ns.length=l.length/\∀n∈ns,n<256
 | [],_=>⟨[],U,U,od⟩
 | v::l,h=>by
  obtain⟨n,rfl,G⟩:=h v Lq;obtain⟨ns,H,I,J⟩:=QeF l (λv O=>h v (Lk _ O));refine⟨n::ns,by rw[H];rfl,by simp[I],λm E=>?_⟩;rcases Lj.1 E with rfl|E
  ·exact G
  exact J m E
theorem Qoj {n:Int}(h:(Lit.int .u8 n).wf=true):∃m:Nat,n=m/\m<256:=by
 simp only[Lit.wf,oM,decide_eq_true_eq]at h;rw[show IntKind.u8.min=0 from rfl,show IntKind.u8.max=255 from rfl]at h;exact⟨n.toNat,oa,oa⟩
theorem Qou {s:TypeId×Nat}(h:w.shape? b=some s):b<w.heap.size:=by
 unfold World.shape? at h;cases E:w.heap[b]? with
 | none=>simp[E]at h
 | some o=>exact(LK.1 E).1
theorem QmR {base:Nat}{a:Addr}{e:TypeId}(h:w.has P .any base a e n):a.block<w.heap.size:=by
 obtain⟨_,_,row,cells,E,_⟩:=h;exact Qou E
theorem QlU {base:Nat}{t e:TypeId}{a:Addr}{c:Nat}(E:P.underlying t=some (.slice e))(h:Cell.okWide P w .any base t (.slice (some a) n c)):a.block<w.heap.size:=by
 simp only[Cell.okWide,Cell.ok,E]at h;exact QmR h.2.2
theorem Qef {α:Type}{p:Nat->α->Prop}:∀(n:Nat),(∀i,i<n->∃e,p i e)->∃l:List α,l.length=n/\∀i (h:i<l.length),p i (l[i]'h)
 | 0,_=>⟨[],U,λi h=>by simp at h⟩
 | n+1,h=>by
  obtain⟨l,E,I⟩:=Qef n (λi hi=>h i oa);obtain⟨e,J⟩:=h n oa;refine⟨l++[e],by simp[E],λi hi=>?_⟩;by_cases G:i<l.length
  ·rw[MI G];exact I i G
  have:i=n:=by simp at hi;omega
  subst this;rw[M8 oa];simpa[E]using J
theorem VE {α:Type}{f:α->Option O2}:∀{L:List α}{l:LV},L.mapM f=some l->l.length=L.length/\∀(i:Nat) (a:α),L[i]?=some a->f a=l[i]?
 | [],l,h=>by
  simp at h;subst h;exact⟨U,λi a h=>by simp at h⟩
 | x::L,l,h=>by
  simp only[List.mapM_cons,Option.bind_eq_bind,Option.pure_def,Option.bind_eq_some_iff]at h;obtain⟨v,E,S,G,I⟩:=h;cases I
  obtain⟨J,O⟩:=VE G;refine⟨by simp[J],λi a hi=>?_⟩;cases i with
  | zero=>simp at hi;subst hi;simpa using E
  | succ i=>simpa using O i a (oA hi)
def kT (P:O4)(k:IntKind):Nat->TypeId->Bool
 | 0,_=>false
 | m+1,t=>match P.underlying t with
  | some (.int k')=>k' == k
  | some (.array n e)=>kT P k m e && decide (0<P.cellsOf e) && decide (P.cellsOf t=n*P.cellsOf e)
  | some (.struct fs)=>(oV (P.cellsOf t)).all λj=>fs.toList.any λf=>kT P k m f.type && decide (f.offset<=j/\j<f.offset+P.cellsOf f.type)
  | _=>false
theorem QbT {o:Nat}{c:O2}(h:cs[j]?=some c)(E:o<=j)(G:j<o+n):c∈(cs.drop o).take n:=by
 refine Mt (i:=j - o) ?_;rw[LW,OU oa,My,show o+(j - o)=j by omega];exact h
section
variable {H:Type}{enc:TypeId×O2->H}{W:O1}{base b0:Nat}{sp:Nat->Bool}{held:Bool}
theorem VG {k:IntKind}:∀(m:Nat) {t:TypeId}{cs:LV}{fuel:Nat}{x:DataW H×List MemPlace},kT P k m t=true->DataW.trod enc P W b0 sp held fuel t cs=some x->∀c∈cs,∃n,c=.int k n/\(Lit.int k n).wf=true
 | 0,_,_,_,_,h,_,_,_=>by cases h
 | m+1,t,cs,fuel,x,h,J,c,O=>by
  unfold kT at h;obtain⟨j,V,Y⟩:=LO O;have T:cs[j]?=some c:=by rw[LG V,Y]
  split at h
  ·rename_i k' G;have hk:k'=k:=by simpa using h
   subst hk;obtain⟨n,S,_,E⟩:=DataW.trod_int G J;rw[S]at O;exact⟨n,Lb.1 O,E⟩
  ·rename_i n e G;simp only[oM,decide_eq_true_eq]at h;obtain⟨⟨S,E⟩,h3⟩:=h;obtain⟨xs,m',_,_,hl,ha,hx⟩:=DataW.trod_array G J;have hb:=Nat.div_add_mod j (P.cellsOf e);have hn:=NH j E;have hi:j / P.cellsOf e<n:=by
    refine(Nat.div_lt_iff_lt_mul E).2 ?_;omega
   have I:=hx (j / P.cellsOf e) hi;rw[LG (show j / P.cellsOf e<xs.length by omega)]at I;rw[Nat.mul_comm]at hb;exact VG m S I c (QbT T oa oa)
  ·rename_i fs G;obtain⟨xs,m',_,_,hl,ha,hx⟩:=DataW.trod_struct G J;obtain⟨f,he,E⟩:=Nt.1 (Mh.1 h j (Nw.2 oa));simp only[oM,decide_eq_true_eq]at E;obtain⟨i,hi,hg⟩:=LO he;have hh:i<fs.size:=by simpa using hi
   have hm:fs[i]?=some f:=by rw[Mz hh,<-hg];simp
   have I:=hx i f hm;rw[LG (show i<xs.length by omega)]at I;exact VG m E.1 I c (QbT T E.2.1 E.2.2)
  cases h
theorem U8 {k:IntKind}{m:Nat}{fs:Array Field}{xs:List (DataW H×List MemPlace)}{I:Nat}(V:xs.length=fs.size)
  (hx:∀(i:Nat) (f:Field),fs[i]?=some f->DataW.trod enc P W b0 sp held I f.type ((cs.drop f.offset).take (P.cellsOf f.type))=xs[i]?)  {f:Field} {c:O2} (E:fs[i]?=some f) (J:kT P k m f.type=true) (O:f.offset<=j) (S:j<f.offset+P.cellsOf f.type) (T:cs[j]?=some c):
  ∃n,c=.int k n/\(Lit.int k n).wf=true:=by
 have G:=hx i f E;have hi:i<fs.size:=(LK.1 E).1;rw[LG (show i<xs.length by omega)]at G;exact VG m J G c (QbT T O S)
theorem yn {c:O2}(h:∃n,c=.int .u8 n/\(Lit.int .u8 n).wf=true):∃n:Nat,c=.int .u8 (n:Int)/\n<256:=by
 obtain⟨n,rfl,E⟩:=h;obtain⟨m,rfl,G⟩:=Qoj E;exact⟨m,U,G⟩
end
theorem Qqx {W:O1}{base:Nat}{ts:List TypeId}{cs:Array O2}(h:∀(i:Nat) (v:O2),cs[i]?=some v->∃u,ts[i % ts.length]?=some u/\Cell.okWide P W .any base u v)(i:Nat)(t:TypeId)(v:O2)(G:cs[i]?=some v)(I:ts[i % ts.length]?=some t):Cell.okWide P W .any base t v:=by
 obtain⟨u,E,k⟩:=h i v G;rw[I]at E;cases E
 exact k
theorem Qpi {H:Type}{enc:TypeId×O2->H}{W:O1}{b0 m:Nat}{sp:Nat->Bool}{held:Bool}{fs:Array Field}{xs:List (DataW H×List MemPlace)}
  (h:∀(i:Nat) (f:Field),fs[i]?=some f->DataW.trod enc P W b0 sp held m f.type ((cs.drop f.offset).take (P.cellsOf f.type))=xs[i]?) (i:Nat) {f:Field} {o:Nat} {c:O2} (E:fs[i]?=some f) (G:f.type=t) (I:f.offset=o) (J:P.cellsOf t=1) (O:(cs.drop o).take 1=[c]) (hi:i<xs.length):
  DataW.trod enc P W b0 sp held m t [c]=some (xs[i]'hi):=by
 have e:=h i f E;rw[G,I,J,O]at e;rw[e];simp[hi]
theorem Qmh {W:O1}{base e:Nat}{v:O2}(E:P.underlying t=some (.slice e))(h:Value.okWide P W .any base t v):∃a n c,v=.slice a n c:=okWide_slice E h
theorem Qqi {W:O1}{l:List (String×DataW Unit)}{a b:String×DataW Unit}(E:l=[a,b,("internal/strconv.uint64pow10",Lib.tabData .u64 Lib.pow10Tab)]) (h:laidMetH sV l W) (G:(l.all λx=>x.2.handleName?.isNone)=true):Tb W:=by
 rw[Go.MakeChecks.laidMetH_plain _ _ _ G,E]at h;exact Lib.tabIs_of_head (n:=20) (g:=0) oe (t:=476) oe oe (e:=364) oe oe oe h.tail.tail
structure PwV where
 ns:LN
 ad:Option Addr
 n:Nat
 cp:Nat
 f0:Int
 f1:Int
 f2:Int
 bd:Int
def PwV.pl (l:PwV)(rs:List X4V):PlV:=⟨l.ns,.slice l.ad l.n l.cp,rs,l.f0,l.f1,l.f2,l.bd⟩
abbrev Jk (l:PwV):LV:=bys l.ns++[.slice l.ad l.n l.cp,.int .i8 l.f0,.int .i8 l.f1,.int .i8 l.f2,.int .i8 l.bd]
structure PwA (w:O1)(l:PwV):Prop where
 n:l.ns.length=147
 b:∀n∈l.ns,n<256
 f0:i8R l.f0
 f1:i8R l.f1
 f2:i8R l.f2
 bd:i8R l.bd
 r:l.n<=4->∃rs:List X4V,rs.length=l.n/\Zn [] ↑w (.slice l.ad l.n l.cp) l.n 4 (rs.flatMap Xt)
theorem PwA.pl {w w':O1}{l:PwV}(h:PwA w l)(G:sX w w')(I:l.n<=4):∃rs,PlA [] ↑w' (l.pl rs)/\rs.length=l.n:=by
 obtain⟨rs,E,J⟩:=h.r I;exact⟨rs,⟨h.n,h.b,by show Zn _ _ _ rs.length 4 _;rw[E];exact J.I G,h.f0,h.f1,h.f2,h.bd⟩,E⟩
theorem Qqr {l:PwV}(h:l.ns.length=147):(Jk l)[147]?=some (.slice l.ad l.n l.cp):=by
 show(Jk l)[147+0]?=_;rw[Jk,MM (by rw[X2];omega),X2,h,ML];rfl
theorem QfG {c:O2}(h:∃n,c=.int .i8 n/\(Lit.int .i8 n).wf=true):∃n:Int,c=.int .i8 n/\i8R n:=by
 obtain⟨n,rfl,h⟩:=h;simp only[Lit.wf,oM,decide_eq_true_eq]at h;rw[show IntKind.i8.min=-128 from rfl,show IntKind.i8.max=127 from rfl]at h;exact⟨n,U,oa⟩
def Qn8 (P:O4)(fs:Array Field)(n:Nat):Bool:=(oV n).all λj=>fs.toList.any λf=>kT P .u8 5 f.type && decide (f.offset<=j/\j<f.offset+P.cellsOf f.type)
section
variable {H:Type}{enc:TypeId×O2->H}{W:O1}{base b0:Nat}{sp:Nat->Bool}{held:Bool}
theorem QkP {fs:Array Field}{m:Nat}{xs:List (DataW H×List MemPlace)}(h:Qn8 P fs n=true)(G:xs.length=fs.size)
  (hx:∀(i:Nat) (f:Field),fs[i]?=some f->DataW.trod enc P W b0 sp held m f.type ((cs.drop f.offset).take (P.cellsOf f.type))=xs[i]?)  {c:O2} (I:j<n) (J:cs[j]?=some c):∃k:Nat,c=.int .u8 (k:Int)/\k<256:=by
 obtain⟨f,O,E⟩:=Nt.1 (Mh.1 h j (Nw.2 I));simp only[oM,decide_eq_true_eq]at E;obtain⟨i,hi,S⟩:=LO O;have T:i<fs.size:=by simpa using hi
 have V:fs[i]?=some f:=by rw[Mz T,<-S];simp
 exact yn (U8 G hx V E.1 E.2.1 E.2.2 J)
theorem Qq8 {t e:TypeId}{c:O2}{fuel:Nat}{x:DataW H×List MemPlace}(J:P.underlying t=some (.slice e))(he:kT P .u8 5 e=true)(hc:P.cellsOf e=4)
  (hb:Cell.okWide P W .any base t c) (hf:DataW.trod enc P W b0 sp held fuel t [c]=some x):∃a n cp,c=.slice a n cp/\(n<=12->∃u:List X4V,u.length=n/\Zn [] ↑W (.slice a n cp) n 4 (u.flatMap Xt)):=by
 rcases DataW.trod_slice J hf with⟨E,_⟩|⟨a,len,cap,elems,rest,m,_,E,_,_,hl,_,hm,hg,_,_⟩
 ·simp at E;subst E;exact⟨none,0,0,U,λ_=>⟨[],U,Zn.nil _ _ _⟩⟩
 simp at E;subst E;refine⟨some a,len,cap,U,λhn=>?_⟩;have each:∀i,i<len->∃d:X4V,∀r v,(Xt d)[r]?=some v->W.cell? (a.add (i*4+r))=some v:=by
  intro i hi;have O:=hg i hi;rw[hc,LG (show i<elems.length by omega)]at O;obtain⟨cs,E,hh⟩:=MO.1 O;obtain⟨ns,h1,h2,I⟩:=QeF cs (λv G=>yn ((VG 5 he hh) v G));unfold World.cells? at E;split at E
  ·have ho:cs.length=4:=by
    simpa using(VE E).1
   refine⟨⟨ns,oa,I⟩,λr v G=>?_⟩;have S:cs[r]?=some v:=by rw[h1];exact G
   have hk:r<4:=by have:=(L7.1 S).1;omega
   have T:=(VE E).2 r r (by simp[hk]);rw[Lg.Addr.add_add,S]at T;exact T
  cases E
 obtain⟨u,V,hu⟩:=Qef len each;refine⟨u,V,?_⟩;have Y:(u.flatMap Xt).length=u.length*4:=Go.Lg.YY Xt 4 ym u;refine⟨by rw[Y,V],oa,.inr ⟨a,cap,rfl,oa,λ_ _=>od,λ_ _=>QlU J hb,λj v G=>?_⟩⟩;have hj:j<u.length*4:=by
  rw[<-Y];exact(L7.1 G).1
 have hi:j / 4<u.length:=oa
 have ha:j=j / 4*4+j % 4:=oa
 have I:(Xt (u[j / 4]'hi))[j % 4]?=some v:=by
  rw[<-(Xw Xt 4 ym u (j / 4) hi),LW,OU (NH _ oa),My,<-ha];exact G
 rw[<-JS];have:=hu (j / 4) hi (j % 4) v I;rw[<-ha]at this;exact this
theorem QhH {v:O2}{d:DataW H}{ps:List MemPlace}{tp te:Nat}{fs:Array Field}{S J O:Field}(hu:P.underlying t=some (.struct fs))(ha:(P.cellTypes P.depth t).map (λts=>(ts.length,ts[147]?))=some (152,some tp))(hc:P.cellsOf t=152)
  (g7:fs[7]?=some S) (T:fs[8]?=some J) (g9:fs[9]?=some O) (hk:S.type=tp) (o7:S.offset=147) (o8:J.offset=148) (o9:O.offset=151) (c7:P.cellsOf tp=1) (c8:P.cellsOf J.type=3) (c9:P.cellsOf O.type=1)
  (kb:Qn8 P fs 147=true) (V:kT P .i8 5 J.type=true) (k9:kT P .i8 5 O.type=true) (hn:P.underlying tp=some (.slice te)) (ho:kT P .u8 5 te=true) (hp:P.cellsOf te=4)
  (hb:Value.okWide P W .any base t v) (h:DataW.Trod enc P W b0 sp held t v d ps):∃l:PwV,v=sT (Jk l)/\PwA W l:=by
 simp only[Value.okWide,hu]at hb;obtain⟨cs,rfl,he,ts,hq,_,hr⟩:=hb;rw[hq]at ha;have hg:=Option.some.inj ha;have hs:ts.length=152:=OV Prod.fst hg;have ht:ts[147]?=some tp:=OV Prod.snd hg;rw[hc]at he;obtain⟨l⟩:=cs;have hl:l.length=152:=he;obtain⟨fuel,hf⟩:=h;obtain⟨xs,m,_,_,_,G,hv⟩:=DataW.trod_struct hu hf;have E:∀(i:Nat) (f:Field),fs[i]?=some f->DataW.trod enc P W b0 sp held m f.type ((l.drop f.offset).take (P.cellsOf f.type))=xs[i]?:=hv;have h0:7<fs.size:=(LK.1 g7).1;have g0:∀c∈l.take 147,∃n:Nat,c=.int .u8 (n:Int)/\n<256:=λc hm=>by
  obtain⟨j,hj,hh⟩:=LO hm;have hw:j<147:=by simp at hj;omega
  have hy:l[j]?=some c:=by
   rw[Nh]at hh;rw[LG oa,hh]
  exact QkP kb G E hw hy
 obtain⟨ns,e1,e2,e3⟩:=QeF _ g0;have hz:ns.length=147:=by rw[e2];simp;omega
 have I:∀j,j<152->∃c,l[j]?=some c:=λj hj=>⟨l[j]'oa,LG oa⟩;obtain⟨Y,q1⟩:=I 147 oa;obtain⟨x2,q2⟩:=I 148 oa;obtain⟨x3,q3⟩:=I 149 oa;obtain⟨x4,q4⟩:=I 150 oa;obtain⟨x5,q5⟩:=I 151 oa;have hi:l.drop 147=[Y,x2,x3,x4,x5]:=by
  apply M5;intro i;rw[My]
  match i with
  | 0=>exact q1
  | 1=>exact q2
  | 2=>exact q3
  | 3=>exact q4
  | 4=>exact q5
  | i+5=>rw[MX oa];rfl
 obtain⟨y2,rfl,z2⟩:=QfG (U8 G E T V oa oa q2);obtain⟨y3,rfl,z3⟩:=QfG (U8 G E T V oa oa q3);obtain⟨y4,rfl,z4⟩:=QfG (U8 G E T V oa oa q4);obtain⟨y5,rfl,z5⟩:=QfG (U8 G E g9 k9 oa oa q5);obtain⟨a,n,cp,rfl,hP⟩:=Qq8 hn ho hp (Qqx hr 147 tp Y (oA q1) (by rw[hs];exact ht)) (Qpi (c:=Y) E 7 g7 hk o7 c7 (by rw[hi];rfl) oa);refine⟨⟨ns,a,n,cp,y2,y3,y4,y5⟩,?_,hz,e3,z2,z3,z4,z5,λh3=>hP (by have h4:n<=4:=h3;omega)⟩;show Value.agg l.toArray=sT (bys ns++_);rw[<-e1,<-hi,MG]
end
theorem Qq9 {H:Type}{enc:TypeId×O2->H}{W:O1}{base b0:Nat}{sp:Nat->Bool}{held:Bool}{v:O2}{d:DataW H}{ps:List MemPlace}(E:Value.okWide sV W .any base 36 v)(h:DataW.Trod enc sV W b0 sp held 36 v d ps):
  ∃l:PwV,v=sT (Jk l)/\PwA W l :=
 QhH underlying36 (tp:=32) oe oe U U U U U U U oe oe oe oe oe oe underlying32 oe oe E h
theorem Qk8 {l:PwV}(h:PwA w l):QY sV 6 [sT (Jk l)] w λr w'=>r=.bool (decide (l.n<=4))/\sX w w':=by
 refine Zq func6 ?_;refine Qc<|Zl (Jk l) λb1 H E I G=>Qb<|Qc<|Qo U G U (Qqr h.n)<|x (Ui U)<|x (Vi U U)<|Qb<|Qh ⟨[_],La,?_,E⟩;exact OV Value.bool (decide_eq_decide.2 oa)
section
variable {P:LI->Prop}
end
abbrev mB (c:ZF)(m:qu):Q6:=(spc (Jv c m)).a
abbrev mL (c:ZF)(m:qu):Lf:=Qbm (mB c m) (fbs (spc (Jv c m))) (unc c.ev)
section
variable (h:D25 c)
abbrev suL (c:ZF):Lf:=Qbm (spc c).a (fbs (spc c)) (unc c.ev)
end
abbrev Vm (c:ZF):LI×LI×List Q4:=(kpK (suL c) (spc c).a.st.toNat,kpD (suL c) (dsts (spc c).a (suL c)) (spc c).a.st.toNat,rmS (spc c).a (fbs (spc c)) (unc c.ev))
theorem Qgj {b:Q6}:a=b↔(a.al=b.al/\a.st=b.st/\a.mr=b.mr/\a.ed=b.ed):=⟨λh=>by subst h;exact⟨U,U,U,U⟩,λh=>by cases a;cases b;simp_all⟩
theorem QfO {a b:Kq}:a=b↔(a.nm=b.nm/\a.co=b.co/\a.ob=b.ob/\a.fo=b.fo/\a.fl=b.fl):=⟨λh=>by subst h;exact⟨U,U,U,U,U⟩,λh=>by cases a;cases b;simp_all⟩
theorem QfE {a b:XD}:a=b↔(a.nm=b.nm/\a.a=b.a):=⟨λh=>by subst h;exact⟨U,U⟩,λh=>by cases a;cases b;simp_all⟩
theorem yf {a b:qv}:a=b↔(a.nm=b.nm/\a.ls=b.ls):=⟨λh=>by subst h;exact⟨U,U⟩,λh=>by cases a;cases b;simp_all⟩
theorem qe {a b:xK}:a=b↔(a.nm=b.nm/\a.ts=b.ts/\a.bd=b.bd):=⟨λh=>by subst h;exact⟨U,U,U⟩,λh=>by cases a;cases b;simp_all⟩
theorem Qgb {a b:ZF}:a=b↔(a.ev=b.ev/\a.co=b.co/\a.rq=b.rq/\a.ex=b.ex/\a.cs=b.cs):=⟨λh=>by subst h;exact⟨U,U,U,U,U⟩,λh=>by cases a;cases b;simp_all⟩
instance:DecidableEq Q6:=λ_ _=>decidable_of_iff _ Qgj.symm
instance:DecidableEq Kq:=λ_ _=>decidable_of_iff _ QfO.symm
instance:DecidableEq XD:=λ_ _=>decidable_of_iff _ QfE.symm
instance:DecidableEq qv:=λ_ _=>decidable_of_iff _ yf.symm
instance:DecidableEq xK:=λ_ _=>decidable_of_iff _ qe.symm
instance:DecidableEq ZF:=λ_ _=>decidable_of_iff _ Qgb.symm
abbrev Ky:=Int×ByteArray
structure xI where
 ky:Ky
 vr:Int
 sp:Q6
 kp:LI
 ds:LI
 rm:List Q4
 c:ZF
structure Rp where
 kept:List Ky
 made:List Ky
 gone:List Ky
def ZR (c:ZF)(m:qu):Ky:=(m.kd,if m.kd=1 then(c.rq.getD m.ix.toNat ⟨.empty,Vq⟩).nm else if m.kd=2 then(c.ex.getD m.ix.toNat ⟨.empty,[]⟩).nm else(c.cs.getD m.ix.toNat ⟨.empty,[],0⟩).nm)
def Vj (c:ZF)(v:Int)(m:qu):xI:=⟨ZR c m,v,suA (Jv c m),(Vm (Jv c m)).1,(Vm (Jv c m)).2.1,(Vm (Jv c m)).2.2,Jv c m⟩
def K1 (l:List xI)(k:Ky):Option xI:=l.find? λp=>decide (p.ky=k)
def KP (c:ZF)(bf:List xI)(v:Int)(m:qu):Int×xI×Bool :=
 if ya c m≠0 then(ya c m,Vj c v m,false)else match K1 bf (ZR c m)with
 | some p=>if p.c=Jv c m then(0,p,true)else(Y3 (Jv c m),Vj c v m,false)
 | none=>(Y3 (Jv c m),Vj c v m,false)
def blL (c:ZF)(bf:List xI)(v:Int):List qu->List xI->List Ky->List Ky->Int×List xI×List Ky×List Ky
 | [],o,k,n=>(0,o,k,n)
 | m::l,o,k,n=>if(KP c bf v m).1≠0 then((KP c bf v m).1,[],[],[])else
  if(KP c bf v m).2.2=true then blL c bf v l (o++[(KP c bf v m).2.1]) (k++[ZR c m]) n else blL c bf v l (o++[(KP c bf v m).2.1]) k (n++[ZR c m])
def KO (c:ZF)(bf:List xI)(v:Int):=blL c bf v (O8 c) [] [] []
def Jg (c:ZF)(bf:List xI)(v:Int):Int:=if Zj c≠0 then Zj c else(KO c bf v).1
def VO (c:ZF)(bf:List xI)(v:Int):List xI:=(KO c bf v).2.1
def Qr5 (c:ZF)(bf:List xI):List Ky:=(bf.filter λp=>decide (p.ky∉(O8 c).map (ZR c))).map (·.ky)
def YN (c:ZF)(bf:List xI)(v:Int):Rp:=⟨(KO c bf v).2.2.1,(KO c bf v).2.2.2,Qr5 c bf⟩
structure q7 where
 c:ZF
 ps:List xI
 made:Int
 rs:List Rp
 un:List (ZF×List xI)
def VB (c:ZF):Int:=if(ZQ c).1≠0 then(ZQ c).1 else if Zj c≠0 then Zj c else Jg c [] 0
def Qbx (c:ZF):q7:=⟨c,VO c [] 0,((YN c [] 0).made.length:Int),[],[]⟩
def zz (c:ZF)(es:List (Bool×Yi)):Int×List Yi:=if(ZQ c).1≠0 then((ZQ c).1,[])else zG (ZQ c).2 es
def KX (c:ZF)(es:List (Bool×Yi)):Int×ZF:=if(zz c es).1≠0 then((zz c es).1,VN)else if(J8 c.ev (zz c es).2).1≠0 then((J8 c.ev (zz c es).2).1,VN)else if Zj (J8 c.ev (zz c es).2).2≠0 then(Zj (J8 c.ev (zz c es).2).2,VN)else(0,(J8 c.ev (zz c es).2).2)
def qb (s:q7)(es:List (Bool×Yi)):Int:=if es.length=0 then 12 else if s.un.length=64 then 3 else if(KX s.c es).1≠0 then(KX s.c es).1 else Jg (KX s.c es).2 s.ps ((s.un.length:Int)+1)
def edS (s:q7)(es:List (Bool×Yi)):q7:=⟨(KX s.c es).2,VO (KX s.c es).2 s.ps ((s.un.length:Int)+1),s.made+((YN (KX s.c es).2 s.ps ((s.un.length:Int)+1)).made.length:Int),s.rs++[YN (KX s.c es).2 s.ps ((s.un.length:Int)+1)],s.un++[(s.c,s.ps)]⟩
def unS (s:q7):q7:=⟨(s.un.getLastD (s.c,s.ps)).1,(s.un.getLastD (s.c,s.ps)).2,s.made,s.rs.dropLast,s.un.dropLast⟩
abbrev Xp (k:Ky):LV:=[sS k.1,.string k.2]
theorem Qm2 (a b:Kq):K9 (Zs a) (Zs b)=decide (a=b):=by
 rw[Bool.eq_iff_iff];simp only[K9,eqV,oM,beq_iff_eq,decide_eq_true_eq,QfO,and_true]
theorem QiW (a b:Int×Int):K9 (QD a) (QD b)=decide (a=b):=by
 rw[Bool.eq_iff_iff];simp only[K9,eqV,oM,beq_iff_eq,decide_eq_true_eq,Prod.ext_iff,and_true]
theorem QoD (a b:Q4):K9 (q4C a) (q4C b)=decide (a=b):=by
 rw[Bool.eq_iff_iff];simp only[K9,eqV,oM,beq_iff_eq,decide_eq_true_eq,Prod.ext_iff,and_true]
theorem QbD (a b:Ky):K9 (Xp a) (Xp b)=decide (a=b):=by
 rw[Bool.eq_iff_iff];simp only[K9,eqV,oM,beq_iff_eq,decide_eq_true_eq,Prod.ext_iff,and_true]
instance skEvt:Sk sV 169 [1,2,2,2,0]:=⟨⟨_,underlying169,.str ol U underlying9<|.flag ol U underlying4<|.flag ol U underlying4<|.flag ol U underlying4<|.int ol U underlying3 .nil⟩,oe,oe⟩
instance skLoc:Sk sV 107 [0,0]:=⟨⟨_,underlying107,.int ol U underlying3<|.int ol U underlying3 .nil⟩,oe,oe⟩
instance skTrm:Sk sV 112 [0,0]:=⟨⟨_,underlying112,.int ol U underlying3<|.int ol U underlying3 .nil⟩,oe,oe⟩
instance skRmv:Sk sV 261 [0,0,0,0]:=⟨⟨_,underlying261,.int ol U underlying3<|.int ol U underlying3<|.int ol U underlying3<|.int ol U underlying3 .nil⟩,oe,oe⟩
instance skKey:Sk sV 87 [0,1]:=⟨⟨_,underlying87,.int ol U underlying3<|.str ol U underlying9 .nil⟩,oe,oe⟩
theorem Qho {v:O2}{l l':List (Kq)}(h:Zn L ↑w v l.length 5 (l.flatMap Zs))(E:Zn L' ↑w v' l'.length 5 (l'.flatMap Zs)):
  QY sV 147 [v,v'] w λr w'=>r=.bool (decide (l=l'))/\sX w w':=by
 have hf:=h.le;refine Zq func147 ?_;refine Qc<|Qb<|Qd<|Qj<|QF h U<|Qa<|QF E U<|Zx U U<|xe<|QO rfl (λT=>?_) (λT=>?_)
 ·refine Qc<|Qb<|Qh ⟨[.bool false],La,?_,O5.Z _ _⟩;have:l≠l':=λe=>T (by rw[e]);simp[tup,this]
 refine Qf<|Qd<|Qj<|QF h U<|Qa<|xe<|Q7 (α:=Nat) [(4,5),(13,25)] (λk=>[(13,sS k)]) (λk w'=>sX w w'/\k<=l.length/\(l=l'↔l.drop k=l'.drop k)) (λk=>l.length - k) 0 La ⟨O5.Z _ _,Lo _,od⟩ ?_;rintro k g Y ⟨G,hk,J⟩
 replace h:=h.I G
 replace E:=E.I G;refine Zo rfl U (λha=>?_) (λha=>?_)
 ·refine Qw<|Qc<|Qb<|Qh ⟨[.bool true],La,?_,G⟩;rw[Lt oa,Lt oa]at J;simp[tup,J]
 have H:k<l.length:=oa
 have I:k<l'.length:=oa
 refine Qf<|Qd<|Qm<|Qj<|Qb<|Qd<|Zz [] (YW 0 9 [])<|p Qv<|p Qv<|Lg.pig (g:=Zs) (i:=k) U U9 h U U H λhg hb=>pq (λ_ O=>Qr (hb.I O) U U) <|
  p Qv<|p Qv<|Lg.pig (g:=Zs) (i:=k) U U9 E U U I λhh he=>pq (λ_ O=>Qr (he.I O) U U)<|p (λ_=>(Vx (xs:=Zs (l[k]'H)) (ys:=Zs (l'[k]'I)) U U U).D (by rw[Qm2]))<|pe ?_
 have V:=G.D (O5.C [] Y);refine QU rfl (λS=>?_) (λS=>?_)
 ·refine Qc<|Qb<|Qh ⟨[.bool false],La,?_,V⟩;have:l≠l':=λe=>by subst e;simp at S
  simp[tup,this]
 refine Qf<|Qs<|QH U U<|Qa<|xe<|⟨k+1,oa,La,V,oa,?_⟩;have e:l[k]'H=l'[k]'I:=by simpa using S
 rw[J,Zc H,Zc I,e];exact⟨λh=>(List.cons.inj h).2,λh=>by rw[h]⟩
theorem Qhn {v:O2}{l l':xw}(h:Zn L ↑w v l.length 2 (l.flatMap QD))(E:Zn L' ↑w v' l'.length 2 (l'.flatMap QD)):
  QY sV 151 [v,v'] w λr w'=>r=.bool (decide (l=l'))/\sX w w':=by
 have hf:=h.le;refine Zq func151 ?_;refine Qc<|Qb<|Qd<|Qj<|QF h U<|Qa<|QF E U<|Zx U U<|xe<|QO rfl (λT=>?_) (λT=>?_)
 ·refine Qc<|Qb<|Qh ⟨[.bool false],La,?_,O5.Z _ _⟩;have:l≠l':=λe=>T (by rw[e]);simp[tup,this]
 refine Qf<|Qd<|Qj<|QF h U<|Qa<|xe<|Q7 (α:=Nat) [(4,5),(13,25)] (λk=>[(13,sS k)]) (λk w'=>sX w w'/\k<=l.length/\(l=l'↔l.drop k=l'.drop k)) (λk=>l.length - k) 0 La ⟨O5.Z _ _,Lo _,od⟩ ?_;rintro k g Y ⟨G,hk,J⟩
 replace h:=h.I G
 replace E:=E.I G;refine Zo rfl U (λha=>?_) (λha=>?_)
 ·refine Qw<|Qc<|Qb<|Qh ⟨[.bool true],La,?_,G⟩;rw[Lt oa,Lt oa]at J;simp[tup,J]
 have H:k<l.length:=oa
 have I:k<l'.length:=oa
 refine Qf<|Qd<|Qm<|Qj<|Qb<|Qd<|Zz [] (YW 0 9 [])<|p Qv<|p Qv<|Lg.pig (g:=QD) (i:=k) U YK h U U H λhg hb=>pq (λ_ O=>Qr (hb.I O) U U) <|
  p Qv<|p Qv<|Lg.pig (g:=QD) (i:=k) U YK E U U I λhh he=>pq (λ_ O=>Qr (he.I O) U U)<|p (λ_=>(Vx (xs:=QD (l[k]'H)) (ys:=QD (l'[k]'I)) U U U).D (by rw[QiW]))<|pe ?_
 have V:=G.D (O5.C [] Y);refine QU rfl (λS=>?_) (λS=>?_)
 ·refine Qc<|Qb<|Qh ⟨[.bool false],La,?_,V⟩;have:l≠l':=λe=>by subst e;simp at S
  simp[tup,this]
 refine Qf<|Qs<|QH U U<|Qa<|xe<|⟨k+1,oa,La,V,oa,?_⟩;have e:l[k]'H=l'[k]'I:=by simpa using S
 rw[J,Zc H,Zc I,e];exact⟨λh=>(List.cons.inj h).2,λh=>by rw[h]⟩
theorem Qhm {v:O2}{l l':xw}(h:Zn L ↑w v l.length 2 (l.flatMap QD))(E:Zn L' ↑w v' l'.length 2 (l'.flatMap QD)):
  QY sV 154 [v,v'] w λr w'=>r=.bool (decide (l=l'))/\sX w w':=by
 have hf:=h.le;refine Zq func154 ?_;refine Qc<|Qb<|Qd<|Qj<|QF h U<|Qa<|QF E U<|Zx U U<|xe<|QO rfl (λT=>?_) (λT=>?_)
 ·refine Qc<|Qb<|Qh ⟨[.bool false],La,?_,O5.Z _ _⟩;have:l≠l':=λe=>T (by rw[e]);simp[tup,this]
 refine Qf<|Qd<|Qj<|QF h U<|Qa<|xe<|Q7 (α:=Nat) [(4,5),(13,25)] (λk=>[(13,sS k)]) (λk w'=>sX w w'/\k<=l.length/\(l=l'↔l.drop k=l'.drop k)) (λk=>l.length - k) 0 La ⟨O5.Z _ _,Lo _,od⟩ ?_;rintro k g Y ⟨G,hk,J⟩
 replace h:=h.I G
 replace E:=E.I G;refine Zo rfl U (λha=>?_) (λha=>?_)
 ·refine Qw<|Qc<|Qb<|Qh ⟨[.bool true],La,?_,G⟩;rw[Lt oa,Lt oa]at J;simp[tup,J]
 have H:k<l.length:=oa
 have I:k<l'.length:=oa
 refine Qf<|Qd<|Qm<|Qj<|Qb<|Qd<|Zz [] (YW 0 9 [])<|p Qv<|p Qv<|Lg.pig (g:=QD) (i:=k) U YK h U U H λhg hb=>pq (λ_ O=>Qr (hb.I O) U U) <|
  p Qv<|p Qv<|Lg.pig (g:=QD) (i:=k) U YK E U U I λhh he=>pq (λ_ O=>Qr (he.I O) U U)<|p (λ_=>(Vx (xs:=QD (l[k]'H)) (ys:=QD (l'[k]'I)) U U U).D (by rw[QiW]))<|pe ?_
 have V:=G.D (O5.C [] Y);refine QU rfl (λS=>?_) (λS=>?_)
 ·refine Qc<|Qb<|Qh ⟨[.bool false],La,?_,V⟩;have:l≠l':=λe=>by subst e;simp at S
  simp[tup,this]
 refine Qf<|Qs<|QH U U<|Qa<|xe<|⟨k+1,oa,La,V,oa,?_⟩;have e:l[k]'H=l'[k]'I:=by simpa using S
 rw[J,Zc H,Zc I,e];exact⟨λh=>(List.cons.inj h).2,λh=>by rw[h]⟩
theorem Uw {f:α->β}{l l':List α}(h:l.length≠l'.length):l.map f≠l'.map f:=λe=>h (by have:=OV oQ e;rwa [Lh,Lh]at this)
theorem VD {f:α->β}{l l':List α}{k:Nat}(h:k<l.length)(E:k<l'.length):(l.drop k).map f=(l'.drop k).map f↔f (l[k]'h)=f (l'[k]'E)/\(l.drop (k+1)).map f=(l'.drop (k+1)).map f:=by
 rw[LF h,LF E,LJ,LJ];exact List.cons_eq_cons
theorem QfR {v:O2}{l l':List IV}[Fu sV gf fn](h:Zn L ↑w v l.length 5 (l.flatMap QJ))(E:Zn L' ↑w v' l'.length 5 (l'.flatMap QJ))
  (h1:∀q∈l,Zb (QJ q)) (hl:∀q∈l',Zb (QJ q)) (hk:∀(k:Nat) (h:k<l.length) (E:k<l'.length) (G:O1),sX w G->QY sV gf [.agg (QJ (l[k]'h)).toArray,.agg (QJ (l'[k]'E)).toArray] G λr w'=>r=.bool (decide ((l[k]'h).it=(l'[k]'E).it))/\sX G w'):
  QY sV 148 [v,v',.func (.func gf) #[] #[]] w λr w'=>r=.bool (decide (l.map (·.it)=l'.map (·.it)))/\sX w w':=by
 have h4:=h.le;refine Zq func148 ?_;refine Qc<|Qb<|Qd<|Qj<|QF h U<|Qa<|QF E U<|Zx U U<|xe<|QO rfl (λhb=>?_) (λhb=>?_)
 ·refine Qc<|Qb<|Qh ⟨[.bool false],La,?_,O5.Z _ _⟩;have:l.map (·.it)≠l'.map (·.it):=Uw λe=>hb (by rw[e]);simp[tup,this]
 refine Qf<|Qd<|Qj<|QF h U<|Qa<|xe<|Q7 (α:=Nat) [(6,9),(17,31)] (λk=>[(17,sS k)]) (λk w'=>sX w w'/\k<=l.length/\(l.map (·.it)=l'.map (·.it)↔(l.drop k).map (·.it)=(l'.drop k).map (·.it))) (λk=>l.length - k) 0 La ⟨O5.Z _ _,Lo _,od⟩ ?_;rintro k g G ⟨J,hk1,O⟩;refine Zo rfl U (λhn=>?_) (λhn=>?_)
 ·refine Qw<|Qc<|Qb<|Qh ⟨[.bool true],La,?_,J⟩;rw[Lt oa,Lt oa]at O;simp[tup,O]
 have H:k<l.length:=oa
 have I:k<l'.length:=oa
 have T:=hk k H I;have S:=VD (f:=(·.it)) H I;have hm:=h1 _ (Lm H);have hc:=hl _ (Lm I);refine Qf<|Qd<|Qm<|Qj<|xig (g:=QJ) (i:=k) Yv (h.I J) U U H λh5 hf=>?_;refine Zf (l[k]'H) λq hq=>?_;rw[hq]at hf T hm S;refine x (Qr hf U U)<|QM [.string .empty,nS,sS 0,nS,nS] λb8 w2 ho hp hr=>x Qi<|QK (QJ q) hr hm λw3 ht hu=>xe ?_;have hg:sX G w3:=ho.O ht hp;refine Qj<|Qa<|xig (g:=QJ) (i:=k) Yv ((E.I J).I hg) U U I λh6 hh=>?_;refine Zf (l'[k]'I) λV hv=>?_;rw[hv]at hh T hc S;refine x (Qr hh U U)<|QM [.string .empty,nS,sS 0,nS,nS] λb9 w4 hw hy hz=>QK (QJ V) hz hc λw5 h0 h2=>xe ?_;have hi:sX w3 w5:=hw.O h0 hy;have Y:=(J.D hg).D hi;refine Qj<|QT (hu.I hi) U U<|QT h2 U U<|Qn<|xc (first:=[]) (capt:=[]) U<|(T w5 Y).Y ?_;rintro r6 w6 ⟨rfl,hj⟩;refine x (Zy U)<|xe<|QU rfl (λha=>?_) (λha=>?_)
 ·refine Qc<|Qb<|Qh ⟨[.bool false],La,?_,Y.D hj⟩;have h3:¬q.it=V.it:=by simpa using ha
  have:l.map (·.it)≠l'.map (·.it):=λe=>h3 (S.1 (O.1 e)).1;simp[tup,this]
 refine Qf ?_;have he:q.it=V.it:=by simpa using ha
 refine Qs<|QH U U<|Qa<|xe ?_;exact⟨k+1,oa,La,Y.D hj,oa,O.D (S.D ⟨λh=>h.2,λh=>⟨he,h⟩⟩)⟩
theorem Qm4 {v:O2}{l l':List XV}[Fu sV gf fn](h:Zn L ↑w v l.length 2 (l.flatMap Q3))(E:Zn L' ↑w v' l'.length 2 (l'.flatMap Q3))
  (h1:∀q∈l,Zb (Q3 q)) (hl:∀q∈l',Zb (Q3 q)) (hk:∀(k:Nat) (h:k<l.length) (E:k<l'.length) (G:O1),sX w G->QY sV gf [.agg (Q3 (l[k]'h)).toArray,.agg (Q3 (l'[k]'E)).toArray] G λr w'=>r=.bool (decide ((l[k]'h).x=(l'[k]'E).x))/\sX G w'):
  QY sV 149 [v,v',.func (.func gf) #[] #[]] w λr w'=>r=.bool (decide (l.map (·.x)=l'.map (·.x)))/\sX w w':=by
 have h4:=h.le;refine Zq func149 ?_;refine Qc<|Qb<|Qd<|Qj<|QF h U<|Qa<|QF E U<|Zx U U<|xe<|QO rfl (λhb=>?_) (λhb=>?_)
 ·refine Qc<|Qb<|Qh ⟨[.bool false],La,?_,O5.Z _ _⟩;have:l.map (·.x)≠l'.map (·.x):=Uw λe=>hb (by rw[e]);simp[tup,this]
 refine Qf<|Qd<|Qj<|QF h U<|Qa<|xe<|Q7 (α:=Nat) [(6,9),(17,31)] (λk=>[(17,sS k)]) (λk w'=>sX w w'/\k<=l.length/\(l.map (·.x)=l'.map (·.x)↔(l.drop k).map (·.x)=(l'.drop k).map (·.x))) (λk=>l.length - k) 0 La ⟨O5.Z _ _,Lo _,od⟩ ?_;rintro k g G ⟨J,hk1,O⟩;refine Zo rfl U (λhn=>?_) (λhn=>?_)
 ·refine Qw<|Qc<|Qb<|Qh ⟨[.bool true],La,?_,J⟩;rw[Lt oa,Lt oa]at O;simp[tup,O]
 have H:k<l.length:=oa
 have I:k<l'.length:=oa
 have T:=hk k H I;have S:=VD (f:=(·.x)) H I;have hm:=h1 _ (Lm H);have hc:=hl _ (Lm I);refine Qf<|Qd<|Qm<|Qj<|xig (g:=Q3) (i:=k) Xx (h.I J) U U H λh5 hf=>?_;refine Zf (l[k]'H) λq hq=>?_;rw[hq]at hf T hm S;refine x (Qr hf U U)<|QM [.string .empty,nS] λb8 w2 ho hp hr=>x Qi<|QK (Q3 q) hr hm λw3 ht hu=>xe ?_;have hg:sX G w3:=ho.O ht hp;refine Qj<|Qa<|xig (g:=Q3) (i:=k) Xx ((E.I J).I hg) U U I λh6 hh=>?_;refine Zf (l'[k]'I) λV hv=>?_;rw[hv]at hh T hc S;refine x (Qr hh U U)<|QM [.string .empty,nS] λb9 w4 hw hy hz=>QK (Q3 V) hz hc λw5 h0 h2=>xe ?_;have hi:sX w3 w5:=hw.O h0 hy;have Y:=(J.D hg).D hi;refine Qj<|QT (hu.I hi) U U<|QT h2 U U<|Qn<|xc (first:=[]) (capt:=[]) U<|(T w5 Y).Y ?_;rintro r6 w6 ⟨rfl,hj⟩;refine x (Zy U)<|xe<|QU rfl (λha=>?_) (λha=>?_)
 ·refine Qc<|Qb<|Qh ⟨[.bool false],La,?_,Y.D hj⟩;have h3:¬q.x=V.x:=by simpa using ha
  have:l.map (·.x)≠l'.map (·.x):=λe=>h3 (S.1 (O.1 e)).1;simp[tup,this]
 refine Qf ?_;have he:q.x=V.x:=by simpa using ha
 refine Qs<|QH U U<|Qa<|xe ?_;exact⟨k+1,oa,La,Y.D hj,oa,O.D (S.D ⟨λh=>h.2,λh=>⟨he,h⟩⟩)⟩
theorem Qm5 {v:O2}{l l':List KV}[Fu sV gf fn](h:Zn L ↑w v l.length 3 (l.flatMap Q9))(E:Zn L' ↑w v' l'.length 3 (l'.flatMap Q9))
  (h1:∀q∈l,Zb (Q9 q)) (hl:∀q∈l',Zb (Q9 q)) (hk:∀(k:Nat) (h:k<l.length) (E:k<l'.length) (G:O1),sX w G->QY sV gf [.agg (Q9 (l[k]'h)).toArray,.agg (Q9 (l'[k]'E)).toArray] G λr w'=>r=.bool (decide ((l[k]'h).k=(l'[k]'E).k))/\sX G w'):
  QY sV 152 [v,v',.func (.func gf) #[] #[]] w λr w'=>r=.bool (decide (l.map (·.k)=l'.map (·.k)))/\sX w w':=by
 have h4:=h.le;refine Zq func152 ?_;refine Qc<|Qb<|Qd<|Qj<|QF h U<|Qa<|QF E U<|Zx U U<|xe<|QO rfl (λhb=>?_) (λhb=>?_)
 ·refine Qc<|Qb<|Qh ⟨[.bool false],La,?_,O5.Z _ _⟩;have:l.map (·.k)≠l'.map (·.k):=Uw λe=>hb (by rw[e]);simp[tup,this]
 refine Qf<|Qd<|Qj<|QF h U<|Qa<|xe<|Q7 (α:=Nat) [(6,9),(17,31)] (λk=>[(17,sS k)]) (λk w'=>sX w w'/\k<=l.length/\(l.map (·.k)=l'.map (·.k)↔(l.drop k).map (·.k)=(l'.drop k).map (·.k))) (λk=>l.length - k) 0 La ⟨O5.Z _ _,Lo _,od⟩ ?_;rintro k g G ⟨J,hk1,O⟩;refine Zo rfl U (λhn=>?_) (λhn=>?_)
 ·refine Qw<|Qc<|Qb<|Qh ⟨[.bool true],La,?_,J⟩;rw[Lt oa,Lt oa]at O;simp[tup,O]
 have H:k<l.length:=oa
 have I:k<l'.length:=oa
 have T:=hk k H I;have S:=VD (f:=(·.k)) H I;have hm:=h1 _ (Lm H);have hc:=hl _ (Lm I);refine Qf<|Qd<|Qm<|Qj<|xig (g:=Q9) (i:=k) Xq (h.I J) U U H λh5 hf=>?_;refine Zf (l[k]'H) λq hq=>?_;rw[hq]at hf T hm S;refine x (Qr hf U U)<|QM [.string .empty,nS,sS 0] λb8 w2 ho hp hr=>x Qi<|QK (Q9 q) hr hm λw3 ht hu=>xe ?_;have hg:sX G w3:=ho.O ht hp;refine Qj<|Qa<|xig (g:=Q9) (i:=k) Xq ((E.I J).I hg) U U I λh6 hh=>?_;refine Zf (l'[k]'I) λV hv=>?_;rw[hv]at hh T hc S;refine x (Qr hh U U)<|QM [.string .empty,nS,sS 0] λb9 w4 hw hy hz=>QK (Q9 V) hz hc λw5 h0 h2=>xe ?_;have hi:sX w3 w5:=hw.O h0 hy;have Y:=(J.D hg).D hi;refine Qj<|QT (hu.I hi) U U<|QT h2 U U<|Qn<|xc (first:=[]) (capt:=[]) U<|(T w5 Y).Y ?_;rintro r6 w6 ⟨rfl,hj⟩;refine x (Zy U)<|xe<|QU rfl (λha=>?_) (λha=>?_)
 ·refine Qc<|Qb<|Qh ⟨[.bool false],La,?_,Y.D hj⟩;have h3:¬q.k=V.k:=by simpa using ha
  have:l.map (·.k)≠l'.map (·.k):=λe=>h3 (S.1 (O.1 e)).1;simp[tup,this]
 refine Qf ?_;have he:q.k=V.k:=by simpa using ha
 refine Qs<|QH U U<|Qa<|xe ?_;exact⟨k+1,oa,La,Y.D hj,oa,O.D (S.D ⟨λh=>h.2,λh=>⟨he,h⟩⟩)⟩
theorem Qek {a b:XD}:a=b↔(a.nm=b.nm/\a.a.st=b.a.st/\a.a.al=b.a.al/\a.a.mr=b.a.mr/\a.a.ed=b.a.ed):=by
 rw[QfE,Qgj];exact⟨λ⟨E,G,H,I,J⟩=>⟨E,H,G,I,J⟩,λ⟨E,G,H,I,J⟩=>⟨E,H,G,I,J⟩⟩
theorem QfS {q E:IV}(h:ZM [] ↑w q.p.va q.p.vm q.p.ve q.p.a)(S:ZM [] ↑w E.p.va E.p.vm E.p.ve E.p.a):
  QY sV 146 [sT (QJ q),sT (QJ E)] w λr w'=>r=.bool (decide (q.it=E.it))/\sX w w':=by
 refine Zq func146 ?_;refine Qc<|Zl (QJ q) λb2 Y T ha J=>Zl (QJ E) λb3 w2 H hb O=>Qb ?_;have G:=T.D H;refine Qc<|Qo U (J.I H) U U<|Qo U O U U<|xb (XW U U) (λI=>?_) (λI=>?_)
 ·refine Qa<|QQ U<|x (Qr (((J.I H).at (L:=[]) od).from 1) rfl rfl)<|QQ rfl<|x (Qr ((O.at (L:=[]) od).from 1) rfl rfl)<|Qz<|(QdH (h.I G) (S.I G)).Y ?_;rintro r4 w4 ⟨rfl,V⟩;refine QC U<|Qb<|Qh ⟨[.bool _],La,OV Value.bool (decide_eq_decide.2 ⟨λh=>Qek.2 ⟨I,h⟩,λh=>(Qek.1 h).2⟩),G.D V⟩
 refine Qa<|Zt<|Ys<|QC U<|Qb<|Qh ⟨[.bool false],La,OV Value.bool (OZ λh=>I (Qek.1 h).1).symm,G⟩
theorem Qm7 {q E:XV}(h:jT [] ↑w q.v q.ls)(S:jT [] ↑w E.v E.ls):
  QY sV 150 [sT (Q3 q),sT (Q3 E)] w λr w'=>r=.bool (decide (q.x=E.x))/\sX w w':=by
 refine Zq func150 ?_;refine Qc<|Zl (Q3 q) λb2 Y T ha J=>Zl (Q3 E) λb3 w2 H hb O=>Qb ?_;have G:=T.D H;refine Qc<|Qo U (J.I H) U U<|Qo U O U U<|xb (XW U U) (λI=>?_) (λI=>?_)
 ·refine Qa<|Qo U (J.I H) U U<|Qo U O U U<|Qz<|(Qhn (h.I G) (S.I G)).Y ?_;rintro r4 w4 ⟨rfl,V⟩;refine QC U<|Qb<|Qh ⟨[.bool _],La,OV Value.bool (decide_eq_decide.2 ⟨λh=>yf.2 ⟨I,h⟩,λh=>(yf.1 h).2⟩),G.D V⟩
 refine Qa<|Zt<|Ys<|QC U<|Qb<|Qh ⟨[.bool false],La,OV Value.bool (OZ λh=>I (yf.1 h).1).symm,G⟩
theorem Qm6 {q E:KV}(h:jT [] ↑w q.v q.ts)(T:jT [] ↑w E.v E.ts):
  QY sV 153 [sT (Q9 q),sT (Q9 E)] w λr w'=>r=.bool (decide (q.k=E.k))/\sX w w':=by
 refine Zq func153 ?_;refine Qc<|Zl (Q9 q) λb2 w1 V ha I=>Zl (Q9 E) λb3 w2 H hb J=>Qb ?_;have G:=V.D H;refine Qc<|Qo U (I.I H) U U<|Qo U J U U<|xb (XW U U) (λO=>?_) (λO=>?_)
 ·refine Qa<|Qo U (I.I H) U U<|Qo U J U U<|xb (QR U U) (λS=>?_) (λS=>?_)
  ·refine QC U<|Qa<|Qo U (I.I H) U U<|Qo U J U U<|Qz<|(Qhm (h.I G) (T.I G)).Y ?_;rintro r4 w4 ⟨rfl,Y⟩;refine QC U<|Qb<|Qh ⟨[.bool _],La,OV Value.bool (decide_eq_decide.2 ⟨λh=>qe.2 ⟨O,h,S⟩,λh=>(qe.1 h).2.1⟩),G.D Y⟩
  refine QC U<|Qa<|Zt<|Ys<|QC U<|Qb<|Qh ⟨[.bool false],La,OV Value.bool (OZ λh=>S (qe.1 h).2.2).symm,G⟩
 refine Qa<|Zt<|Ys<|QC U<|Qa<|Zt<|Ys<|QC U<|Qb<|Qh ⟨[.bool false],La,OV Value.bool (OZ λh=>O (qe.1 h).1).symm,G⟩
theorem UH {c G:CL}(h0:ZI L ↑w c)(ht:ZI L' ↑w G):
  QY sV 87 [c.val,G.val] w λr w'=>r=.bool (decide (c.V=G.V))/\sX w w':=by
 have h:=h0.up (L':=[]) od;have E:=ht.up (L':=[]) od;have Y:c.V=G.V↔(c.ev=G.ev/\c.co.map (·.it)=G.co.map (·.it)/\c.rq.map (·.it)=G.rq.map (·.it)/\c.ex.map (·.x)=G.ex.map (·.x)/\c.cs.map (·.k)=G.cs.map (·.k)):=Qgb;have hh:∀{b:Bool},(c.V=G.V->b=true)->b=false->Value.bool false=.bool (decide (c.V=G.V)):=λh1 h2=>OV Value.bool (OZ λe=>by rw[h1 e]at h2;cases h2).symm;have hi:∀{c:CL},ZI [] ↑w c->(∀q∈c.co,Zb (QJ q))/\∀q∈c.rq,Zb (QJ q):=λJ=>⟨λq H=>⟨U,(J.co.each q H).al.one,U,(J.co.each q H).mr.one,(J.co.each q H).ed.one,Z⟩,λq H=>⟨U,(J.rq.each q H).al.one,U,(J.rq.each q H).mr.one,(J.rq.each q H).ed.one,Z⟩⟩;have ho:∀{c:CL},ZI [] ↑w c->∀q∈c.ex,Zb (Q3 q):=λJ q H=>⟨U,(J.ex.each q H).one,Z⟩;have hp:∀{c:CL},ZI [] ↑w c->∀q∈c.cs,Zb (Q9 q):=λJ q H=>⟨U,(J.cs.each q H).one,U,Z⟩;refine Zq func87 ?_;refine Qc<|Zl c.cells λb2 w1 hu h4 hv=>Zl G.cells λb3 w2 hr h5 ha=>Qb ?_;have T:=hu.D hr;have hb:=hv.I hr;refine Qc<|Qb<|Qc<|Qo U hb U U<|Qo U ha U U<|Qz<|(Qho (h.ev.arr.I T) (E.ev.arr.I T)).Y ?_;rintro r1 w3 ⟨rfl,hj⟩;have he:=T.D hj;refine xB Ks (λe1=>?_) (λe1=>?_)
 rotate_left
 ·refine Zt<|Zt<|QC U<|Qa<|Zt<|Zt<|QC U<|Qa<|Zt<|Ys<|QC U<|Qa<|Zt<|Ys<|QC U<|Qb<|Qh ⟨[.bool false],La,hh (λe=>OX (Y.1 e).1) e1,he⟩
 refine Qo rfl (hb.I hj) U U<|Qo U (ha.I hj) U U<|Qa<|Qz<|(QfR (gf:=146) (h.co.arr.I he) (E.co.arr.I he) (hi h).1 (hi E).1
  (λk O S w' I=>QfS (((h.co.each _ (Lm O)).I he).I I) (((E.co.each _ (Lm S)).I he).I I))).Y ?_
 rintro r2 w4 ⟨rfl,hw⟩;have hl:=hj.D hw;have hf:=T.D hl;refine QC rfl<|xB Ks (λe2=>?_) (λe2=>?_)
 rotate_left
 ·refine Zt<|Zt<|QC U<|Qa<|Zt<|Ys<|QC U<|Qa<|Zt<|Ys<|QC U<|Qb<|Qh ⟨[.bool false],La,hh (λe=>OX (Y.1 e).2.1) e2,hf⟩
 refine Qo rfl (hb.I hl) U U<|Qo U (ha.I hl) U U<|Qa<|Qz<|(QfR (gf:=146) (h.rq.arr.I hf) (E.rq.arr.I hf) (hi h).2 (hi E).2
  (λk O S w' I=>QfS (((h.rq.each _ (Lm O)).I hf).I I) (((E.rq.each _ (Lm S)).I hf).I I))).Y ?_
 rintro r3 w5 ⟨rfl,hy⟩;have hm:=hl.D hy;have hg:=T.D hm;refine QC rfl<|xB Ks (λe3=>?_) (λe3=>?_)
 rotate_left
 ·refine Zt<|Ys<|QC U<|Qa<|Zt<|Ys<|QC U<|Qb<|Qh ⟨[.bool false],La,hh (λe=>OX (Y.1 e).2.2.1) e3,hg⟩
 refine Qo rfl (hb.I hm) U U<|Qo U (ha.I hm) U U<|Qz<|(Qm4 (gf:=150) (h.ex.arr.I hg) (E.ex.arr.I hg) (ho h) (ho E)
  (λk O S w' I=>Qm7 (((h.ex.each _ (Lm O)).I hg).I I) (((E.ex.each _ (Lm S)).I hg).I I))).Y ?_
 rintro r4 w6 ⟨rfl,hz⟩;have hn:=hm.D hz;have V:=T.D hn;refine QC rfl<|xB Ks (λe4=>?_) (λe4=>?_)
 rotate_left
 ·refine Zt<|Ys<|QC U<|Qb<|Qh ⟨[.bool false],La,hh (λe=>OX (Y.1 e).2.2.2.1) e4,V⟩
 refine Qo rfl (hb.I hn) U U<|Qo U (ha.I hn) U U<|Qz<|(Qm5 (gf:=153) (h.cs.arr.I V) (E.cs.arr.I V) (hp h) (hp E)
  (λk O S w' I=>Qm6 (((h.cs.each _ (Lm O)).I V).I I) (((E.cs.each _ (Lm S)).I V).I I))).Y ?_
 rintro r5 w7 ⟨rfl,h3⟩;refine QC rfl<|Qb<|Qh ⟨[.bool _],La,OV Value.bool (decide_eq_decide.2 ?_),V.D h3⟩;rw[Y];exact⟨λe=>⟨OY e1,OY e2,OY e3,OY e4,e⟩,λe=>e.2.2.2.2⟩
abbrev ZN (p:ByteArray×Int):LV:=[.string p.1,sS p.2]
theorem Qd0 (p:ByteArray×Int):(ZN p).length=2:=rfl
structure V4 (L:LN)(H:xA)(v:O2)(l:List (ByteArray×Int)):Prop where
 arr:Zn L H v l.length 2 (l.flatMap ZN)
 nm:∀q∈l,JF q.1
theorem V4.nil {L:LN}{H:xA}:V4 L H (nS) []:=⟨Zn.nil _ _ _,od⟩
theorem V4.I {L:LN}{w w':O1}{v:O2}{l:List (ByteArray×Int)}(h:V4 L ↑w v l)(E:sX w w'):V4 L ↑w' v l:=⟨h.arr.I E,h.nm⟩
theorem V4.st {L:LN}{w w':O1}{v:O2}{l:List (ByteArray×Int)}(h:V4 L ↑w v l)(E:O5 L w w'):V4 L ↑w' v l:=⟨h.arr.st E,h.nm⟩
theorem V4.up {L L':LN}{H:xA}{v:O2}{l:List (ByteArray×Int)}(h:V4 L H v l)(E:∀b∈L',b∈L\/H.size<=b):V4 L' H v l:=⟨h.arr.up E,h.nm⟩
structure DV where
 kd:Int
 nm:ByteArray
 p:AV
 vl:O2
 ls:List (ByteArray×Int)
 vt:O2
 ts:List (ByteArray×Int)
 bd:Int
def DV.it (q:DV):Yi:=⟨q.kd,q.nm,q.p.a,q.ls,q.ts,q.bd⟩
abbrev Qt (q:DV):LV:=[sS q.kd,.string q.nm,q.p.va,sS q.p.a.st,q.p.vm,q.p.ve,q.vl,q.vt,sS q.bd]
theorem Z1 (q:DV):(Qt q).length=9:=rfl
structure Jl (L:LN)(H:xA)(q:DV):Prop where
 nm:JF q.nm
 a:ZM L H q.p.va q.p.vm q.p.ve q.p.a
 ls:V4 L H q.vl q.ls
 ts:V4 L H q.vt q.ts
theorem Jl.I {L:LN}{w w':O1}{q:DV}(h:Jl L ↑w q)(E:sX w w'):Jl L ↑w' q:=⟨h.nm,h.a.I E,h.ls.I E,h.ts.I E⟩
theorem Jl.st {L:LN}{w w':O1}{q:DV}(h:Jl L ↑w q)(E:O5 L w w'):Jl L ↑w' q:=⟨h.nm,h.a.st E,h.ls.st E,h.ts.st E⟩
theorem Jl.up {L L':LN}{H:xA}{q:DV}(h:Jl L H q)(E:∀b∈L',b∈L\/H.size<=b):Jl L' H q:=⟨h.nm,h.a.up E,h.ls.up E,h.ts.up E⟩
theorem Jl.ones {q:DV}(h:Jl L H q):Zb (Qt q):=⟨U,U,h.a.al.one,U,h.a.mr.one,h.a.ed.one,h.ls.arr.one,h.ts.arr.one,U,Z⟩
structure Kd (L:LN)(H:xA)(v:O2)(qs:List DV):Prop where
 arr:Zn L H v qs.length 9 (qs.flatMap Qt)
 each:∀q∈qs,Jl L H q
theorem Kd.I {L:LN}{w w':O1}{v:O2}{qs:List DV}(h:Kd L ↑w v qs)(E:sX w w'):Kd L ↑w' v qs:=⟨h.arr.I E,λq G=>(h.each q G).I E⟩
theorem Kd.up {L L':LN}{H:xA}{v:O2}{qs:List DV}(h:Kd L H v qs)(E:∀b∈L',b∈L\/H.size<=b):Kd L' H v qs:=⟨h.arr.up E,λq G=>(h.each q G).up E⟩
section
variable {pS:String}
theorem QoA {x:O3}{k:IntKind}{a b:Int}(hx:ev f x=.int k a)(G:ev f y=.int k b):
  (execOp (ev f) ⟨d,.call ⟨.builtin .max,#[x,y],#[t,E]⟩,ty,pS,af,gd⟩).run P w=.ok (.value (.int k (if b > a then b else a))) w:=by
 simp[execOp,resolve,invoke,builtin,hx,G,run_max_int2]
end
def ixD {α:Type}(q:α->Bool)(es:List α):Int:=if es.findIdx q<es.length then(es.findIdx q:Int)else -1
theorem Qo9 {q:α->Bool}{es:List α}(h:∀e∈es,q e=false):ixD q es=-1:=by
 unfold ixD;rw[OT];rw[List.findIdx_eq_length.2 h];omega
theorem Qpa {q:α->Bool}{es:List α}{k:Nat}(E:k<es.length)(G:∀e∈es.take k,q e=false)(H:q (es[k]'E)=true):ixD q es=(k:Int):=by
 have h:es.findIdx q=k:=(List.findIdx_eq E).2 ⟨H,λj I=>G _ (List.mem_take_iff_getElem.2 ⟨j,oa,U⟩)⟩;unfold ixD;rw[h,OU E]
theorem QfB {v:O2}{es:List DV}[Fu sV g fn]{cap:LV}{q:DV->Bool}(h:Zn L ↑w v es.length 9 (es.flatMap Qt))
  (hk:∀e∈es,∀G:O1,sX w G->QY sV g ([sT (Qt e)]++cap) G λr w'=>r=.bool (q e)/\sX G w'):
  QY sV 158 [v,.func (.func g) #[] cap.toArray] w λr w'=>r=sS (ixD q es)/\sX w w':=by
 have hg:=h.le;refine Zq func158 ?_;refine Qc<|Qb<|Qd<|Qj<|QF h U<|Qa<|xe<|Q7 (α:=Nat) [(4,5),(8,18)] (λz=>[(8,sS z)]) (λz w'=>z<=es.length/\sX w w'/\∀m∈es.take z,q m=false) (λz=>es.length - z) 0 La ⟨Lo _,O5.Z _ _,λm S=>by simp at S⟩ ?_;rintro k g' G ⟨hh,H,J⟩;refine Zo rfl U (λT=>?_) (λT=>?_)
 ·refine Qw ?_;have hf:es.length<=k:=by have I:¬(k:Int)<(es.length:Int):=T;omega
  rw[Lu hf]at J;refine Qc<|Qb<|Qh ⟨[sS (-1)],La,OV sS (Qo9 J).symm,H⟩
 have E:k<es.length:=by have I:(k:Int)<(es.length:Int):=T;omega
 have V:es.take (k+1)=es.take k++[es[k]'E]:=Ln E;have Y:=λh2=>Qpa (q:=q) E J h2;have ha:=Lm E;refine Qf<|Qd<|Qm<|Qj<|Qb<|Qj<|Qa<|Qa<|xig (g:=Qt) (i:=k) Z1 (h.I H) U U E λhi hb=>?_;refine Zf (es[k]'E) λm S=>?_;rw[S]at hb V Y ha;refine x (Qr hb U U)<|Qn<|xc (first:=[]) (capt:=cap) U<|(hk m ha G H).Y ?_;rintro r2 w2 ⟨rfl,hc⟩;refine xe<|QU rfl (λI=>?_) (λI=>?_)
 ·refine Qj<|Qb<|Qh ⟨[sS k],La,OV sS (Y I).symm,H.D hc⟩
 refine Qf<|Qs<|QH U U<|Qa<|xe<|⟨k+1,oa,La,E,H.D hc,λm' he=>?_⟩;rw[V]at he;rcases Lc.1 he with O|O
 ·exact J m' O
 simp only[oJ]at O;subst O;exact I
theorem QjS {q:DV}{T1 T2:Nat}{k:Int}{n:ByteArray}(J:QZ ↑w b1 T1 [sS k])(O:QZ ↑w b2 T2 [.string n]):
  QY sV 214 [sT (Qt q),sP b1,sP b2] w λr w'=>r=.bool (Uz k n q.it)/\sX w w':=by
 refine Zq func214 ?_;refine Qc<|Zl (Qt q) λS T E V I=>Qb<|Qc<|Qo U I U U<|Xn (J.I E) U U<|xb (QR U U) (λG=>?_) (λG=>?_)
 ·refine Qa<|Qo U I U U<|Xn (O.I E) U U<|xb (XW U U) (λH=>?_) (λH=>?_)
  ·refine QC U<|Qb<|Qh ⟨[.bool true],La,OV Value.bool (by unfold Uz;rw[OX (show q.it.kd=k from G),OX (show q.it.nm=n from H)];rfl),E⟩
  refine QC U<|Qb<|Qh ⟨[.bool false],La,OV Value.bool (by unfold Uz;rw[OZ (show ¬q.it.nm=n from H),Bool.and_false]),E⟩
 refine Qa<|Zt<|KB<|QC U<|Qb<|Qh ⟨[.bool false],La,OV Value.bool (by unfold Uz;rw[OZ (show ¬q.it.kd=k from G),Bool.false_and]),E⟩
theorem Qhs (es:List DV)(k:Int)(n:ByteArray):es.findIdx (λq=>Uz k n q.it)=YH (es.map DV.it) k n:=by
 unfold YH;rw[List.findIdx_map];rfl
theorem yj {v:O2}{es:List DV}(h:Zn L ↑w v es.length 9 (es.flatMap Qt))(k:Int)(n:ByteArray):
  QY sV 129 [v,sS k,.string n] w λr w'=>(∃i:Int,r=.tuple #[sS i,.bool (Vc (es.map DV.it) k n)]/\(Vc (es.map DV.it) k n=true->i=(YH (es.map DV.it) k n:Int)))/\sX w w':=by
 have H:=Qhs es k n;refine Zq func129 ?_;refine Qc<|Zl [sS k] λS w1 T hc V=>Zl [.string n] λY w2 I he ha=>x Qi<|Qb ?_;have J:=T.D I;refine Qj<|x (ZD (l:=[]) (l':=[_,_]))<|Qz<|(QfB (q:=λq=>Uz k n q.it) (cap:=[sP S,sP Y]) (h.I J) (λe _ w5 O=>QjS ((V.I I).I O) (ha.I O))).Y ?_;rintro r3 w3 ⟨rfl,hb⟩;refine Qb<|Qj<|x (QoA U U)<|Qa<|x (YC U U)<|x Qi<|Qb<|Qh ⟨[sS (if(0:Int) > ixD (λq:DV=>Uz k n q.it) es then 0 else ixD (λq:DV=>Uz k n q.it) es),.bool (decide ((0:Int)<=ixD (λq:DV=>Uz k n q.it) es))],oB,⟨if(0:Int) > ixD (λq:DV=>Uz k n q.it) es then 0 else ixD (λq:DV=>Uz k n q.it) es,?_,?_⟩,J.D hb⟩
 ·have e:decide ((0:Int)<=ixD (λq:DV=>Uz k n q.it) es)=Vc (es.map DV.it) k n:=decide_eq_decide.2 (by
   unfold ixD;rw[H,Lh];split
   ·rename_i E;exact⟨λ_=>E,λ_=>oa⟩
   rename_i E;exact⟨λG=>oa,λG=>OW G E⟩)
  rw[e];rfl
 intro E;have G:YH (es.map DV.it) k n<es.length:=by have:=OY E;rwa [Lh]at this
 unfold ixD;rw[H,OU G];split <;> omega
theorem QkD {v:O2}(h:Zn L ↑w v n 2 cs)(V:∀u∈cs,u.oneCell'=true):
  QY sV 126 [v] w λr w'=>sX w w'/\w'.ownsRow ↑w 145 2 r n cs:=by
 have hb:=h.le;refine Zq func126 ?_;refine Qc<|Qb ?_;obtain⟨ao,cap,G⟩:=h.shape;refine Qd<|Qj<|x (XS (show ev _ _=_ from G) U)<|xe<|QU rfl (λI=>?_) (λI=>?_)
 ·refine Qc<|Qb<|Qh ⟨[nS],La,O5.Z _ _,?_⟩;rcases h.2.2 with⟨E,H⟩|⟨a,c,E,_⟩
  ·have J:cs=[]:=Ls (by rw[h.1,H]);subst J H;exact QE _ _ _ _
  rw[E]at G;cases G;cases I
 rcases h.2.2 with⟨E,H⟩|⟨a,c,E,H,J⟩
 ·rw[E]at G;injection G with e1;subst e1;cases I
 refine Qf<|Qc<|Qn<|XZ λb5 w1 O S T=>Qa<|Qn<|Q2 (base:=↑w) (T.own (n:=0) (sz:=2) U oa S) U (show ev _ _=_ from E) h.1 (J.I O) V oa (ov T.lt) λv2 w2 Y ha hc=>Qb<|Qh ⟨[v2],La,O.O ha S,?_⟩;simpa[tup]using Y
theorem QkC {v:O2}(h:Zn L ↑w v n 2 cs)(V:∀u∈cs,u.oneCell'=true):
  QY sV 127 [v] w λr w'=>sX w w'/\w'.ownsRow ↑w 147 2 r n cs:=by
 have hb:=h.le;refine Zq func127 ?_;refine Qc<|Qb ?_;obtain⟨ao,cap,G⟩:=h.shape;refine Qd<|Qj<|x (XS (show ev _ _=_ from G) U)<|xe<|QU rfl (λI=>?_) (λI=>?_)
 ·refine Qc<|Qb<|Qh ⟨[nS],La,O5.Z _ _,?_⟩;rcases h.2.2 with⟨E,H⟩|⟨a,c,E,_⟩
  ·have J:cs=[]:=Ls (by rw[h.1,H]);subst J H;exact QE _ _ _ _
  rw[E]at G;cases G;cases I
 rcases h.2.2 with⟨E,H⟩|⟨a,c,E,H,J⟩
 ·rw[E]at G;injection G with e1;subst e1;cases I
 refine Qf<|Qc<|Qn<|XZ λb5 w1 O S T=>Qa<|Qn<|Q2 (base:=↑w) (T.own (n:=0) (sz:=2) U oa S) U (show ev _ _=_ from E) h.1 (J.I O) V oa (ov T.lt) λv2 w2 Y ha hc=>Qb<|Qh ⟨[v2],La,O.O ha S,?_⟩;simpa[tup]using Y
theorem QkB {v:O2}(h:Zn L ↑w v n 2 cs)(V:∀u∈cs,u.oneCell'=true):
  QY sV 79 [v] w λr w'=>sX w w'/\w'.ownsRow ↑w 105 2 r n cs:=by
 have hb:=h.le;refine Zq func79 ?_;refine Qc<|Qb ?_;obtain⟨ao,cap,G⟩:=h.shape;refine Qd<|Qj<|x (XS (show ev _ _=_ from G) U)<|xe<|QU rfl (λI=>?_) (λI=>?_)
 ·refine Qc<|Qb<|Qh ⟨[nS],La,O5.Z _ _,?_⟩;rcases h.2.2 with⟨E,H⟩|⟨a,c,E,_⟩
  ·have J:cs=[]:=Ls (by rw[h.1,H]);subst J H;exact QE _ _ _ _
  rw[E]at G;cases G;cases I
 rcases h.2.2 with⟨E,H⟩|⟨a,c,E,H,J⟩
 ·rw[E]at G;injection G with e1;subst e1;cases I
 refine Qf<|Qc<|Qn<|XZ λb5 w1 O S T=>Qa<|Qn<|Q2 (base:=↑w) (T.own (n:=0) (sz:=2) U oa S) U (show ev _ _=_ from E) h.1 (J.I O) V oa (ov T.lt) λv2 w2 Y ha hc=>Qb<|Qh ⟨[v2],La,O.O ha S,?_⟩;simpa[tup]using Y
theorem QkE {v:O2}(h:Zn L ↑w v n 3 cs)(V:∀u∈cs,u.oneCell'=true):
  QY sV 80 [v] w λr w'=>sX w w'/\w'.ownsRow ↑w 110 3 r n cs:=by
 have hb:=h.le;refine Zq func80 ?_;refine Qc<|Qb ?_;obtain⟨ao,cap,G⟩:=h.shape;refine Qd<|Qj<|x (XS (show ev _ _=_ from G) U)<|xe<|QU rfl (λI=>?_) (λI=>?_)
 ·refine Qc<|Qb<|Qh ⟨[nS],La,O5.Z _ _,?_⟩;rcases h.2.2 with⟨E,H⟩|⟨a,c,E,_⟩
  ·have J:cs=[]:=Ls (by rw[h.1,H]);subst J H;exact QE _ _ _ _
  rw[E]at G;cases G;cases I
 rcases h.2.2 with⟨E,H⟩|⟨a,c,E,H,J⟩
 ·rw[E]at G;injection G with e1;subst e1;cases I
 refine Qf<|Qc<|Qn<|XZ λb5 w1 O S T=>Qa<|Qn<|Q2 (base:=↑w) (T.own (n:=0) (sz:=3) U oa S) U (show ev _ _=_ from E) h.1 (J.I O) V oa (ov T.lt) λv2 w2 Y ha hc=>Qb<|Qh ⟨[v2],La,O.O ha S,?_⟩;simpa[tup]using Y
theorem QkA {v:O2}(h:Zn L ↑w v n 4 cs)(V:∀u∈cs,u.oneCell'=true):
  QY sV 116 [v] w λr w'=>sX w w'/\w'.ownsRow ↑w 261 4 r n cs:=by
 have hb:=h.le;refine Zq func116 ?_;refine Qc<|Qb ?_;obtain⟨ao,cap,G⟩:=h.shape;refine Qd<|Qj<|x (XS (show ev _ _=_ from G) U)<|xe<|QU rfl (λI=>?_) (λI=>?_)
 ·refine Qc<|Qb<|Qh ⟨[nS],La,O5.Z _ _,?_⟩;rcases h.2.2 with⟨E,H⟩|⟨a,c,E,_⟩
  ·have J:cs=[]:=Ls (by rw[h.1,H]);subst J H;exact QE _ _ _ _
  rw[E]at G;cases G;cases I
 rcases h.2.2 with⟨E,H⟩|⟨a,c,E,H,J⟩
 ·rw[E]at G;injection G with e1;subst e1;cases I
 refine Qf<|Qc<|Qn<|XZ λb5 w1 O S T=>Qa<|Qn<|Q2 (base:=↑w) (T.own (n:=0) (sz:=4) U oa S) U (show ev _ _=_ from E) h.1 (J.I O) V oa (ov T.lt) λv2 w2 Y ha hc=>Qb<|Qh ⟨[v2],La,O.O ha S,?_⟩;simpa[tup]using Y
theorem jo {v:O2}(h:Zn L ↑w v n 2 cs)(V:∀u∈cs,u.oneCell'=true):
  QY sV 97 [v] w λr w'=>sX w w'/\w'.ownsRow ↑w 87 2 r n cs:=by
 have hb:=h.le;refine Zq func97 ?_;refine Qc<|Qb ?_;obtain⟨ao,cap,G⟩:=h.shape;refine Qd<|Qj<|x (XS (show ev _ _=_ from G) U)<|xe<|QU rfl (λI=>?_) (λI=>?_)
 ·refine Qc<|Qb<|Qh ⟨[nS],La,O5.Z _ _,?_⟩;rcases h.2.2 with⟨E,H⟩|⟨a,c,E,_⟩
  ·have J:cs=[]:=Ls (by rw[h.1,H]);subst J H;exact QE _ _ _ _
  rw[E]at G;cases G;cases I
 rcases h.2.2 with⟨E,H⟩|⟨a,c,E,H,J⟩
 ·rw[E]at G;injection G with e1;subst e1;cases I
 refine Qf<|Qc<|Qn<|XZ λb5 w1 O S T=>Qa<|Qn<|Q2 (base:=↑w) (T.own (n:=0) (sz:=2) U oa S) U (show ev _ _=_ from E) h.1 (J.I O) V oa (ov T.lt) λv2 w2 Y ha hc=>Qb<|Qh ⟨[v2],La,O.O ha S,?_⟩;simpa[tup]using Y
abbrev z9:LV:=[sS 0,.string .empty,nS,sS 0,nS,nS,nS,nS,sS 0]
theorem Qe6 (l:List (ByteArray×Int)):∀u∈l.flatMap ZN,u.oneCell'=true:=by
 intro u G;obtain⟨p,_,E⟩:=Me.1 G;simp only[ZN,oL,oK,or_false]at E;rcases E with rfl|rfl <;> rfl
theorem KK {q:DV}(h0:Jl L ↑w q):
  QY sV 69 [sT (Qt q)] w λr w'=>sX w w'/\∃q':DV,r=sT (Qt q')/\q'.it=q.it/\∀L:LN,(∀b∈L,b<↑w)->Jl L ↑w' q':=by
 have h:=h0.up (L':=[]) od;refine Zq func69 ?_;refine Qc<|Zl (Qt q) λb1 w1 hA hr hs=>QM z9 λb2 w2 ht hQ hy=>xe ?_;have hR:=hs.lt;have hS:=hy.lt;refine Qc<|QQ U<|x (Zh (us:=[q.p.va,sS q.p.a.st,q.p.vm,q.p.ve]) (hs.I ht) U U U)<|QM K5 λb3 w3 hB hC hE=>QK [q.p.va,sS q.p.a.st,q.p.vm,q.p.ve] hE ⟨h.a.al.one,U,h.a.mr.one,h.a.ed.one,Z⟩ λH hF hf=>xe ?_;have hg:sX w2 H:=hB.O hF hC;have hz:=(hA.D ht).D hg;have h4:=h.I hz;have hT:=hg.size;have h1:sX H { H with drawn:=H.drawn+1 }:=O5.C _ _
 refine Qd<|Zz [] [oE 0,oE 1,oE 3,oE 4,oE 5,oE 6,oE 8,oE 9,oF 2,oF 7,oF 10,oE 11,oE 12,oF 13]<|p (QG U)<|pq (λ_ G=>Qk (hf.I G) U U)<|p (QG U)<|pq (λ_ G=>Qk (hf.I G) U U) <|
  p (QG rfl)<|pq (λ_ G=>Qk (hf.I G) U U)<|p (QG U)<|pq (λ_ G=>Qk (hf.I G) U U) <|
  pk<|xg<|(Z3 (h4.a.al.I h1)).Y ?_
 rintro ra w5 ⟨hG,hh⟩;have hi:sX H w5:=h1.D hG;refine⟨hi,?_⟩;refine pk<|xg<|(Z3 (h4.a.mr.I hi)).Y ?_;rintro rm w6 ⟨h2,hj⟩;have hk:=hi.D h2;refine⟨hk,?_⟩;refine pk<|xg<|(Vd (h4.a.ed.I hk)).Y ?_;rintro re w7 ⟨hu,J⟩;have O:=hk.D hu;refine⟨O,?_⟩;refine p (λ_=>Qx ⟨xL hh,U,xL hj,xL J,Z⟩)<|p (QG U)<|pkk<|YL (us:=[ra,sS q.p.a.st,rm,re]) (cs':=[sS q.kd,.string q.nm,ra,sS q.p.a.st,rm,re,q.vl,q.vt,sS q.bd]) ((hs.I (ht.D hg)).I O) U U U od ⟨Qp hh,rfl,Qp hj,Qp J,Z⟩ rfl λI hl hv=>pe ?_;have hU:=O.size;have h3:sX w I:=(hz.D O).O hl hr;have hw:b2∉[b1]:=oh
 have h8:=h.I h3;have hV:=hl.size;have h5:sX I { I with drawn:=I.drawn+1 }:=O5.C _ _
 refine Qd<|Zz [] [oE 0,oE 1,oE 3,oE 4,oF 2,oE 6,oF 5,oF 7,oE 8,oF 9]<|p (QG U)<|pq (λ_ G=>Qk (hv.I G) U U)<|p (QG U)<|pq (λ_ G=>Qk (hv.I G) U U) <|
  pk<|xg<|(QkD (h8.ls.arr.I h5) (Qe6 q.ls)).Y ?_
 rintro rl w9 ⟨hH,hn⟩;have ho:sX I w9:=h5.D hH;refine⟨ho,?_⟩;refine p (QG U)<|pk<|xg<|(QkC (h8.ts.arr.I ho) (Qe6 q.ts)).Y ?_;rintro rt h6 ⟨h7,hp⟩;have S:=ho.D h7;refine⟨S,?_⟩;refine pkk<|Qu (j:=6) (u:=rl) (hv.I S) U U od (Qp hn) λhW T hI=>p (QG rfl)<|pkk<|Qu (j:=7) (u:=rt) hI rfl rfl od (Qp hp) λhJ V hK=>pe ?_;have hq:Zb [sS q.kd,.string q.nm,ra,sS q.p.a.st,rm,re,rl,rt,sS q.bd]:=⟨U,U,Qp hh,U,Qp hj,Qp J,Qp hn,Qp hp,U,Z⟩;refine Qc<|QT hK U U<|Qn<|Zv (us:=[sS q.kd,.string q.nm,ra,sS q.p.a.st,rm,re,rl,rt,sS q.bd]) ((((((hy.I hg).I O).J hl hw).I S).J T hw).J V hw) U U U U hq λhX h9 hM=>xe ?_;refine Qh ⟨[sT (Qt ⟨q.kd,q.nm,⟨ra,rm,re,q.p.a⟩,rl,q.ls,rt,q.ts,q.bd⟩)],⟨Yl hM,Z⟩,(((h3.D S).O T hr).O V hr).O h9 oa,_,U,U,λL hL=>?_⟩;have Y:∀b∈b1::b2::L,b<H.heap.size:=λb E=>by
  simp only[oL]at E;rcases E with rfl|rfl|E
  ·omega
  ·omega
  have:=hL b E;omega
 have e1:({ H with drawn:=H.drawn+1 }:O1).heap.size=H.heap.size:=rfl
 have e2:({ I with drawn:=I.drawn+1 }:O1).heap.size=I.heap.size:=rfl
 have hY:=hi.size;have hZ:=hk.size;have ga:=ho.size;have ha:QL (b1::b2::L) ↑w7 ra q.p.a.al:=((Qq.ints hh h.a.al.le (λb E=>ov (Y b E))).I h2).I hu;have hm:QL (b1::b2::L) ↑w7 rm q.p.a.mr:=(Qq.ints hj h.a.mr.le (λb E=>ov (Y b E))).I hu;have he:zP (b1::b2::L) ↑w7 re q.p.a.ed:=QB J h.a.ed.le (λb E hbL=>oy (Qg J b E).1 (Y b hbL));have hN:ZM (b1::b2::L) ↑w7 ra rm re q.p.a:=⟨ha,hm,he⟩;have hO:Zn (b1::b2::L) ↑h6 rl q.ls.length 2 (q.ls.flatMap ZN):=(QB hn h.ls.arr.le (λb E hbL=>oy (Qg hn b E).1 (Y b hbL)):Zn (b1::b2::L) ↑w9 rl _ 2 _).I h7;have hP:Zn (b1::b2::L) ↑h6 rt q.ts.length 2 (q.ts.flatMap ZN):=QB hp h.ts.arr.le (λb E hbL=>oy (Qg hp b E).1 (Y b hbL));have hD:Jl (b1::b2::L) ↑hJ ⟨q.kd,q.nm,⟨ra,rm,re,q.p.a⟩,rl,q.ls,rt,q.ts,q.bd⟩:=⟨h.nm,((((hN.st (hl.Y od)).I S).st (T.Y od)).st (V.Y od)),⟨(hO.st (T.Y od)).st (V.Y od),h.ls.nm⟩,⟨(hP.st (T.Y od)).st (V.Y od),h.ts.nm⟩⟩;exact(hD.st (h9.Y od)).up (λb E=>.inl (by simp[E]))
end Go.Lg
