/- Merged out of 85 texts. -/
import Derived.Test.YteekilnpgonojaaGreatDoorNfc
import Derived.Shelf.SlicesE.Compact
import Derived.Shelf.SlicesE.DeleteFunc
import Derived.Ground.SlgnProg
import Derived.ChangeSame
import Derived.Carry
import Derived.OpenShut
import Derived.RowKit
import Derived.ChangeSlices
import Derived.WideShapes
import Derived.ProofKit
import Derived.ChangeArms
import Derived.Lib.LaidTab
import Derived.Stop.LaidErr
import Derived.MakeChecks
import Derived.Laws.Small
import Derived.Scope
set_option maxHeartbeats 40000000
set_option maxRecDepth 100000
set_option linter.all false
open Go Go.Lg
open Go.Value renaming int->oE
open Go.IntKind renaming i64->oF
open _root_.List renaming mem_singleton->oH,not_mem_nil->oI,mem_cons->oK,length_append->oL,replicate->oM,length_singleton->oN,length->oO,getD->oP,range'->oQ,all_cons->oR,append_assoc->oT,length_cons->oU,range->oW,map_cons->oZ,length_drop->o6,length_take->o7,size_toArray->o9,flatMap_cons->Oa,map_append->Of,nil_append->Oi,length_set->Om,singleton_append->On,append_nil->Oq,mem_range'_1->Oz,mem_map->OE,flatMap_nil->OF,map_set->OL,map_nil->OM
open _root_.Bool renaming and_eq_true->oJ,false_eq_true->Ox,true_and->OH
open _root_.Nat renaming zero_add->oX,add_mul->Oj,lt_or_ge->OA,add_zero->OB,sub_zero->OC,mod_lt->OI,le_succ->OJ,zero_mul->OK,zero_le->ON
open _root_.Array renaming getElem?_eq_getElem->Od,getElem?_mapIdx->Oo
open _root_.Option renaming map_some->Ot,isSome_none->Ow
open _root_.Int renaming toNat_natCast->Ou
open Go renaming World->OX,Value->OY,Operand->OZ,Program->O0
open Go.Proofs Go.Proofs.Tryz
variable {w w' W':OX}{L L' X ds:LN}{n t i sz b T j g N E id ty b1 cap B kt lo hi b2 et G bp M gf:Nat}{H:xu}{cs us news capt:LV}{a:Q2}{α β:Type}{y:OZ}{z ve va vm vt v' vl vs vx vk vb:OY}{c:Zx}{l u ul out al rs:LI}{f f1:Fr}{P:O0}{fn:Func}{lf:Lf}{o:Oper}{s:Int}{es:List Ed}{d:xz}{af:xw}{gd:xj}{K:xr}{co:List YU}{k':IntKind}{qs:List IV}{pl:xo}{ops:xx}{ls:xq}
namespace Go.Lg
theorem QmE (G:ZD a)(J:a.st=(n:Int))(hl:lf.length=n):∀x∈nxs a ul lf,0<=x/\x<(n:Int):=λx hx=>by
 have E:=Qg9 x hx;have O:x.toNat<n:=by
  refine Decidable.byContradiction λh=>?_;unfold lft at E;simp[oP,List.getElem?_eq_none (show lf.length<=x.toNat by omega)]at E
 unfold nxs at hx;split at hx
 ·obtain⟨p,H,rfl⟩:=LC.1 hx;obtain⟨_,e,I,S,_⟩:=(j6 a ul lf).1 p H;have:=G.ed e I;omega
 have:=((Uu lf (dsts a lf) 0).1 x hx).2;omega
abbrev Q4:=Int×Int×Int×Int
abbrev q4C (x:Q4):LV:=[oE oF x.1,oE oF x.2.1,oE oF x.2.2.1,oE oF x.2.2.2]
def Qml (x:Q4):Rz:=if h:0<=x.1/\x.1<4096 then⟨x,h⟩else default
theorem QaF:∀l:List Rz,(l.map (·.1)).map Qml=l
 | []=>rfl
 | x::l=>by
  rw[LE,LE,QaF l];congr 1;unfold Qml;rw[dif_pos x.2]
theorem QkR (l:List Rz):(l.map (·.1)).flatMap q4C=l.flatMap qj:=by rw[List.flatMap_map]
def rmR (rk:Int)(r:Int×xq):List Q4:=r.2.map λp=>(p.1,rk,r.1,p.2)
def rmL (a:Q2)(ul:LI):Nat->Int->Lf->List Q4
 | 0,_,_=>[]
 | f+1,rk,lf=>if(nxs a ul lf).length=0 then[]else rmR rk (nxR a ul lf)++rmL a ul f (rk+1) ((nxs a ul lf).foldl cut lf)
theorem QgJ {f:Nat}{rk:Int}(h:(nxs a ul lf).length=0):rmL a ul f rk lf=[]:=by
 cases f with
 | zero=>rfl
 | succ f=>rw[rmL,OQ h]
theorem QgI {f:Nat}{rk:Int}(h:(nxs a ul lf).length≠0):rmL a ul (f+1) rk lf=rmR rk (nxR a ul lf)++rmL a ul f (rk+1) ((nxs a ul lf).foldl cut lf):=by rw[rmL,OP h]
def rmF (fb:LI):List Q4:=fb.map λy=>(y,1,1,-1)
def rmA (a:Q2)(fb ul:LI):List Q4:=rmF fb++rmL a ul (a.st.toNat+1) 2 (lf0 a.st.toNat fb)
def rmS (a:Q2)(fb ul:LI):List Q4:=(qi ((rmA a fb ul).map Qml)).map (·.1)
def kpI (lf:Lf)(n:Nat):LN:=(oW n).filter λi=>lf.getD i false
def kpK (lf:Lf)(n:Nat):LI:=(kpI lf n).map λi:Nat=>(i:Int)
def kpD (lf:Lf)(D:LI)(n:Nat):LI:=(kpI lf n).map λi=>O2 D i
theorem Qop (h:lf.getD n false=true):kpI lf (n+1)=kpI lf n++[n]:=by
 unfold kpI;rw[ND,L6,Mh,OQ h];rfl
theorem Qoq (h:lf.getD n false=false):kpI lf (n+1)=kpI lf n:=by
 unfold kpI;rw[ND,L6,Mh,OP (by rw[h];decide)];exact LK _
structure yC (L:LN)(H:xu)(c0 c1 c2:OY)(a:Q2)(fb ul:LI):Prop where
 k:QP L H c0 (kpK (jU a fb ul) a.st.toNat)
 d:QP L H c1 (kpD (jU a fb ul) (dsts a (jU a fb ul)) a.st.toNat)
 r:Zm L H c2 (rmS a fb ul).length 4 ((rmS a fb ul).flatMap q4C)
theorem yC.st {L:LN}{w w':OX}{c0 c1 c2:OY}{a:Q2}{fb ul:LI}(h:yC L w.heap c0 c1 c2 a fb ul)(E:O1 L w w'):yC L w'.heap c0 c1 c2 a fb ul:=⟨h.k.st E,h.d.st E,h.r.st E⟩
theorem yC.up {L L':LN}{H:xu}{c0 c1 c2:OY}{a:Q2}{fb ul:LI}(h:yC L H c0 c1 c2 a fb ul)(E:∀b∈L',b∈L\/H.size<=b):yC L' H c0 c1 c2 a fb ul:=⟨h.k.up E,h.d.up E,h.r.up E⟩
theorem QlU {rk rs:Int}:∀(l:xq),(∀x∈l.map (·.1),0<=x/\x<4096)->∃lz:List Rz,lz.flatMap qj=l.flatMap (rmC rk rs)/\lz.length=l.length/\lz.map (·.1)=rmR rk (rs,l)
 | [],_=>⟨[],U,U,U⟩
 | x::l,h=>by
  obtain⟨lz,E,G,H⟩:=QlU (rk:=rk) (rs:=rs) l (λy I=>h y (Lj _ I));exact⟨⟨(x.1,rk,rs,x.2),h x.1 Lq⟩::lz,by rw[LG,LG,E],by simp[G],by rw[LE,H];rfl⟩
theorem Qds:∀l:List Rz,∀u∈l.flatMap qj,u.oneCell'=true
 | [],u,h=>by cases h
 | x::l,u,h=>by
  rw[LG,Lc]at h;rcases h with h|h
  ·simp only[qj,oK,oI,or_false]at h;rcases h with rfl|rfl|rfl|rfl <;> rfl
  exact Qds l u h
theorem RzO.snoc {base:Nat}{v:OY}{l m:List Rz}(h:w.ownsRow base 241 4 v (l.length+m.length) (l.flatMap qj++m.flatMap qj)):RzO base w v (l++m):=by
 unfold RzO;rw[Ll,LB];exact h
abbrev KL (k d r:OY)(n:Int):LV:=[k,d,r,oE oF n,nS,oE oF 0,nS,nS,nS]
structure ReI (b10:Nat)(q:Pz)(wB:OX)(lf:Lf)(rn:Int)(vr:OY)(lz:List Rz)(w:OX):Prop where
 st:O1 [b10,q.bl] wB w
 B10:Q9 w.heap b10 224 (KL (nS) (nS) vr rn)
 R:RzO wB.heap.size w vr lz
 F:Q9 w.heap q.bl 4 (lf.map Value.bool)
 n:lf.length=q.n
section
variable {b10:Nat}{q:Pz}{wB w'':OX}{rn:Int}{vr:OY}{lz:List Rz}
theorem ReI.I (h:ReI b10 q wB lf rn vr lz w)(E:O1 [] w w'):ReI b10 q wB lf rn vr lz w':=⟨h.st.D E,h.B10.I E,Qq h.R E,h.F.I E,h.n⟩
theorem ReI.cut (h:ReI b10 q wB lf rn vr lz w)(l:q.bl<wB.heap.size)(ne:b10≠q.bl)(G:O1 [q.bl] w w'){H:Lf}(I:Q9 w'.heap q.bl 4 (H.map Value.bool))(J:H.length=q.n):ReI b10 q wB H rn vr lz w' :=
 ⟨h.st.then G (λb E=>.inl (by simp only[oH]at E;simp[E])),h.B10.J G (oy ne),Qf h.R G (λb E=>by have:=(Qi h.R b E).1;simp only[oH];omega),I,J⟩
theorem ReI.app (h:ReI b10 q wB lf rn vr lz w)(l:q.bl<wB.heap.size)(T:b10<wB.heap.size)(ne:b10≠q.bl){G:OY}{I:List Rz}{J:Int}(O:O1 (ob vr) w w')(hR:RzO wB.heap.size w' G I)(H:O1 [b10] w' w'')
  (S:Q9 w''.heap b10 224 (KL (nS) (nS) G J)):ReI b10 q wB lf J G I w'':=by
 have hge:=Qi h.R;exact⟨(h.st.then O (λb E=>.inr (hge b E).1)).then H (λb E=>.inl (by simp only[oH]at E;simp[E])),S,Qf hR H (λb E=>by have:=(Qi hR b E).1;simp only[oH];omega),
  (h.F.J O (λE=>ot (hge _ E).1)).J H (oy ne.symm),h.n⟩
theorem ReI.rounds (h:ReI b10 q wB lf rn vr lz w)(J:b10<wB.heap.size)(ne:b10≠q.bl){H:Int}(G:O1 [b10] w w')(I:Q9 w'.heap b10 224 (KL (nS) (nS) vr H)):ReI b10 q wB lf H vr lz w' :=
 ⟨h.st.then G (λb E=>.inl (by simp only[oH]at E;simp[E])),I,Qf h.R G (λb E=>by have:=(Qi h.R b E).1;simp only[oH];omega),h.F.J G (oy ne.symm),h.n⟩
end
theorem QeM {vf vu:OY}{forb unc:LI}(h:ZH [] w.heap va vm ve a)(h7:ZD a)(hf:QP [] w.heap vf forb)(ke:∀x∈forb,0<=x/\x<a.st)(hfl:forb.length<=4096)(hu:QP [] w.heap vu unc):
  Q3 prog 164 [.agg #[va,oE oF a.st,vm,ve],vf,vu,.bool true] w λr w'=>O1 [] w w'/\∃c0 c1 c2 c3 sa sm se o,r=.agg #[c0,c1,c2,c3,sa,oE oF (jL a forb unc).st,sm,se,o] /\
   Zp [c0,c1,c2,c3,o]/\∀L:LN,(∀b∈L,b<w.heap.size)->ZH L w'.heap sa sm se (jL a forb unc)/\yC L w'.heap c0 c1 c2 a forb unc:=by
 have hst0:=h7.st0;have hst1:=h7.st1;obtain⟨n,hn⟩:∃n:Nat,a.st=n:=⟨a.st.toNat,oa⟩;have h8:a.st.toNat=n:=oa
 have hS:jL a forb unc=Qgs a (zf a unc (n+1) (lf0 n forb)):=by unfold jL jU;rw[h8]
 have ms:rmA a forb unc=rmF forb++rmL a unc (n+1) 2 (lf0 n forb):=by unfold rmA;rw[h8]
 have gm:jU a forb unc=zf a unc (n+1) (lf0 n forb):=by unfold jU;rw[h8]
 refine Zo (jL a forb unc) λSA mt=>?_;rw[mt]at hS ⊢;refine Zq func164 ?_;refine Qc<|Qe<|QW (us:=[va,oE oF a.st,vm,ve]) U λb4 w1 kf hb4 mu=>Qe<|Qo (us:=KL (nS) (nS) (nS) 0) U λb8 w2 kg hb8 kh=>xe ?_;have hT:=kf.D kg;have hl8:=kh.lt;have hz1:=kf.size;refine Qc<|Q6 (mu.I kg) U U<|Qa<|Qa<|QM<|(Qgu (h.I hT) h7 hn (hf.I hT) ke (hu.I hT)).mono ?_;rintro r3 w3 ⟨ki,bp,q,rfl,mv,mw,my,hbl,hP,hF⟩;refine Qb ?_;subst mv mw my;have hq:PzQ q:=⟨h7,hn⟩;have mz:=hT.D ki;have hlF:=hF.lt;refine Qc<|Qe<|Qo (us:=KL (nS) (nS) (nS) 0) U λb10 O h9 m2 kj=>xe ?_;have gn:=mz.D h9;have hz4:=h9.size;have hU:=kj.lt;have ht:b10≠q.bl:=oa
 have go:q.bl<O.heap.size:=oa
 have m3:PzA [b10,q.bl] O.heap bp q:=(hP.up (λb E=>by
  simp only[oK,oI,or_false]at E;rcases E with rfl|rfl
  ·exact .inr m2
  exact .inl oe)).I h9
 have m4:=Qkx q.n forb;have hA:∀{w'},O1 [b10,q.bl] O w'->PzA [] w'.heap bp q:=λhs=>(m3.st hs).up oe;refine Qd<|Qm<|QI (hf.I gn) U<|Qa<|xe<|Qg<|QD (α:=Nat×Int×OY×List Rz) [(12,12),(25,39)] (λz=>[(25,oE oF z.1)]) (λz w'=>z.1<=forb.length/\ReI b10 q O (lf0 q.n forb) z.2.1 z.2.2.1 z.2.2.2 w'/\z.2.2.2.length=z.1/\(z.2.1=0\/z.2.1=1)/\z.2.2.2.map (·.1)=rmF (forb.take z.1)) (λz=>forb.length - z.1) ol (0,0,nS,[]) La
  ⟨Lo _,⟨O1.Z _ _,kj,QJ _ _ _ _,hF.I h9,m4⟩,U,.inl U,U⟩ ?_
 rintro⟨k,rn,vr,lz⟩ g w5 ⟨hk,I,gp,hV,hW⟩;simp only[]at hk I gp hV hW;have m5:QP [] w5.heap vf forb:=((hf.up (L':=[b10,q.bl]) (λb E=>by
  simp only[oK,oI,or_false]at E;exact .inr oa)).I gn |>.st I.st).up oe
 refine Qc<|Q0 U U<|xe<|Qd<|QH U (λgq=>?_) (λgq=>?_)
 ·refine Qz ?_;have hcl:=Qlp (lf0 q.n forb);have m6:forb.length<=k:=by have hX:¬(k:Int)<(forb.length:Int):=gq;omega
  rw[Lr m6]at hW;refine Qd<|Qc<|Qb<|Qg<|QD (α:=Nat×Nat×Int×OY×List Rz×Lf) [(13,14),(16,16),(40,71)] (λz=>[(13,oE oF z.2.1)])
   (λz w'=>ReI b10 q O z.2.2.2.2.2 z.2.2.1 z.2.2.2.1 z.2.2.2.2.1 w'/\z.2.1+z.1=q.n+3/\z.2.2.2.2.1.length<=4096+z.2.1*1000000/\zf q.a q.unc z.1 z.2.2.2.2.2=zf q.a q.unc (q.n+1) (lf0 q.n forb)/\VJ z.2.2.2.2.2+1<=z.1/\z.2.2.2.2.1.map (·.1)++rmL q.a q.unc z.1 (z.2.1:Int) z.2.2.2.2.2=rmA q.a forb q.unc) (λz=>z.1) ol
   (q.n+1,2,rn,vr,lz,lf0 q.n forb) La ⟨I,oh,oh,U,oh,by rw[ms];simp only[hW];rfl⟩ ?_
  rintro⟨f,rank,rn,vr,lz,lf⟩ g w6 ⟨I,m7,gp,hB,m8,hC⟩;simp only[]at I m7 gp hB m8 hC;refine Qd<|Qg<|Qm<|Qa<|Qa<|QM<|(QgY (hA I.st) hq I.F I.n rank).mono ?_;rintro r7 w7 ⟨hY,hE,kk⟩;have hh:=Qkk q.a q.unc lf;have kn:=λ(f:Nat) (h:(nxs q.a q.unc lf).length≠0)=>QgI (a:=q.a) (ul:=q.unc) (f:=f) (rk:=(rank:Int)) (lf:=lf) h;refine Zo (nxR q.a q.unc lf) λNR m9=>?_;rw[m9]at hE kk hh kn;obtain⟨rs,l⟩:=NR;simp only[]at hE kk hh;refine Qb ?_;have T:=I.I hY;have ko:Zm [] w7.heap r7 l.length 4 (l.flatMap (rmC rank rs)):=QK hE oa oe;have gr:(nxs q.a q.unc lf).length=l.length:=by rw[<-hh,Lh]
  have gs:=QmE (ul:=q.unc) h7 hn I.n;rw[<-hh]at gs;refine Qd<|Qm<|QI ko U<|x (QY U U)<|xe<|QX U (λgt=>?_) (λgt=>?_)
  ·refine Qz ?_;have hG:l.length=0:=by have h49:(l.length:Int)=0:=gt;omega
   rw[QeO (by rw[gr];exact hG)]at hB;rw[QgJ (by rw[gr];exact hG),LK]at hC;rw[<-hB]at hS gm;refine Qc<|Q7 U<|Qs U T.B10 U U<|QM<|(QeD T.R oa).mono ?_;rintro r8 V ⟨he,gu⟩;have pa:rmS q.a forb q.unc=(qi lz).map (·.1):=by unfold rmS;rw[<-hC,QaF]
   refine xe ?_;have hge:=Qi T.R;have gv:O1 [b10,q.bl] O V:=T.st.then he (λb E=>.inr (hge b E).1);have gw:Q9 V.heap b10 224 (KL (nS) (nS) vr rn):=T.B10.J he (λE=>ot (hge _ E).1);have kq:Q9 V.heap q.bl 4 (lf.map Value.bool):=T.F.J he (λE=>ot (hge _ E).1);have kr:=Qu gu;have hz8:=gv.size;refine Qd<|Qm<|QM<|(Uk (hA gv) hq kq T.n).mono ?_;rintro r9 H ⟨Y,bD,rfl,hbD,kt,hZ⟩;refine Zo (dsts q.a lf) λD hD=>?_;rw[hD]at kt hZ;have ku:QP [b10] H.heap (.slice (some ⟨bD,0,none⟩) q.n q.n) D:=by
    have S:=kt.arr (L:=[b10]) om (n:=q.n) (cap:=q.n) (sz:=1) (by simp[hZ]) oa (Lv _);unfold QP;rw[hZ];exact S
   have pc:=gv.D Y;have hz9:=Y.size;have pd:=kq.I Y;refine QI ku U<|Qa<|xe<|Qg<|QD (α:=Nat×OY×OY×LI×LI) [(17,18),(79,107)] (λz=>[(79,oE oF z.1)])
    (λz w'=>z.1<=D.length/\O1 [b10] H w'/\Q9 w'.heap b10 224 (KL z.2.1 z.2.2.1 vr rn)/\Qv 3 H.heap.size w' z.2.1 z.2.2.2.1/\Qv 3 H.heap.size w' z.2.2.1 z.2.2.2.2/\Dj z.2.1 z.2.2.1/\z.2.2.2.1.length<=z.1/\z.2.2.2.2.length<=z.1/\z.2.2.2.1=kpK lf z.1/\z.2.2.2.2=kpD lf D z.1) (λz=>D.length - z.1) ol (0,nS,nS,[],[]) La
    ⟨Lo _,O1.Z _ _,gw.I Y,QJ _ _ _ _,QJ _ _ _ _,Dj.nil' _,Lv _,Lv _,U,U⟩ ?_
   rintro⟨i,vk,vd,lk,ld⟩ g hH ⟨hi,ha,hJ,hK,hp,ga,pf,pg,gb,gc⟩;simp only[]at hi hJ hK hp ga pf pg gb gc;have hz10:=ha.size;have gg:O1 [b10,q.bl] O hH:=pc.then ha (λb E=>.inl (by simp only[oH]at E;simp[E]));have kv:Q9 hH.heap q.bl 4 (lf.map Value.bool):=pd.J ha (oy ht.symm);refine Qc<|Q0 U U<|xe<|Qd<|QH U (λgx=>?_) (λgx=>?_)
   ·refine Qz<|Qm<|QM<|(zl (hA gg) hq kv T.n).mono ?_;rintro r11 ph ⟨hr,_,o,rfl,⟨sa,sm,se,rfl,gy⟩,gz⟩;rw[<-hS]at gy;have hv:=gy [] oe;refine Qa<|QZ U U<|QZ U U<|Q7 U<|Qe<|Yx (us:=[sa,oE oF SA.st,sm,se]) (hJ.I hr) U (by rw[<-hS];rfl) U oe ⟨hv.al.one,rfl,hv.mr.one,hv.ed.one,Z⟩ rfl λw12 gh pj =>
     Q7 rfl<|Qe<|QE (j:=8) (u:=o) pj U U oe gz λw13 gi pm=>xe ?_
    have pn:b8∉[b10,q.bl]:=by simp only[oK,oI,or_false];omega
    have kw:b8∉[b10]:=om
    have po:=(((((kh.I (ki.D h9)).J gg pn).I hr).J gh kw).J gi kw);refine Qc<|Q6 pm U U<|Qe<|Qj (us:=[vk,vd,vr,oE oF rn,sa,oE oF SA.st,sm,se,o]) po U U U U ⟨Qu hK,Qu hp,kr,U,hv.al.one,U,hv.mr.one,hv.ed.one,gz,Z⟩ λpp g0 pu=>xe ?_;have pw:∀b∈[b10,q.bl],w.heap.size<=b:=λb E=>by simp only[oK,oI,or_false]at E;omega
    have pz:O1 [] w pp:=((((gn.then gg (λb E=>.inr (pw b E))).D hr).O gh oa).O gi oa).O g0 oa;refine Qk ⟨[.agg #[vk,vd,vr,oE oF rn,sa,oE oF SA.st,sm,se,o]],⟨⟨_,U,Qn U (pu.at (L:=[]) oe).cells⟩,Z⟩,pz,vk,vd,vr,oE oF rn,sa,sm,se,o,rfl,⟨Qu hK,Qu hp,kr,rfl,gz,Z⟩,λL hL=>?_⟩;have gj:∀N,O.heap.size<=N->∀b∈b10::b8::L,b<N:=λN hN b E=>by
     simp only[oK]at E;rcases E with rfl|rfl|E
     ·omega
     ·omega
     have:=hL b E;omega
    have S:=gy (b10::b8::L) (gj _ oa);have h2:=((S.st (gh.mono oe)).st (gi.mono oe)).st (g0.mono oe);have p0:i=q.n:=by have p1:¬(i:Int)<(D.length:Int):=gx;omega
    subst p0;have hrl:(qi lz).length=lz.length:=qZ lz;have h3:yC (b10::b8::L) hH.heap vk vd vr q.a forb q.unc:=by
     refine⟨?_,?_,?_⟩
     ·rw[gm,h8,<-gb];exact Qv.ints hK oa (gj _ oa)
     ·rw[gm,h8,hD,<-gc];exact Qv.ints hp oa (gj _ oa)
     rw[pa,Lh,QkR];have p2:=Qi gu;refine(((QK gu oa (λb E hbL=>ou (p2 b E).1 (gj _ (Lv _) b hbL)):Zm (b10::b8::L) V.heap vr (qi lz).length 4 ((qi lz).flatMap qj)).I Y).st (ha.mono oe))
    have h4:=((((h3.st (hr.any)).st (gh.mono oe)).st (gi.mono oe)).st (g0.mono oe)).up (L':=L) (λb E=>.inl (by simp[E]));exact⟨h2.up (λb E=>.inl (by simp[E])),h4⟩
   refine Qh ?_;have hw:i<D.length:=by have p1:(i:Int)<(D.length:Int):=gx;omega
   have g2:i<lf.length:=by rw[T.n,<-hZ];exact hw
   have p3:lf[i]'g2=lf.getD i false:=by simp[oP,g2]
   refine Qd<|Qg<|Qm<|xii (i:=i) (ku.st ha) U U hw λa82 kx=>?_;refine Zo (D[i]'hw) λd hd=>?_;rw[hd]at kx;refine x (QA kx U)<|x Ql<|Qb<|Qm<|Yl U<|Qs U (hA gg).B U U<|Qa<|x (Zv (i:=i) U U oa)<|x (v:=.bool (lf.getD i false)) ((JN (i:=i) kv U g2).D (by rw[p3]))<|xe<|QQ U (λg3=>?_) (λg3=>?_)
   ·have hM:∀{v:OY} {l:LI} {w':OX},Qv 3 H.heap.size w' v l->b10∉ob v:=λho G=>ot (Qi ho b10 G).1
    refine Qc<|Q7 U<|Qs U hJ U U<|Qa<|Qe<|QB (us:=[[oE oF i]]) U U og oe ⟨rfl,rfl,Z⟩ λb95 y1 hz hb95 p4=>Qe<|Zb (m:=1) (news:=[oE oF i]) (L:=[]) (Qq hK hz) rfl rfl rfl (p4.at oe) (by simp[Value.oneCell']) oa (ot hz.size) λhO y2 kz gk p5 =>
     Q7 rfl<|Q7 U<|Qe<|QE (j:=0) (u:=hO) ((hJ.I hz).J gk (hM hK)) U U oe (Qu kz) λy3 g4 k0=>xe ?_
    have p6:Qv 3 H.heap.size y2 hO (lk++[(i:Int)]):=Qv.snoc kz;have hzy1:=hz.size;have hzy2:=gk.size;have hzy3:=g4.size;have p7:Qv 3 H.heap.size y2 vd ld:=Qf (Qq hp hz) gk (λb E G=>ga b G E);have k4:Dj hO vd:=λb E G=>by
     rcases p5 b E with S|S
     ·exact ga b S G
     have:=Zf hp b G;omega
    have k5:∀{v:OY} {l:LI},Qv 3 H.heap.size y2 v l->Qv 3 H.heap.size y3 v l:=λho=>Qf ho g4 (λb E G=>by simp only[oH]at G;subst G;exact hM ho E);have k6:=k5 p6;have hD3:=k5 p7;have p8:O1 [b10] H y3:=(((ha.D hz).then gk (λb E=>.inr (Qi hK b E).1))).Q g4;refine Qw<|Q7 U<|Qs U k0 U U<|Qa<|Qe<|QB (us:=[[oE oF d]]) U U og oe ⟨rfl,rfl,Z⟩ λb103 y4 h5 hb103 p9=>Qe<|Zb (m:=1) (news:=[oE oF d]) (L:=[]) (Qq hD3 h5) rfl rfl rfl (p9.at oe) (by simp[Value.oneCell']) oa (ot h5.size) λg5 y5 k7 g6 qc =>
     Q7 rfl<|Q7 U<|Qe<|QE (j:=1) (u:=g5) ((k0.I h5).J g6 (hM hD3)) U U oe (Qu k7) λy6 g7 qo=>xe ?_
    have k8:Qv 3 H.heap.size y5 g5 (ld++[d]):=Qv.snoc k7;have k9:=Qop (lf:=lf) (n:=i) g3;have qr:O2 D i=d:=by unfold O2;simp[oP,hw,hd]
    have ma:Qv 3 H.heap.size y5 hO (lk++[(i:Int)]):=Qf (Qq k6 h5) g6 (λb E G=>k4 b E G);have hzy4:=h5.size;refine Qw<|QS U U<|Qa<|xe<|⟨(i+1,hO,g5,_,_),oh,La,hw,(((p8.D h5).then g6 (λb E=>.inr (Qi hD3 b E).1))).Q g7,qo,Qf ma g7 (λb E G=>by simp only[oH]at G;subst G;exact hM ma E),Qf k8 g7 (λb E G=>by simp only[oH]at G;subst G;exact hM k8 E),λb E G=>?_,by simp only[oL,oN];omega,by simp only[oL,oN];omega,by simp only[];unfold kpK;rw[k9,Lt,gb];rfl,by simp only[];unfold kpD;rw[k9,Lt,gc,<-qr];rfl⟩;rcases qc b G with S|S
    ·exact k4 b E S
    have:=Zf k6 b E;omega
   refine Qh<|Qw<|QS U U<|Qa<|xe ?_;have mf:=Qoq (lf:=lf) (n:=i) g3;exact⟨(i+1,vk,vd,lk,ld),oh,La,hw,ha,hJ,hK,hp,ga,oh,oh,by unfold kpK;rw[mf];exact gb,by unfold kpD;rw[mf];exact gc⟩
  refine Qh ?_;have hG:¬l.length=0:=λe=>gt (by show(l.length:Int)=0;omega);have g8:(nxs q.a q.unc lf).length≠0:=by rw[gr];exact hG
  have q0:=Qha g8;refine Exists.elim (Nat.exists_eq_succ_of_ne_zero (show f≠0 by omega)) λf' q1=>?_;subst q1;rw[QeN g8,<-hh]at hB;rw[kn f' g8,<-hh]at hC;rw[<-hh]at q0;refine Exists.elim (QlU (rk:=(rank:Int)) (rs:=rs) l (λx hx=>ot (gs x hx))) λln h6=>?_;refine Qd<|Qm<|QI ko U<|Qa<|xe<|Qg<|QD (α:=Nat) [(16,16),(51,62)] (λz=>[(51,oE oF z)]) (λz w'=>z<=l.length/\O1 [q.bl] w7 w'/\ReI b10 q O (((l.take z).map (·.1)).foldl cut lf) rn vr lz w') (λz=>l.length - z) ol 0 La ⟨Lo _,O1.Z _ _,T⟩ ?_;rintro j g V ⟨hj,he,J⟩;have hV:∀b∈ob r7,b≠q.bl:=λb E e=>ou (Qi hE b E).1 I.st.size
  have q2:RmO w6.heap.size V r7 rank rs l:=Qf hE he (λb E G=>hV b E (oy G));have mg:Zm [q.bl] V.heap r7 l.length 4 (l.flatMap (rmC rank rs)):=QK q2 oa (λb E G=>hV b E (oy G));refine Qc<|Q0 U U<|xe<|Qd<|QH U (λg9=>?_) (λg9=>?_)
  ·refine Qz ?_;have q3:l.length<=j:=by have gl:¬(j:Int)<(l.length:Int):=g9;omega
   rw[Lr q3]at J;obtain⟨ad,cap7,q4,_,q6⟩:∃ad cap,r7=.slice (some ad) l.length cap/\l.length<=cap/\At [q.bl] V.heap ad (l.flatMap (rmC rank rs)):=by
    rcases mg.2.2 with⟨_,h0⟩|S
    ·exact OS h0 hG
    exact S
   refine Qc<|Q7 U<|Qs U J.B10 U U<|Qa<|Qe<|Zb (m:=l.length) (news:=l.flatMap (rmC rank rs)) (L:=[q.bl]) J.R U q4 (by rw[<-h6.1,jR,h6.2.1]) q6 (by rw[<-h6.1];exact Qds ln) oa J.st.size λka za mh mi hn22 =>
    Q7 rfl<|Q7 U<|Qe<|QE (j:=2) (u:=ka) (J.B10.J mi (λE=>ot (Qi J.R _ E).1)) U U oe (Qu mh) λw23 zb zv=>xe ?_
   have z0:RzO O.heap.size za ka (lz++ln):=RzO.snoc (by rw[h6.1,h6.2.1];exact mh);have mj:=J.app go hU ht mi z0 zb zv;refine Qw<|Qa<|Q7 U<|Qe<|QE (j:=3) (u:=oE oF rank) mj.B10 U U oe rfl λw24 z1 z2=>xe ?_;have z3:=mj.rounds hU ht z1 z2;have z4:(-9223372036854775808:Int)<=(rank:Int)+1:=oa
   have z5:(rank:Int)+1<=9223372036854775807:=oa
   refine Qw<|Qa<|x (Xu U U ⟨z4,z5⟩)<|Qb<|⟨(f',rank+1,(rank:Int),ka,lz++ln,(l.map (·.1)).foldl cut lf),oh,La,z3,oh,by simp only[oL];omega,hB,oh,by simp only[Of,h6.2.2];rw[LA];exact hC⟩
  refine Qh ?_;have hg:j<l.length:=by have gl:(j:Int)<(l.length:Int):=g9;omega
  have htk:l.take (j+1)=l.take j++[l[j]'hg]:=Lm hg;have mn:((l.take (j+1)).map (·.1)).foldl cut lf=cut (((l.take j).map (·.1)).foldl cut lf) (l[j]'hg).1:=by rw[htk,Lt,Mv];rfl
  have hxr:=gs (l[j]'hg).1 (LJ (Lk hg));refine Zo (l[j]'hg) λy hy=>?_;rw[hy]at mn hxr;have hyn:y.1=(y.1.toNat:Int):=oa
  refine Qd<|Qg<|Qc<|O4 (g:=rmC rank rs) (i:=j) (Qdn rank rs) mg U U hg λa53 gl=>?_;rw[hy]at gl;refine x (Qx gl U U)<|Qe<|Qo (us:=[oE oF 0,oE oF 0,oE oF 0,oE oF 0]) U λb16 H Y hb16 kb=>Qe<|Qj (us:=rmC rank rs y) kb U U U U oB λhH ha kb=>xe ?_;have mo:O1 [] V hH:=Y.O ha hb16;have kc:=J.I mo;have hnn:=J.n;refine ZI [] (Xx 0 8 [7])<|p QF<|p (Y9 U)<|p (QR U)<|pq (λ_ hc=>Qr ((hA kc.st).B.I hc) U U)<|p (QR U)<|pq (λ_ hc=>Qr (kb.I hc) U U) <|
   p (λ_=>Zv (i:=y.1.toNat) U (OR (Value.int .i64) hyn) oa)<|pkl (hl:=by kernel_rfl)<|zp (i:=y.1.toNat) (kc.F.I (O1.C _ _)) U U oa λph hr hF11=>pe ?_
  refine Qw<|QS U U<|Qa<|xe<|⟨j+1,oa,La,hg,((he.D mo).D (O1.C _ _)).Q hr,?_⟩;rw[mn];exact(kc.I (O1.C _ _)).cut go ht hr hF11 (by rw[Qec];exact hnn)
 refine Qh ?_;have hQ:k<forb.length:=by have hX:(k:Int)<(forb.length:Int):=gq;omega
 have hxk:=ke _ (Lk hQ);refine Zo (forb[k]'hQ) λy hy=>?_;rw[hy]at hxk;refine Qd<|Qg<|Qc<|xii (i:=k) m5 U U hQ λa27 hX=>?_;rw[hy]at hX;refine x (QA hX U)<|Qb<|Qc<|Q7 U<|Qs U I.B10 U U<|Qa<|x (Qy ⟨U,U,U,U,Z⟩)<|Qe<|QB (us:=[[oE oF y,oE oF 1,oE oF 1,oE oF (-1)]]) U U og oe ⟨rfl,rfl,Z⟩ λb34 w6 hs6 hb34 hB34=>?_;have hR:=I.I hs6;refine Qe<|Zb (m:=1) (news:=[oE oF y,oE oF 1,oE oF 1,oE oF (-1)]) (L:=[]) hR.R U U U (hB34.at oe) (by simp[Value.oneCell']) oa hR.st.size λv7 w7 mq hY hn7 =>
  Q7 rfl<|Q7 U<|Qe<|QE (j:=2) (u:=v7) (hR.B10.J hY (λE=>ot (Qi hR.R _ E).1)) U U oe (Qu mq) λV he gw=>xe ?_
 have hR7:RzO O.heap.size w7 v7 (lz++[⟨(y,1,1,-1),oh⟩]):=RzO.snoc mq;have hfk:rmF (forb.take (k+1))=rmF (forb.take k)++[(y,1,1,-1)]:=by unfold rmF;rw[Lm hQ,Lt,hy];rfl
 have J:=hR.app go hU ht hY hR7 he gw;refine Qw<|Q7 U<|Qe<|QE (j:=3) (u:=oE oF 1) J.B10 U U oe rfl λH Y hB9=>xe ?_;have hI9:=J.rounds hU ht Y hB9;refine Qw<|QS U U<|Qa<|xe ?_;exact⟨(k+1,1,v7,_),oh,La,hQ,hI9,by simp only[oL,oN];omega,.inr U,by simp only[Of,hW,hfk];rfl⟩
instance:Bw prog 224 (KL (nS) (nS) (nS) 0) [(0,3),(3,1),(4,4),(8,1)]:=⟨od,og⟩
theorem Qmr {pl:Q2}{ps:List (LI)}{l:List (LI)}:∀r∈spF c pl ps l,0<=r.st/\r.st<(l.length:Int):=λr G=>by
 unfold spF at G;obtain⟨⟨t,i⟩,H,E⟩:=MM.1 G;have hi:=List.snd_lt_add_of_mem_zipIdx H;simp only[oX]at hi;have I:r.st=(i:Int):=by
  simp only[]at E;unfold rsn at E;split at E
  ·cases E;rfl
  split at E
  ·cases E;rfl
  cases E
 omega
theorem Qmp (h:YS c=0):ZD (spc c).a/\(∀x∈fbs (spc c),0<=x/\x<(spc c).a.st)/\(fbs (spc c)).length<=4096/\(spc c).fb.length<=4096/\KC c.ev=0:=by
 unfold YS at h;by_cases G:Zi c≠0
 ·rw[OQ G]at h;exact OS h G
 rw[OP G]at h;have V:Zi c=0:=Ln.1 G;have H:=ZZ V;by_cases I:Uz (O3 c.co)≠0
 ·rw[OQ I]at h;exact OS h I
 rw[OP I]at h;cases J:xd (O3 c.co)with
 | none=>rw[J]at h;cases h
 | some z =>
  rw[J]at h;simp only[]at h;by_cases O:Uz (O3 c.co++O3 c.rq)≠0
  ·rw[OQ O]at h;exact OS h O
  rw[OP O]at h;cases S:xd (O3 c.co++O3 c.rq)with
  | none=>rw[S]at h;cases h
  | some y =>
   have T:∀a∈O3 c.co++O3 c.rq,ZD a:=λa E=>by
    rcases Lc.1 E with E|E
    ·exact YQ H.co a E
    exact YQ H.rq a E
   have hsp:=(Jh T (A:=y.1) (Q:=y.2) S).1;have Y:=Qcc (c:=c) (pl:=z.1) (ps:=z.2) (sa:=y.1) (ts:=y.2) J S;have hl:=Qdj c z.1 z.2 y.2;have hb:=hsp.le;rw[Y];unfold fbs;refine⟨hsp.okay T,λx hx=>?_,by rw[Lh];simp only[];omega,oh,H.e0⟩;obtain⟨r,hr,rfl⟩:=LC.1 hx;have:=Qmr r hr;rw[hsp.st];exact this
theorem st4 (r:Rsn):(ZX r).length=4:=rfl
theorem Qb7 {c:CL}(h0:ZJ L w.heap c)(hN:Kb w 4096):
  Q3 prog 95 [c.val] w λr w'=>O1 [] w w'/\∃us c0 c1 c2 c3 sa sm se o,r=.tuple #[.agg us.toArray,.agg #[c0,c1,c2,c3,sa,oE oF (if YS c.V=0 then(suA c.V).st else 0),sm,se,o],oE oF (YS c.V)]/\us.length=8/\Zp us/\Zp [c0,c1,c2,c3,sa,sm,se,o] /\
   (YS c.V≠0->sa=nS/\sm=nS/\se=nS)/\(YS c.V=0->∀L:LN,(∀b∈L,b<w.heap.size)->ZH L w'.heap sa sm se (suA c.V)/\yC L w'.heap c0 c1 c2 (spc c.V).a (fbs (spc c.V)) (unc c.V.ev)):=by
 have h:=h0.up (L':=[]) oe;have hj:suA c.V=jL (spc c.V).a (fbs (spc c.V)) (unc c.V.ev):=rfl;have hO:c.V.ev=c.ev:=rfl;have hm:=Qmp (c:=c.V);refine Zo (suA c.V) λSA hP=>?_;rw[hP]at hj ⊢;refine Zo (YS c.V) λE hE=>?_;rw[hE]at hm ⊢;refine Zo (spc c.V) λS hS=>?_;rw[hS]at hm hj ⊢;rw[hO]at hm hj ⊢;refine Zq func95 ?_;refine Qc<|Qe<|QW (us:=c.cells) U λb1 w1 h9 gu hA=>Qe<|Qo (us:=[nS,oE oF 0,nS,nS,nS,nS,nS,nS]) U λb2 w2 hy gv hn=>Qe<|Qo (us:=KL (nS) (nS) (nS) 0) U λb3 w3 ho gw hp=>Qb ?_;have hz:=(h9.D hy).D ho;have gx:=h9.size;have gy:=hn.lt;have gz:=hp.lt;have hsp:=yk (h.I hz) (hN.I hz);rw[hE,hS]at hsp;refine Qc<|Q6 ((hA.I hy).I ho) U U<|QM<|hsp.mono ?_;rintro r4 w4 ⟨he,v,rfl,⟨us,rfl,h2,h3⟩,hF⟩;have g0:=he.size;refine Qa<|QZ U U<|QZ U U<|Qe<|Qo (us:=[nS,oE oF 0,nS,nS,nS,nS,nS,nS]) U λb5 w5 hQ hR hf=>Qe<|Qj (us:=us) hf U U h2 U h3 λw6 hT hf=>Qb ?_;have T:O1 [] w4 w6:=hQ.O hT hR;have h4:=(hz.D he).D T;have hB:=(hn.I (ho.D he)).I T;have hC:=(hp.I he).I T;have g2:=hf.lt;refine Qd<|Qm<|ZB U U<|xe<|QX rfl (λhq=>?_) (λhq=>?_)
 ·refine Qc<|x (Zc [] Z)<|x (Zc [] Z)<|Qa<|Qe<|Qj (us:=[nS,oE oF 0,nS,nS,nS,nS,nS,nS]) hB U U U U ⟨U,U,U,U,U,U,U,U,Z⟩ λw7 G hV =>
   Qe<|Qj (us:=KL (nS) (nS) (nS) 0) (hC.J G om) U U U U ⟨U,U,U,U,U,U,U,U,U,Z⟩ λw8 hs hW=>Qb<|Qk ⟨[.agg #[nS,oE oF 0,nS,nS,nS,nS,nS,nS],.agg (KL (nS) (nS) (nS) 0).toArray,oE oF E],⟨⟨_,U,Qn U ((hV.J hs om).at (L:=[]) oe).cells⟩,⟨_,rfl,Qn rfl (hW.at (L:=[]) oe).cells⟩,rfl,Z⟩,(h4.O G oa).O hs oa,[nS,oE oF 0,nS,nS,nS,nS,nS,nS],nS,nS,nS,oE oF 0,nS,nS,nS,nS,by rw[OP hq];rfl,U,⟨U,U,U,U,U,U,U,U,Z⟩,⟨U,U,U,U,U,U,U,U,Z⟩,λ_=>⟨U,U,U⟩,λe=>OS e hq⟩
 have ht:E=0:=Ln.1 hq;obtain⟨hX,hY,hZ,g3,hD⟩:=hm ht;obtain⟨va,vm,ve,v1,v2,v3,v4,cos,rqs,ga,_,_,gb⟩:=hF ht;have gc:us=[va,oE oF S.a.st,vm,ve,v1,v2,v3,v4]:=by
  have h1:=OR (λv=>match v with|Value.agg a=>a.toList|_=>[]) ga
  simpa using h1
 subst gc;have hG:=(gb [] oe);have gg:=hG.1.I T;have hH:=hG.2.2.2.2.I T;refine Qh<|Qc<|Qb<|Qd<|Qc<|Qs U hf U U<|QI hH U<|Qa<|xe<|Qg<|QD (α:=Nat×OY) [(7,7),(9,9),(24,33)] (λz=>[(7,z.2),(24,oE oF z.1)]) (λz w'=>z.1<=S.fb.length/\O1 [] w6 w'/\Qv 3 w6.heap.size w' z.2 ((S.fb.take z.1).map (·.st))) (λz=>S.fb.length - z.1) ol (0,nS) oz ⟨Lo _,O1.Z _ _,QJ _ _ _ _⟩ ?_;rintro⟨k,vf⟩ g w7 ⟨hk,G,J⟩;simp only[]at hk J;refine Qc<|Q0 U U<|xe<|Qd<|QH U (λh5=>?_) (λh5=>?_)
 ·refine Qz ?_;have gh:S.fb.length<=k:=by have hu:¬(k:Int)<(S.fb.length:Int):=h5;omega
  rw[Lr gh]at J;have J:Qv 3 w6.heap.size w7 vf (fbs S):=J;have gi:=h4.D G;have gj:=G.size;refine Qc<|Q7 U<|x (Qr ((hA.I (hy.D ho)).I ((he.D T).D G)) U U)<|QM<|(QfR (h.ev.I gi)).mono ?_;rintro g4 O ⟨V,vu,rfl,hU⟩;rw[OQ hD]at hU;refine Qa<|QZ U U<|QZ U U<|x Ql<|Qb<|Qd<|Qm<|ZB U U<|xe<|QX U (λgk=>OS hD gk) (λ_=>?_);refine Qh ?_;have h2:(unc c.ev).length<=1099511627776:=LH (Qac _ c.ev 0) h.ev.arr.le;have Y:=G.D V;have gl:=gg.I Y;have hv:O1 [] O { O with drawn:=O.drawn+1 }:=O1.C _ _
  have hI:=hf.I Y;have hJ:b5∉[b2]:=om
  have g5:=Y.size;refine Qd<|ZI [b2] (Xx 0 9 [5,6,7])<|pq (λ_ hc=>ZT (hI.J hc hJ) U U)<|p (QR U)<|pq (λ_ hc=>Zs (us:=[va,oE oF S.a.st,vm,ve]) (hI.J hc hJ) U U U) <|
   p QF<|p QF<|pk<|xg<|(QeM (gl.I hv) hX (((Qv.ints (L:=[]) J oa oe).I V).I hv) hY hZ ((Qv.ints (L:=[]) hU h2 oe).I hv)).mono ?_
  rintro g6 g7 ⟨gm,c0,c1,c2,c3,sa,sm,se,o,rfl,H,h6⟩;have hg:=hv.D gm;refine⟨hg.any,?_⟩;have hK:jL S.a (fbs S) (unc c.ev)=SA:=hj.symm;rw[hK]at h6;have ha:=(h6 [] oe).1;refine pk<|Qj (us:=[va,oE oF S.a.st,vm,ve,v1,v2,v3,v4]) ((hB.I Y).I hg) U U U U h3 λg8 hh hn=>⟨hg.any.Q hh,?_⟩;refine pkl (hl:=by kernel_rfl)<|Qj (us:=[c0,c1,c2,c3,sa,oE oF SA.st,sm,se,o]) (((hC.I Y).I hg).J hh om) U (by rw[<-hK];rfl) U U ⟨H.1,H.2.1,H.2.2.1,H.2.2.2.1,ha.al.one,U,ha.mr.one,ha.ed.one,H.2.2.2.2.1,Z⟩ λg9 hw hp=>p ZM<|pe ?_;have gn:b2∉[b3]:=om
  refine Qk ⟨[.agg #[va,oE oF S.a.st,vm,ve,v1,v2,v3,v4],.agg #[c0,c1,c2,c3,sa,oE oF SA.st,sm,se,o],oE oF 0],⟨⟨_,U,Qn U ((hn.J hw gn).at (L:=[]) oe).cells⟩,⟨_,rfl,Qn rfl (hp.at (L:=[]) oe).cells⟩,rfl,Z⟩,
   (((h4.D Y).D hg).O hh oa).O hw oa,_,c0,c1,c2,c3,sa,sm,se,o,by rw[ht,OQ rfl];rfl,U,h3,⟨H.1,H.2.1,H.2.2.1,H.2.2.2.1,ha.al.one,ha.mr.one,ha.ed.one,H.2.2.2.2.1,Z⟩,λe=>OS ht e,λ_ L hL=>?_⟩
  have h1:=h6 (b2::b3::L) (λb I=>by
   have ka:({ O with drawn:=O.drawn+1 }:OX).heap.size=O.heap.size:=rfl
   simp only[oK]at I;rcases I with rfl|rfl|I
   ·omega
   ·omega
   have:=hL b I;omega)
  exact⟨((h1.1.st (hh.mono oe)).st (hw.mono oe)).up (λb I=>.inl (by simp[I])),((h1.2.st (hh.mono oe)).st (hw.mono oe)).up (λb I=>.inl (by simp[I]))⟩
 refine Qh ?_;have hi:k<S.fb.length:=by have hu:(k:Int)<(S.fb.length:Int):=h5;omega
 have hM:S.fb.take (k+1)=S.fb.take k++[S.fb[k]'hi]:=Lm hi;have kb:((S.fb.take k).map (·.st)).length=k:=by rw[Lh,Ly];omega
 refine Zo (S.fb[k]'hi) λr hr=>?_;rw[hr]at hM;refine Qd<|Qg<|Qc<|O4 (g:=ZX) (i:=k) st4 (hH.I G) U U hi λkc hu=>?_;rw[hr]at hu;refine x (Qx hu U U)<|Qe<|Qo (us:=[oE oF 0,oE oF 0,oE oF 0,oE oF 0]) U λb9 w8 hs go h7=>Qe<|Qj (us:=ZX r) h7 U U U U oB λw9 gp h7=>xe ?_;have h8:O1 [] w7 w9:=hs.O gp go;have ke:=h8.size;have gj:=G.size;refine Qw<|Qa<|Qs U h7 U U<|Qe<|QB (us:=[[oE oF r.st]]) U U og oe ⟨rfl,rfl,Z⟩ λkf O V kg gq =>
  Qe<|Zb (m:=1) (news:=[oE oF r.st]) (L:=[]) (Qq J (h8.D V)) U U U (gq.at oe) (by simp[Value.oneCell']) oa (ot V.size) λgr kh gs gt ki=>Qb<|Qw<|QS U U<|Qa<|xe ?_
 refine⟨(k+1,gr),oh,oz,hi,((G.D h8).D V).then gt (λb I=>.inr (Qi J b I).1),?_⟩;simp only[];rw[hM,Lt];exact Qv.snoc gs
theorem Qkw {n:Int}(h:Q9 H b T [oE oF n])(E:b∉L):QP L H (.slice (some ⟨b,0,none⟩) 1 1) [n]:=
 h.arr E (n:=1) (cap:=1) (sz:=1) U oa (Lv _)
theorem Qhh {c:CL}{q:MV}(h0:ZJ L w.heap c)(h9:QP L w.heap q.v q.co):
  Q3 prog 94 [c.val,.agg #[oE oF q.kd,oE oF q.ix,q.v]] w λr w'=>O1 [] w w'/\∃us,r=.tuple #[.agg us.toArray,oE oF (y9 c.V q.m)]/\us.length=5/\Zp us/\(y9 c.V q.m≠0->us=Z3)/\(y9 c.V q.m=0->QfV w.heap.size w'.heap (.agg us.toArray) (JC c.V q.m)):=by
 have h:=h0.up (L':=[]) oe;have Y:=h9.up (L':=[]) oe;have O:y9 c.V q.m=if mdE c.V q.m≠0 then mdE c.V q.m else jQ c.V (prt q.m):=rfl
 have hA:JC c.V q.m=QeH c.V (prt q.m):=rfl;rw[hA];refine Zo (y9 c.V q.m) λE hE=>?_;rw[hE]at O ⊢;refine Zq func94 ?_;refine Qc<|Qe<|QW (us:=c.cells) U λb2 w1 ht hS hh=>Qe<|QW (us:=Xe q) U λb3 w2 ha hT hu=>Qe<|Qo (us:=Z3) U λb4 w3 S hU hv=>Qb ?_;have hi:=(ht.D ha).D S;have hV:=ht.size;have hW:=ha.size;have hX:=hv.lt;refine Qd<|Qc<|Q6 ((hh.I ha).I S) U U<|Q6 (hu.I S) U U<|QM<|(Qe4 (h.I hi) (Y.I hi)).mono ?_;rintro r4 w4 ⟨rfl,T⟩;refine Qb ?_;have hw:=hi.D T;have hY:=T.size;have hB:=((hh.I ha).I S).I T;have hj:=(hu.I S).I T;have hy:=hv.I T;refine Qm<|ZB U U<|xe<|QX rfl (λhc=>?_) (λhc=>?_)
 ·rw[OQ hc]at O;subst O;refine Qc<|x (Qy Z)<|Qa<|Qe<|Qj (us:=Z3) hy U U U U ⟨U,U,U,U,U,Z⟩ λw5 hC hD=>Qb<|Qk ⟨[.agg Z3.toArray,oE oF (mdE c.V q.m)],⟨⟨_,U,Qn U (hD.at (L:=[]) oe).cells⟩,rfl,Z⟩,hw.O hC oa,Z3,rfl,rfl,⟨rfl,rfl,rfl,rfl,rfl,Z⟩,λ_=>rfl,λh0=>OS h0 hc⟩
 rw[OP hc]at O;subst O;refine Qh<|Qc<|Qs U hj U U<|x (Qy ⟨Y.cells,Z⟩)<|Qe<|Qo (us:=[nS,nS,nS,nS]) U λb7 w6 hF hG hH=>Qe<|Qj (us:=[q.v,nS,nS,nS]) hH U U U U ⟨Y.one,U,U,U,Z⟩ λw7 hI hz =>
  xe ?_
 have h2:O1 [] w4 w7:=hF.O hI hG;have hZ:=hz.lt;refine Qc<|Qs U (hj.I h2) U U<|Qe<|QB (us:=[[oE oF q.ix]]) U U og oe ⟨rfl,rfl,Z⟩ λI w8 hk ga hJ =>
  Qb ?_
 have he:=h2.D hk;have hK:=hw.D he;have gb:=hk.size;have hl:=hz.I hk;have hM:w.heap.size<=b7:=oa
 refine Za (α:=OY×OY×OY) [(22,33)] (λ_=>[]) (λz w'=>O1 [b7] w8 w'/\Q9 w'.heap b7 309 [q.v,z.1,z.2.1,z.2.2]/\QP [] w'.heap z.1 (prt q.m).rq/\QP [] w'.heap z.2.1 (prt q.m).ex/\QP [] w'.heap z.2.2 (prt q.m).cs) ol ?_ ?_
 ·have hn:∀{w':OX},O1 [b7] w8 w'->QP [] w'.heap (.slice (some ⟨I,0,none⟩) 1 1) [q.ix]:=λhs=>Qkw (hJ.J hs om) oe;refine Qc<|Qs U (hj.I he) U U<|xe<|Qg<|Qc<|x (QY U U)<|Qb<|QX U (λho=>?_) (λho=>?_)
  ·have hk1:q.kd=1:=ho;refine Qw<|Qa<|Q7 U<|Qe<|QE (j:=1) (u:=.slice (some ⟨I,0,none⟩) 1 1) hl U U oe rfl λJ G H=>xe ?_;refine⟨(.slice (some ⟨I,0,none⟩) 1 1,nS,nS),Z,G,H,?_,?_,?_⟩
   ·show QP _ _ _ (if q.kd=1 then[q.ix]else[]);rw[OQ hk1];exact hn G
   ·show QP _ _ _ (if q.kd=2 then[q.ix]else[]);rw[OP oa];exact K8 _ _
   show QP _ _ _ (if q.kd≠1/\q.kd≠2 then[q.ix]else[]);rw[OP oa];exact K8 _ _
  have hk1:¬q.kd=1:=ho;refine Qc<|x (QY U U)<|Qb<|QX U (λhp=>?_) (λhp=>?_)
  ·have hf:q.kd=2:=hp;refine Qw<|Qa<|Q7 U<|Qe<|QE (j:=2) (u:=.slice (some ⟨I,0,none⟩) 1 1) hl U U oe rfl λJ G H=>xe ?_;refine⟨(nS,.slice (some ⟨I,0,none⟩) 1 1,nS),Z,G,H,?_,?_,?_⟩
   ·show QP _ _ _ (if q.kd=1 then[q.ix]else[]);rw[OP hk1];exact K8 _ _
   ·show QP _ _ _ (if q.kd=2 then[q.ix]else[]);rw[OQ hf];exact hn G
   show QP _ _ _ (if q.kd≠1/\q.kd≠2 then[q.ix]else[]);rw[OP oa];exact K8 _ _
  have hf:¬q.kd=2:=hp;refine Qw<|Qa<|Q7 U<|Qe<|QE (j:=3) (u:=.slice (some ⟨I,0,none⟩) 1 1) hl U U oe rfl λJ G H=>xe ?_;refine⟨(nS,nS,.slice (some ⟨I,0,none⟩) 1 1),Z,G,H,?_,?_,?_⟩
  ·show QP _ _ _ (if q.kd=1 then[q.ix]else[]);rw[OP hk1];exact K8 _ _
  ·show QP _ _ _ (if q.kd=2 then[q.ix]else[]);rw[OP hf];exact K8 _ _
  show QP _ _ _ (if q.kd≠1/\q.kd≠2 then[q.ix]else[]);rw[OQ ⟨hk1,hf⟩];exact hn G
 rintro⟨v1,v2,v3⟩ g J ⟨G,H,h3,h4,h5⟩;simp only[]at H h3 h4 h5;have hg:O1 [] w J:=hK.O G hM;have gc:=G.size;have hN:Q9 J.heap b2 44 c.cells:=(hB.I he).J G (by have:=hh.lt;simp only[oH];omega);have hO:Q9 J.heap b4 44 Z3:=(hy.I he).J G om;refine Qc<|Q6 hN U U<|Q6 H U U<|QM<|(QcS (p:=prt q.m) (h.I hg) (Y.I hg) h3 h4 h5).mono ?_;rintro gg gh ⟨h6,us,rfl,hq,h7,hP,hQ⟩;refine QZ rfl U<|QZ U U<|Qe<|Qj (us:=us) (hO.I h6) U U hq U h7 λgi h8 hR=>Qb<|Qk ⟨[.agg us.toArray,oE oF (jQ c.V (prt q.m))],⟨⟨_,U,Qn hq (hR.at (L:=[]) oe).cells⟩,rfl,Z⟩,(hg.D h6).O h8 oa,us,rfl,hq,h7,hP,λe=>?_⟩;obtain⟨cl,e1,e2,e3⟩:=hQ e;refine⟨cl,e1,e2,λL hL=>?_⟩;have h1:=e3 (b4::L) (λb V=>by
  rcases Li.1 V with rfl|V
  ·omega
  have:=hL b V;have:=hg.size;omega)
 exact(h1.st (h8.mono oe)).up (λb V=>.inl (by simp[V]))
theorem zt (h:Qaq c):(O5 c).length<=96:=by have:=j5 h 3 oa;rw[Qbb]at this;omega
def XZ (n m:Nat):LI:=(oW n).map λk:Nat=>if k<m then(k:Int)else -1
theorem jf {m k:Nat}(h:k<m):Z9 (Jq m) (k:Int)=k:=by
 unfold Z9 Jq;simp[oP,h]
theorem Qoz {fd R:LI}{t:Int}(G:fd=out++R)(E:t∈out):zG fd t=(out.idxOf t:Nat):=by
 subst G;unfold zG;rw[OQ (Mn _ E),Mu,OQ E]
theorem Qm2 {fd R:LI}{t:Int}(E:fd=out++[t]++R)(G:t∉out):zG fd t=(out.length:Nat):=by
 subst E;unfold zG;rw[OQ oe,LA,Mu,OP G];simp
theorem je {m k:Nat}(h:k<n):Z9 (XZ n m) (k:Int)=if k<m then(k:Int)else -1:=by
 unfold Z9 XZ;simp[oP,h]
theorem Qhb {m:Nat}:(XZ n m).set m (m:Int)=XZ n (m+1):=by
 apply Mt
 ·simp[XZ]
 intro k H G;have I:k<n:=by simpa[XZ]using G
 rw[M1];by_cases e:m=k
 ·subst e;simp[XZ]
 rw[OP e];simp only[XZ,List.getElem_map,List.getElem_range];by_cases E:k<m
 ·rw[OQ E,OQ oa]
 rw[OP E,OP oa]
theorem yV {R:Nat->List Ed}(hR:∀i,∀e∈R i,e.1=(i:Int))(j:Nat):∀n,Z2 ((oQ 0 n).flatMap R) j=if j<n then R j else[]
 | 0=>by simp[Z2]
 | n+1=>by
  have E:Z2 (R n) j=if n=j then R n else[]:=by
   unfold Z2;by_cases e:n=j
   ·rw[OQ e];exact List.filter_eq_self.2 λx hx=>OT (by rw[hR n x hx,e])
   rw[OP e];exact MN.2 λx hx=>by rw[decide_eq_true_eq,hR n x hx];omega
  rw[Mr,LB,LQ];unfold Z2 at E ⊢;rw[L6];have ih:=yV hR j n;unfold Z2 at ih;rw[ih];simp only[Oa,OF,Oq];rw[E];by_cases G:j<n
  ·rw[OQ G,OP oa,OQ oa,LK]
  rw[OP G];by_cases H:n=j
  ·subst H;rw[OQ rfl,OQ oa,L8]
  rw[OP H,OP oa];rfl
theorem qP {s:Int}:∀(vs:LI) (out:LI),∃r,vs.foldl (VU a s) out=out++r
 | [],out=>⟨[],oe⟩
 | v::vs,out=>by
  rw[L3];obtain⟨r,E⟩:=qP vs (VU a s out v);rw[E];unfold VU;split
  ·exact⟨[O8 a.ed s v]++r,by rw[LA]⟩
  exact⟨r,U⟩
theorem qO:∀(f i:Nat) (out:LI),∃r,ji a f i out=out++r
 | 0,i,out=>⟨[],by simp[ji]⟩
 | f+1,i,out=>by
  rw[ji];split
  ·obtain⟨r,E⟩:=qO f (i+1) (fdR a out (O2 out i));obtain⟨G,H⟩:=qP (a:=a) (s:=O2 out i) a.al out;refine⟨G++r,?_⟩;rw[E];unfold fdR;rw[H,LA]
  exact⟨[],oe⟩
theorem qE {fd:LI}{i:Nat}:∀(vs out:LI) (c:Cs),(∃r,fd=vs.foldl (VU a (O2 fd i)) out++r)->c.ord=Jq out.length->c.num=XZ fd.length out.length ->
  (vs.filterMap (Kq a fd i)).foldl (Zu i) c=⟨Jq (vs.foldl (VU a (O2 fd i)) out).length,XZ fd.length (vs.foldl (VU a (O2 fd i)) out).length,c.mk',c.ed++vs.filterMap (Kq a fd i)⟩
 | [],out,c,_,H,G=>by
  obtain⟨o,n,m,e⟩:=c;simp only[]at H G;subst H G;simp
 | v::vs,out,c,E,H,G=>by
  rw[L3]at E ⊢;obtain⟨r,E⟩:=E;obtain⟨r2,hb⟩:=qP (a:=a) (s:=O2 fd i) vs (VU a (O2 fd i) out v);have I:fd=VU a (O2 fd i) out v++(r2++r):=by rw[<-LA,<-hb];exact E
  by_cases S:0<=O8 a.ed (O2 fd i) v
  ·have T:Kq a fd i v=some ((i:Int),v,zG fd (O8 a.ed (O2 fd i) v)):=by unfold Kq;rw[OQ S]
   rw[Mq,T];simp only[];rw[L3];by_cases J:O8 a.ed (O2 fd i) v∈out
   ·have O:VU a (O2 fd i) out v=out:=by unfold VU;rw[OP (λh=>h.2 J)]
    rw[O]at E I ⊢;have V:zG fd (O8 a.ed (O2 fd i) v)=(out.idxOf (O8 a.ed (O2 fd i) v):Nat):=Qoz I J;have hc:=MC J;have ha:out.length<=fd.length:=by rw[I];simp
    have Y:Zu i c ((i:Int),v,zG fd (O8 a.ed (O2 fd i) v))=⟨c.ord,c.num,c.mk',c.ed++[((i:Int),v,zG fd (O8 a.ed (O2 fd i) v))]⟩:=by
     unfold Zu;simp only[];rw[G,V,je oa,OQ hc,OP oa]
    rw[Y,qE vs out ⟨c.ord,c.num,c.mk',c.ed++[((i:Int),v,zG fd (O8 a.ed (O2 fd i) v))]⟩ ⟨r,E⟩ H G];simp only[oT,On]
   have O:VU a (O2 fd i) out v=out++[O8 a.ed (O2 fd i) v]:=by unfold VU;rw[OQ ⟨S,J⟩]
   rw[O]at E I ⊢;have V:zG fd (O8 a.ed (O2 fd i) v)=(out.length:Nat):=Qm2 I J;have ha:out.length<fd.length:=by rw[I];simp
   have Y:Zu i c ((i:Int),v,zG fd (O8 a.ed (O2 fd i) v))=⟨Jq (out.length+1),XZ fd.length (out.length+1),c.mk',c.ed++[((i:Int),v,zG fd (O8 a.ed (O2 fd i) v))]⟩:=by
    unfold Zu;simp only[];rw[H,G,V,je ha,OP (Nf _),OQ oa,zr,Qe1];simp only[Ou];rw[Qhb]
   rw[Y,qE vs (out++[O8 a.ed (O2 fd i) v]) _ ⟨r,E⟩ oe oe];simp only[oT,On]
  have T:Kq a fd i v=none:=by unfold Kq;rw[OP S]
  have O:VU a (O2 fd i) out v=out:=by unfold VU;rw[OP (λh=>S h.1)]
  rw[O]at E ⊢;rw[Mq,T];exact qE vs out c ⟨r,E⟩ H G
theorem QiN (fd:LI)(i:Nat):Y3 a fd (i+1)=Y3 a fd i++(if O2 fd i∈a.mr then[(i:Int)]else[]):=by
 unfold Y3;rw[Mr,L6,Lt,LQ];by_cases h:O2 fd i∈a.mr <;> simp[h]
theorem QiP (fd:LI)(i:Nat):Xi a fd (i+1)=Xi a fd i++a.al.filterMap (Kq a fd i):=by
 unfold Xi;rw[Mr,LB,LQ];simp
theorem QbN {fd:LI}(h:i<n):(i:Int)∈Y3 a fd n↔O2 fd i∈a.mr:=by
 unfold Y3;simp only[OE,List.mem_filter,Oz,decide_eq_true_eq];constructor
 ·rintro⟨k,⟨_,E⟩,G⟩;have:k=i:=oa
  subst this;exact E
 intro E;exact⟨i,⟨oa,E⟩,U⟩
theorem QiO {fd:LI}(T:fd=xh a)(hn:fd.length<=a.st.toNat):∀(f g i:Nat) (out:LI),i<=out.length->ji a g i out=fd->i+g=a.st.toNat->fd.length<=i+f ->
  XR (Xp a) f i ⟨Jq out.length,XZ fd.length out.length,Y3 a fd i,Xi a fd i⟩=⟨Jq fd.length,XZ fd.length fd.length,Y3 a fd fd.length,Xi a fd fd.length⟩:=by
 have ha:(Xp a).ed=Xi a fd fd.length:=by rw[T];rfl
 have hb:(Xp a).mr=Y3 a fd fd.length:=by rw[T];rfl
 have done:∀(i:Nat) (out:LI),i<=out.length->out=fd->¬i<out.length->(⟨Jq out.length,XZ fd.length out.length,Y3 a fd i,Xi a fd i⟩:Cs)=⟨Jq fd.length,XZ fd.length fd.length,Y3 a fd fd.length,Xi a fd fd.length⟩:=by
  intro i out H E V;have:i=fd.length:=by rw[<-E];omega
  rw[this,E]
 intro f;induction f with
 | zero =>
  intro g i out H E V h4;obtain⟨r,G⟩:=qO (a:=a) g i out;rw[E]at G;have hl:fd.length=out.length+r.length:=by rw[G,Ll]
  have hf:r=[]:=Ls oa;rw[XR];exact done i out H (by rw[G,hf,LK]) oa
 | succ f ih =>
  intro g i out H E V h4;obtain⟨r,G⟩:=qO (a:=a) g i out;rw[E]at G;have hl:fd.length=out.length+r.length:=by rw[G,Ll]
  rw[XR];simp only[zr];by_cases hi:i<out.length
  ·rw[OQ hi];obtain⟨I,rfl⟩:∃I,g=I+1:=⟨g - 1,oa⟩;rw[ji,OQ hi]at E;have hg:O2 out i=O2 fd i:=by
    rw[G];unfold O2;simp[oP,List.getElem?_append_left hi]
   rw[hg]at E;have S:i<fd.length:=oa
   have hh:Z2 (Xp a).ed (i:Int)=a.al.filterMap (Kq a fd i):=by
    rw[ha];unfold Xi;rw[yV (λj e he=>by
     obtain⟨v,_,J⟩:=MM.1 he;unfold Kq at J;split at J
     ·cases J;rfl
     cases J),OQ S]
   have hj:Yh (Xp a) i ⟨Jq out.length,XZ fd.length out.length,Y3 a fd i,Xi a fd i⟩=⟨Jq out.length,XZ fd.length out.length,Y3 a fd (i+1),Xi a fd i⟩:=by
    unfold Yh;simp only[];rw[jf hi,hb,QiN];by_cases O:O2 fd i∈a.mr
    ·rw[OQ ((QbN S).2 O),OQ O]
    rw[OP (λh=>O ((QbN S).1 h)),OP O];simp
   have hk:qm (Xp a) i ⟨Jq out.length,XZ fd.length out.length,Y3 a fd i,Xi a fd i⟩=⟨Jq (fdR a out (O2 fd i)).length,XZ fd.length (fdR a out (O2 fd i)).length,Y3 a fd (i+1),Xi a fd (i+1)⟩:=by
    unfold qm;rw[hj];simp only[];rw[jf hi,hh];obtain⟨r3,Y⟩:=qO (a:=a) I (i+1) (fdR a out (O2 fd i));rw[E]at Y;rw[qE a.al out ⟨Jq out.length,XZ fd.length out.length,Y3 a fd (i+1),Xi a fd i⟩ ⟨r3,Y⟩ rfl rfl,QiP];rfl
   rw[hk];obtain⟨r4,hm⟩:=qP (a:=a) (s:=O2 fd i) a.al out;exact ih I (i+1) _ (by unfold fdR;rw[hm,Ll];omega) E oa oa
  rw[OP hi];have h5:ji a g i out=out:=by
   cases g with
   | zero=>rfl
   | succ g=>rw[ji,OP hi]
  exact done i out H (h5.symm.D E) hi
theorem QiM (E:ZD a)(G:0<a.st):Yc (Xp a)=Xp a:=by
 have T:=QiL E G;have I:=(zK E).1.len E.st0;have V:(Xp a).st=((xh a).length:Int):=rfl;have H:(Xp a).st.toNat=(xh a).length:=oa
 have h:=QiO (a:=a) U I (xh a).length a.st.toNat 0 (fd0 a) (Lo _) U oa oa;have J:fd0 a=[0]:=by unfold fd0;rw[OQ G]
 rw[J]at h;have O:YK (Xp a)=⟨Jq 1,XZ (xh a).length 1,Y3 a (xh a) 0,Xi a (xh a) 0⟩:=by
  unfold YK;rw[H];have e:(oM (xh a).length (-1:Int)).set 0 0=XZ (xh a).length 1:=by
   apply Mt
   ·simp[XZ]
   intro k Y h2;rw[M1];simp only[XZ,List.getElem_map,List.getElem_range,List.getElem_replicate];by_cases e:k=0
   ·subst e;simp
   rw[OP oa,OP oa]
  rw[e];simp[Jq,Y3,Xi]
 unfold Yc;rw[OP oa];simp only[];rw[O,H];have S:XR (Xp a) (xh a).length 0 ⟨Jq 1,XZ (xh a).length 1,Y3 a (xh a) 0,Xi a (xh a) 0⟩=⟨Jq (xh a).length,XZ (xh a).length (xh a).length,Y3 a (xh a) (xh a).length,Xi a (xh a) (xh a).length⟩:=h;rw[S];simp only[zr];rfl
theorem QcA (E:ZD a)(G:0<a.st):KS (Xp a)=true:=by
 unfold KS;rw[QiM E G];simp[(Z0 _).2 (Qly E).1]
theorem GdA.can (h:GdA a):KS a=true:=by
 obtain⟨H,E,G,rfl⟩:=h.c;exact QcA E G
theorem Qku {a b:LI}(ia:Xk a)(ib:Xk b)(h:∀e∈a,e∈b):(mns a b).length=0:=by
 refine Nat.eq_zero_of_not_pos λG=>?_;obtain⟨x,hx⟩:=List.exists_mem_of_length_pos G;have:=(qJ ia ib x).1 hx;by_cases E:x∈a
 ·simp[E,h x E]at this
 simp[E]at this
theorem Qej {nev:Nat}{amg:LI}{seen:List ByteArray}{x:YU}(G:JE x.nm=true)(H:x.nm∉seen)(E:GdA x.a)(I:∀e∈x.a.al,e<(nev:Int))(hi:Xk amg)(J:∀e∈x.a.al,e∈amg):Yb nev amg seen x=0:=by
 have T:=E.p;unfold Yb;rw[OP (by rw[G];decide),OP H,OP (by simpa using(Z0 _).2 E.ok),OP (by rw[E.can];decide),OP oa,OP,OP (oy (Qku E.ok.ali hi J))];intro h;obtain⟨e,O,S⟩:=List.any_eq_true.1 h;have:=I e O;have:=OU S;omega
theorem Qlw {nev:Nat}{al:LI}(V:Xk al):∀(l:List YU) (s:List ByteArray) (u:LI),Xk u->(∀x∈l,JE x.nm=true/\GdA x.a/\∀e∈x.a.al,e<(nev:Int)/\e∈al)->(s++l.map (·.nm)).Nodup ->
  ∃H,Yn nev al s u l=(0,s++l.map (·.nm),H)/\Xk H/\∀e,e∈H↔e∈u\/∃y∈l,e∈y.a.al
 | [],s,u,J,_,_=>⟨u,by simp[Yn],J,oe⟩
 | x::l,s,u,J,hx,O=>by
  obtain⟨h1,S,Y⟩:=hx x Lq;have ha:x.nm∉s:=by
   intro hm;rw[LE,MK]at O;exact O.2.2 _ hm _ Lq U
  have hz:=Qej h1 ha S (λe T=>(Y e T).1) V (λe T=>(Y e T).2);obtain⟨H,k1,k2,k3⟩:=Qlw V l (s++[x.nm]) (mrg (· || ·) u x.a.al) (Qdz _ _ _ _ (Lv _) J S.ok.ali) (λy E=>hx y (Lj _ E)) (oy O);refine⟨H,?_,k2,λe=>?_⟩
  ·rw[Yn,OP (oy hz),k1];simp
  rw[k3,qJ J S.ok.ali];constructor
  ·rintro(⟨G|G,_⟩|⟨y,E,I⟩)
   ·exact .inl G
   ·exact .inr ⟨x,Lq,G⟩
   exact .inr ⟨y,Lj _ E,I⟩
  rintro(G|⟨y,E,I⟩)
  ·exact .inl ⟨.inl G,by simp[G]⟩
  rcases Li.1 E with rfl|E
  ·exact .inl ⟨.inr I,by simp[I]⟩
  exact .inr ⟨y,E,I⟩
theorem Qlv {nev:Nat}{u:LI}(H:Xk u):∀(l:List YU) (s:List ByteArray),(∀x∈l,JE x.nm=true/\GdA x.a/\∀e∈x.a.al,e<(nev:Int)/\e∈u)->(s++l.map (·.nm)).Nodup->Jz nev u s l=0
 | [],s,_,_=>rfl
 | x::l,s,hx,E=>by
  obtain⟨J,O,I⟩:=hx x Lq;have S:x.nm∉s:=by
   intro T;rw[LE,MK]at E;exact E.2.2 _ T _ Lq U
  have V:=Qej J S O (λe G=>(I e G).1) H (λe G=>(I e G).2);rw[Jz,OP (oy V)];exact Qlv H l (s++[x.nm]) (λy Y=>hx y (Lj _ Y)) (oy E)
end Go.Lg
namespace Go.Proofs
open Go.Proofs.Tryz
open Go.Shelf
def Tryz.sortI_ren:Go.Shelf.Ren:=⟨λ|5=>71|8=>139|7=>138|19=>214|20=>215|10=>206|11=>207|12=>208|13=>209|14=>210|15=>211|16=>174|17=>212|18=>213|30=>267|31=>268|32=>269|33=>270|34=>271|35=>248|40=>312|n=>n,λ|23=>56|25=>3|3=>3|32=>285|22=>56|0=>0|44=>367|46=>369|4=>4|36=>361|35=>360|41=>236|5=>5|9=>9|53=>421|57=>425|63=>452|64=>411|n=>n,λ|n=>n⟩
theorem Tryz.sortI:Go.Proofs.SlLaysM.n5 prog Tryz.sortI_ren:={
 mixed:=od
 f5:=⟨Tryz.f71.name,og,func71.D (OR some od)⟩
 f7:=⟨Tryz.f138.name,og,func138.D (OR some od)⟩
 f8:=func139.D (OR some od)
 f10:=⟨Tryz.f206.name,og,func206.D (OR some od)⟩
 f11:=⟨Tryz.f207.name,og,func207.D (OR some od)⟩
 f12:=⟨Tryz.f208.name,og,func208.D (OR some od)⟩
 f13:=⟨Tryz.f209.name,og,func209.D (OR some od)⟩
 f14:=⟨Tryz.f210.name,og,func210.D (OR some od)⟩
 f15:=⟨Tryz.f211.name,og,func211.D (OR some od)⟩
 f16:=⟨Tryz.f174.name,og,func174.D (OR some od)⟩
 f17:=⟨Tryz.f212.name,og,func212.D (OR some od)⟩
 f18:=⟨Tryz.f213.name,og,func213.D (OR some od)⟩
 f19:=func214.D (OR some od)
 f20:=func215.D (OR some od)
 f30:=⟨Tryz.f267.name,og,func267.D (OR some od)⟩
 f31:=func268.D (OR some od)
 f32:=func269.D (OR some od)
 f33:=⟨Tryz.f270.name,og,func270.D (OR some od)⟩
 f34:=⟨Tryz.f271.name,og,func271.D (OR some od)⟩
 f35:=⟨Tryz.f248.name,og,func248.D (OR some od)⟩
 f40:=⟨Tryz.f312.name,og,func312.D (OR some od)⟩
 t0:=underlying0
 a0:=isAgg0
 z0:=sizeOf0
 v0:=zeroValue0
 t3:=underlying3
 a3:=isAgg3
 z3:=sizeOf3
 v3:=zeroValue3
 t4:=underlying4
 a4:=isAgg4
 z4:=sizeOf4
 v4:=zeroValue4
 t5:=underlying5
 a5:=isAgg5
 z5:=sizeOf5
 v5:=zeroValue5
 t9:=underlying9
 a9:=isAgg9
 z9:=sizeOf9
 v9:=zeroValue9
 t22:=underlying56
 a22:=isAgg56
 z22:=sizeOf56
 v22:=zeroValue56
 t23:=underlying56
 a23:=isAgg56
 z23:=sizeOf56
 v23:=zeroValue56
 t25:=underlying3
 a25:=isAgg3
 z25:=sizeOf3
 v25:=zeroValue3
 t32:=underlying285
 a32:=isAgg285
 z32:=sizeOf285
 v32:=zeroValue285
 t35:=underlying360
 a35:=isAgg360
 z35:=sizeOf360
 v35:=zeroValue360
 t36:=underlying361
 a36:=isAgg361
 z36:=sizeOf361
 v36:=zeroValue361
 t41:=underlying236
 a41:=isAgg236
 z41:=sizeOf236
 v41:=zeroValue236
 t44:=underlying367
 a44:=isAgg367
 z44:=sizeOf367
 v44:=zeroValue367
 t46:=underlying369
 a46:=isAgg369
 z46:=sizeOf369
 v46:=zeroValue369
 t53:=underlying421
 a53:=isAgg421
 z53:=sizeOf421
 v53:=zeroValue421
 t57:=underlying425
 a57:=isAgg425
 z57:=sizeOf425
 v57:=zeroValue425
 t63:=underlying452
 a63:=isAgg452
 z63:=sizeOf452
 v63:=zeroValue452
 t64:=underlying411
 a64:=isAgg411
 z64:=sizeOf411
 v64:=zeroValue411 }
end Go.Proofs
namespace Go.Lg
open Go.Lg Go.Sort Go.Lib
abbrev iC:Int->OY:=Value.int .i64
theorem QeX {e:Nat}{cur:Array OY}(G:w.heap[g]?=some (.cells cur e (0,0)))(I:cur.toList.take (l.length*1)=l.map iC):Holds iC w g 0 l.toArray:=by
 intro j E;rw[LR]at E;have J:cur.toList[j]?=some (iC l[j]):=by
  have H:(cur.toList.take (l.length*1))[j]?=(l.map iC)[j]?:=by rw[I]
  rw[LX,OQ oa,List.getElem?_map,LU E]at H;exact H
 have O:l.toArray[j]! = l[j]:=by simp[E]
 constructor
 ·show(match w.heap[g]? with|some (.cells c _ _)=>if(none:Option _).isSome then none else c[0+j]?|_=>none)=_
  rw[G,O];simp only[oX,Ow,Ox,if_false];rw[<-Mi,J]
 show(match w.heap[g]? with|some (.cells _ _ (lo,hi))=>decide (lo<=0+j) && decide (0+j<hi)|_=>false)=false
 rw[G];simp
theorem Qkc {e base:Nat}{k:Nat}{cur:Array OY}{os:xu}{d:Array Int}(J:base<=g)(H:w.heap[g]?=some (.cells cur e (0,0)))(hb:d.size<=cap)(O:cap<=maxLen)(S:cur.size=cap*1)(hk:k<=d.size):
  O1 [g] w (grow (putRow iC (Sort.ahead w n) g 0 d) os)/\Qv e base (grow (putRow iC (Sort.ahead w n) g 0 d) os) (.slice (some ⟨g,0,none⟩) k cap) (d.toList.take k):=by
 have T:g<w.heap.size:=(LO.1 H).1;have E:(grow (putRow iC (Sort.ahead w n) g 0 d) os).heap=w.heap.modify g (onCells (putCells iC 0 d))++os:=rfl;have V:(d.toList.take k).length=k:=by simp;omega
 refine⟨⟨U,U,U,?_,λi hi Y=>?_⟩,?_⟩
 ·rw[E,MP,Mk];omega
 ·rw[E,Mj,Mk,OQ hi,Mw,OP (λe=>Y (by simp[e]))]
 unfold Qv;rw[V];refine⟨by simp;omega,.inr ⟨g,cap,putCells iC 0 d cur,U,J,?_,oa,O,by simp[putCells,S],?_⟩⟩
 ·rw[E,Mj,Mk,OQ T,Mw,OQ rfl,H];rfl
 apply M7;intro j;rw[LX,List.getElem?_map,LX];by_cases I:j<k
 ·rw[OQ oa,OQ I];have ha:j<cur.size:=oa
  have G:j<d.size:=oa
  rw[Mi,Mi,Mx G];simp only[putCells,Oo,Od ha,Ot,ON,oX,true_and,OQ G,OC];rw[getElem!_pos d j G]
 rw[OP oa,OP I];rfl
theorem QeF {base:Nat}{v:OY}(h:Qv 3 base w v l)(hl:l.length<=1099511627776):
  Q3 prog 71 [v] w λ_ w'=>O1 (ob v) w w'/\Qv 3 base w' v (l.mergeSort λx y=>decide (x<=y)):=by
 unfold Q3;rcases h.2 with⟨rfl,O⟩|⟨g,cap,cur,rfl,S,H,hf,T,V,Y⟩
 ·have ha:l=[]:=Ls O;subst ha;have E:=AnyM.slices_Sort_int_none Tryz.sortI none 0 w;change Calls prog 71 _ _ _ at E;refine Calls.mono E λe w' I=>?_;obtain⟨rfl,rfl⟩:=I;exact⟨O1.Z _ _,by rw[List.mergeSort_nil];exact h⟩
 have hb:g<w.heap.size:=(LO.1 H).1;have E:=AnyM.slices_Sort_int Tryz.sortI g 0 cap l w (QeX H Y) hb oa;change Calls prog 71 _ _ _ at E;refine Calls.mono E λe w' I=>?_;obtain⟨rfl,n,os,rfl⟩:=I;have hp:=List.mergeSort_perm l (λx y=>decide (x<=y));have J:=hp.length_eq;have:=Qkc (e:=3) (n:=n) (k:=l.length) (os:=os) (d:=(l.mergeSort λx y=>decide (x<=y)).toArray) S H (by simp;omega) T V oe;refine⟨this.1,?_⟩;have G:=this.2;simp only[List.take_of_length_le (Nat.le_of_eq J)]at G;unfold Qv at G ⊢;rw[J]at G ⊢;exact G
section
variable {pS:String}
theorem Qcj {k:IntKind}[h:Ik P t k][h':St P E]{x:OZ}{G:IntKind}(hx:ev f x=.int G n)(H:n<128):
  (execOp (ev f) ⟨d,.convert t E x,ty,pS,af,gd⟩).run P w=.ok (.value (.string ⟨#[UInt8.ofNat n]⟩)) w:=by
 refine jX hx ?_;rw[run_convert_int_string w t E G n (by rw[h.u];rfl) h'.u];have I:Utf8.valid (n:Int)=true:=by
  unfold Utf8.valid;simp;omega
 unfold Utf8.encode;simp only[I,if_true,Ou,H]
end
open Go.Lg Go.Sort
section
variable {pS:String}
theorem Qkj {e bys:Nat}[h:Sl P t e sz bys z](Y:∀u∈z.cells,u.oneCell'=true){s:OZ}{o m c:Nat}(I:Q9 w.heap b T cs)(G:∃E,ev f s=.slice (some ⟨b,E,none⟩) m c/\(0<m->E=o/\o+m*sz<=cs.length))
  (hK:∀w' cs',O1 [b] w w'->Q9 w'.heap b T cs'->cs'.length=cs.length->cs'.take o=cs.take o->K (QT f d (.tuple #[])) w'):XO P ⟨d,.call ⟨.builtin .clear,#[s],#[t]⟩,ty,pS,af,gd⟩ f w K:=by
 obtain⟨E,G,hm⟩:=G;obtain⟨i,hi,hz,hc,_⟩:=Sl.info h;have ha:=h.zs;rcases Nat.eq_zero_or_pos m with rfl|hmp
 ·have J:(execOp (ev f) ⟨d,.call ⟨.builtin .clear,#[s],#[t]⟩,ty,pS,af,gd⟩).run P w=.ok (.value (.tuple #[])) w:=by
   simp[execOp,resolve,invoke,builtin,G,Builtin.clear_,run_underlying h.u]
  exact xv J (hK w cs (O1.Z _ _) I U U)
 obtain⟨rfl,he⟩:=hm hmp;have hb:(Builtin.zeroCells z.cells m).toList.length=m*sz:=by simp[Builtin.zeroCells,ha]
 have O:=run_storeCells_at P b E T (Builtin.zeroCells z.cells m).toList 0 cs.toArray w I (by simp only[o9];omega) (λu S=>by
  simp only[Builtin.zeroCells,Array.toList_map,OE]at S;obtain⟨j,hj,rfl⟩:=S;have hf:=h.pos;have V:j % z.cells.size<z.cells.size:=OI _ oa;rw[getElem!_pos z.cells _ V];exact Y _ (Array.getElem_mem V))
 simp only[OB]at O;obtain⟨H,rfl⟩:∃H,m=H+1:=⟨m - 1,oa⟩;have J:(execOp (ev f) ⟨d,.call ⟨.builtin .clear,#[s],#[t]⟩,ty,pS,af,gd⟩).run P w=.ok (.value (.tuple #[])) (w.setRow b ((cs.take E++(Builtin.zeroCells z.cells (H+1)).toList++cs.drop (E+(Builtin.zeroCells z.cells (H+1)).toList.length))).toArray):=by
  simp[execOp,resolve,invoke,builtin,G,Builtin.clear_,run_underlying h.u,zeroValue,typeInfo,hi,hz]at O ⊢;simp[O]
 refine xv J (hK _ _ (O1.setRow _ _ _) (XJ I) ?_ ?_)
 ·simp only[oL,o7,o6,hb];omega
 rw[LA,MQ (by simp;omega),M5,Nat.min_self]
theorem J7 {α:Type}{sz:Nat}{g:α->LV}(E:∀x,(g x).length=sz):∀(l:List α) (i:Nat) (u:α),i<l.length->(l.set i u).flatMap g=(l.flatMap g).take (i*sz)++g u++(l.flatMap g).drop (i*sz+sz)
 | [],i,u,h=>OS h oe
 | a::l,0,u,h=>by
  rw[List.set_cons_zero,LG,LG,OK,List.take_zero,L8,LQ,List.drop_append_of_le_length (by rw[E a];exact Lv _),Lp (by rw[E a];exact Lv _),L8]
 | a::l,i+1,u,h=>by
  have G:(i+1)*sz=(g a).length+i*sz:=by rw[E a,Nat.succ_mul];omega
  have H:(i+1)*sz+sz=(g a).length+(i*sz+sz):=oa
  have I:∀(F:LV) k,(g a++F).take ((g a).length+k)=g a++F.take k:=λF k=>by rw[List.take_append,Lr (l:=g a) oa,M8]
  have J:∀(F:LV) k,(g a++F).drop ((g a).length+k)=F.drop k:=λF k=>by rw[List.drop_append,Lp (l:=g a) oa,L8,M8]
  rw[NC,LG,LG,H,G,I,J,J7 E l i u (oy h)];simp only[oT]
theorem QeY [h1:Ag P t sz]{g:α->LV}(E:∀x,(g x).length=sz){x:OZ}{base e:Nat}{l:List α}{u:α}(h:w.ownsRow base e sz (.slice (some ⟨b,0,none⟩) l.length cap) l.length (l.flatMap g))(hx:ev f x=.pointer (some ⟨b,i*sz,none⟩))(I:ev f y=.agg (g u).toArray)(hi:i<l.length)(J:Zp (g u))
  (hK:∀w',O1 [b] w w'->w'.ownsRow base e sz (.slice (some ⟨b,0,none⟩) l.length cap) l.length ((l.set i u).flatMap g)->K (QT f d undef) w'):XO P ⟨d,.store t x y,ty,pS,af,gd⟩ f w K:=by
 rcases h.2 with⟨e1,_⟩|⟨g',cap',cur,e1,O,S,G,T,V,Y⟩
 ·cases e1
 cases e1
 have hB:Q9 w.heap b e cur.toList:=S;have he:l.length*sz<=cap*sz:=LY _ G;have ha:(i+1)*sz<=l.length*sz:=LY _ hi;rw[Nat.succ_mul]at ha;have H:cur.toList.length=cap*sz:=by rw[Array.length_toList];exact V
 have hb:=h.1;refine Yx hB hx I (E u) oa J U λw' hs hc=>hK w' hs ⟨?_,.inr ⟨b,cap,_,U,O,hc,G,T,?_,?_⟩⟩
 ·rw[J7 E l i u hi];simp only[oL,o7,o6,E u,hb];omega
 ·simp only[o9,oL,o7,o6,E u,H];omega
 have hX:(cur.toList.take (i*sz)++g u).length=i*sz+sz:=by simp only[oL,o7,E u,H];omega
 rw[J7 E l i u hi,<-Y];show(cur.toList.take (i*sz)++g u++cur.toList.drop (i*sz+sz)).take (l.length*sz)=_;rw[List.take_append,Lr oa,hX,M5,Ml oa,List.drop_take]
end
section
variable {pS:String}
theorem yS {e bys:Nat}[h:Sl P t e sz bys z]{x E:OZ}{k:IntKind}(hx:ev f x=.slice (some ⟨b,0,none⟩) n cap)(hl:ev f E=.int k lo)(J:lo<=n):
  (execOp (ev f) ⟨d,.slice t x (some E) none none,ty,pS,af,gd⟩).run P w=.ok (.value (.slice (some ⟨b,if cap=lo then 0 else lo*sz,none⟩) (n - lo) (cap - lo))) w:=by
 obtain⟨i,G,_,H,_⟩:=Sl.info h;have e2:(Instr.sliceBound (.int k lo) n .sliceB).run P w=.ok lo w:=ZK J;by_cases I:cap=lo
 ·simp[execOp,hx,hl,Instr.sliceAt,Instr.slice,run_underlying h.u,Instr.sliceBounds,e2,sizeOf,typeInfo,G,H,I]
 simp[execOp,hx,hl,Instr.sliceAt,Instr.slice,run_underlying h.u,Instr.sliceBounds,e2,sizeOf,typeInfo,G,H,I,Addr.add];exact λe=>e.symm
theorem J2 {e bys:Nat}[h:Sl P t e sz bys z]{x E:OZ}{k:IntKind}(hx:ev f x=.slice (some ⟨b,0,none⟩) n cap)(G:ev f E=.int k hi)(H:hi<=cap):
  (execOp (ev f) ⟨d,.slice t x none (some E) none,ty,pS,af,gd⟩).run P w=.ok (.value (.slice (some ⟨b,0,none⟩) hi cap)) w:=by
 obtain⟨i,I,_,J,_⟩:=Sl.info h;have e2:(Instr.sliceBound (.int k hi) cap .sliceAcap).run P w=.ok hi w:=ZK H;simp[execOp,hx,G,Instr.sliceAt,Instr.slice,run_underlying h.u,Instr.sliceBounds,e2,sizeOf,typeInfo,I,Addr.add]
end
theorem Kj {base e:Nat}(h:w.ownsRow base e sz (.slice (some ⟨b,0,none⟩) n cap) n cs):n<=cap/\∃cur:LV,Q9 w.heap b e cur/\cur.length=cap*sz/\cur.take (n*sz)=cs:=by
 rcases h.2 with⟨e1,_⟩|⟨g',cap',cur,e1,J,E,G,O,H,I⟩
 ·cases e1
 cases e1
 exact⟨G,cur.toList,E,by rw[Array.length_toList];exact H,I⟩
theorem V7 {base e k:Nat}{cs' cur:LV}(h:w.ownsRow base e sz (.slice (some ⟨b,0,none⟩) n cap) n cs)(O:k<=n)(E:Q9 w'.heap b e cur)(hl:cur.length=cap*sz)(G:cur.take (k*sz)=cs')(H:cs'.length=k*sz):
  w'.ownsRow base e sz (.slice (some ⟨b,0,none⟩) k cap) k cs':=by
 rcases h.2 with⟨e1,_⟩|⟨g',cap',cur',e1,I,S,T,J,V,Y⟩
 ·cases e1
 cases e1
 exact⟨H,.inr ⟨b,cap,cur.toArray,U,I,E,oa,J,by rw[LR];exact hl,G⟩⟩
theorem xA {α:Type}{sz:Nat}{g:α->LV}(E:∀x,(g x).length=sz):∀l:List α,(l.flatMap g).length=l.length*sz
 | []=>oe
 | a::l=>by rw[LG,Ll,xA E l,E a,LS,Nat.succ_mul];omega
structure yA (base:Nat)(w:OX)(vc va:OY)(co:List IV)(al:List J1):Prop where
 c:w.ownsRow base 71 5 vc co.length (co.flatMap QO)
 a:w.ownsRow base 183 5 va al.length (al.flatMap Zw)
 dj:Dj vc va
 each:∀q∈co,∀t∈QkN q,YH base (ob vc++ob va) w.heap t.1 t.2.1 t.2.2.1 t.2.2.2
section
variable {base:Nat}{vc vc' va':OY}{co:List IV}{al:List J1}
theorem yA.nil:yA base w (nS) (nS) [] []:=⟨QJ _ _ _ _,QJ _ _ _ _,Dj.nil _,λq E=>by cases E⟩
theorem yA.I (h:yA base w vc va co al)(E:O1 [] w w'):yA base w' vc va co al:=⟨Qq h.c E,Qq h.a E,h.dj,λq G t H=>(h.each q G t H).I E⟩
theorem yA.low {X:LN}(h:yA base w vc va co al)(E:O1 X w w')(G:∀b∈X,b<base):yA base w' vc va co al :=
 ⟨Qf h.c E (λb H I=>ou (Qi h.c b H).1 (G b I)),Qf h.a E (λb H I=>ou (Qi h.a b H).1 (G b I)),h.dj,λq J t O=>(h.each q J t O).low E G⟩
theorem yA.avlt (h:yA base w vc va co al):∀b∈ob vc++ob va,b<w.heap.size:=λb E=>(Lc.1 E).elim (Zf h.c b) (Zf h.a b)
theorem yA.setC {q:IV}(h:yA base w vc va co al)(V:∀t∈QkN q,YH base (ob vc++ob va) w.heap t.1 t.2.1 t.2.2.1 t.2.2.2)(Y:w'.ownsRow base 71 5 vc' (co.length+1) (co.flatMap QO++QO q))
  (G:O1 (ob vc) w w') (H:∀b∈ob vc',b∈ob vc\/w.heap.size<=b):yA base w' vc' va (co++[q]) al:=by
 have I:O1 (ob vc++ob va) w w':=G.mono (λb E=>Lc.2 (.inl E));have J:∀b∈ob vc'++ob va,b∈ob vc++ob va\/w.heap.size<=b:=λb E=>by
  rcases Lc.1 E with E|E
  ·exact(H b E).imp (λh=>Lc.2 (.inl h)) id
  exact .inl (Lc.2 (.inr E))
 refine⟨?_,Qf h.a G (λb E ha=>h.dj b ha E),λb E O=>?_,λd hd t S=>?_⟩
 ·rw[Ll,LB];simpa using Y
 ·rcases H b E with T|T
  ·exact h.dj b T O
  have:=Zf h.a b O;omega
 rcases Lc.1 hd with hd|hd
 ·exact(h.each d hd t S).app I J
 simp only[oH]at hd;subst hd;exact(V t S).app I J
theorem yA.setA {G:List J1}(h:yA base w vc va co al)(S:w'.ownsRow base 183 5 va' G.length (G.flatMap Zw))(I:O1 (ob va) w w')(J:∀b∈ob va',b∈ob va\/w.heap.size<=b):yA base w' vc va' co G:=by
 have T:O1 (ob vc++ob va) w w':=I.mono (λb E=>Lc.2 (.inr E));have V:∀b∈ob vc++ob va',b∈ob vc++ob va\/w.heap.size<=b:=λb E=>by
  rcases Lc.1 E with E|E
  ·exact .inl (Lc.2 (.inl E))
  exact(J b E).imp (λh=>Lc.2 (.inr h)) id
 refine⟨Qf h.c I (λb E H=>h.dj b E H),S,λb E H=>?_,λd hd t Y=>(h.each d hd t Y).app T V⟩;rcases J b H with O|O
 ·exact h.dj b E O
 have:=Zf h.c b E;omega
theorem yA.itms (h:yA base w vc va co al)(I:co.length<=1099511627776)(J:∀q∈co,J0 q.nm)(G:∀b∈L,b<base):XH L w.heap vc co :=
 ⟨QK h.c I (λb E hbL=>ou (Qi h.c b E).1 (G b hbL)),λq H=>⟨h.each q H (q.p.va,q.p.a.al.length,1,q.p.a.al.map (.int .i64)) oe L (λb E=>.inl (G b E)),h.each q H (q.p.vm,q.p.a.mr.length,1,q.p.a.mr.map (.int .i64)) oe L (λb E=>.inl (G b E)),h.each q H (q.p.ve,q.p.a.ed.length,3,q.p.a.ed.flatMap QC) oe L (λb E=>.inl (G b E))⟩,J⟩
end
def mzA (s f:Int):Q2:=⟨[s,f],2,[0],[(0,s,1),(1,f,0)]⟩
theorem Qc7 (nm:ByteArray)(s f:Int)(w:OX):Q3 prog 67 [.string nm,oE oF s,oE oF f] w λr w'=>O1 [] w w'/\∃xa xm xe,r=.agg #[.string nm,xa,oE oF 2,xm,xe]/\Zp [xa,xm,xe]/\∀L:LN,(∀b∈L,b<w.heap.size)->ZH L w'.heap xa xm xe (mzA s f):=by
 refine Zq func67 ?_;refine Qc<|Qe<|Qo (us:=[.string .empty,nS,oE oF 0,nS,nS]) U λb6 w1 hf hg T=>xe ?_;have hh:=T.lt;refine Qm<|Qa<|Qe<|QB (us:=[[oE oF s],[oE oF f]]) U U og oe ⟨rfl,rfl,rfl,rfl,Z⟩ λE w2 V ht hi=>Qe<|QB (us:=[[oE oF 0]]) rfl rfl og oe ⟨rfl,rfl,Z⟩ λG w3 J hu hj =>
  Qa<|x (Qy ⟨U,U,U,Z⟩)<|Qa<|x (Qy ⟨U,U,U,Z⟩)<|Qe<|QB (us:=[QC (0,s,1),QC (1,f,0)]) U U og (by exact(by decide:2*3<=1000000)) oB λH Y O hv hk=>?_
 have ha:=(V.D J).D O;have hl:=hf.D ha;have hw:=V.size;have hy:=J.size;have hF:Kg w1.heap.size Y.heap (.agg #[.slice (some ⟨E,0,none⟩) 2 2,oE oF 2,.slice (some ⟨G,0,none⟩) 1 1,.slice (some ⟨H,0,none⟩) 2 2]) (mzA s f):=
  jI (a:=mzA s f) ((hi.I J).I O) (hj.I O) hk oa oa oa U U U og og og
 refine x (Qy ⟨U,U,U,U,Z⟩)<|Qe<|Qo (us:=X4) U λb7 w5 hm hn ho=>Qe<|Qj (us:=[.slice (some ⟨E,0,none⟩) 2 2,oE oF 2,.slice (some ⟨G,0,none⟩) 1 1,.slice (some ⟨H,0,none⟩) 2 2]) ho U U U U oB λw6 hp hq=>xe ?_;have S:O1 [] Y w6:=hm.O hp hn;refine Qm<|Q6 hq U U<|x (Zc [(0,[.string nm]),(1,[.slice (some ⟨E,0,none⟩) 2 2,oE oF 2,.slice (some ⟨G,0,none⟩) 1 1,.slice (some ⟨H,0,none⟩) 2 2])] ⟨U,U,U,U,Z⟩) <|
  Qe<|Qj (us:=[.string nm,.slice (some ⟨E,0,none⟩) 2 2,oE oF 2,.slice (some ⟨G,0,none⟩) 1 1,.slice (some ⟨H,0,none⟩) 2 2]) ((T.I ha).I S) U U U U ⟨U,U,U,U,U,Z⟩ λw7 hc hr=>xe ?_
 obtain⟨xa,xm,hz,hs,hA⟩:=hF;have he:=OR (λv=>match v with|Value.agg cs=>cs.toList|_=>[]) hs
 simp only[List.cons.injEq,and_true]at he;obtain⟨rfl,_,rfl,rfl⟩:=he;refine Qk ⟨[.agg #[.string nm,.slice (some ⟨E,0,none⟩) 2 2,oE oF 2,.slice (some ⟨G,0,none⟩) 1 1,.slice (some ⟨H,0,none⟩) 2 2]],⟨⟨_,U,Qn U (hr.at (L:=[]) oe).cells⟩,Z⟩,(hl.D S).O hc hg,_,_,_,rfl,⟨rfl,rfl,rfl,Z⟩,λL hL=>?_⟩;have h1:=(hA (b6::L) (λb I=>by
  rcases Li.1 I with rfl|I
  ·exact hh
  have:=hL b I;omega)).I S
 exact(h1.st (hc.mono oe)).up (λb I=>.inl (Lj _ I))
def nmZ (p:Array UInt8)(i:Nat):ByteArray:=⟨p⟩++⟨#[UInt8.ofNat (97+i)]⟩
abbrev QgX:Array UInt8:=#[115,116,97,114,116]
abbrev Qdq:Array UInt8:=#[102,105,110,105,115,104]
abbrev Jp:Array UInt8:=#[109,97,99,104,105,110,101]
def Qa7 (i:Nat):List J1:=[⟨nmZ QgX i,true,true,false,0⟩,⟨nmZ Qdq i,false,true,false,0⟩]
def mzE (c:Nat):List J1:=(oW c).flatMap Qa7
def Qol (i:Nat):YU:=⟨nmZ Jp i,mzA (2*(i:Int)) (2*(i:Int)+1)⟩
def mzC (c:Nat):Zx:=⟨mzE c,(oW c).map Qol,[],[],[]⟩
theorem UL (p:Array UInt8)(i:Nat)(h:p.size<=10):J0 (nmZ p i):=by
 show(ByteArray.mk _++ByteArray.mk _).size<=_;rw[ByteArray.size_append];show p.size+1<=_;omega
theorem QmI (c:Nat):∀e∈mzE c,J0 e.nm:=λe E=>by
 unfold mzE at E;obtain⟨i,_,hi⟩:=Ma.1 E;simp only[Qa7,oK,oI,or_false]at hi;rcases hi with rfl|rfl
 ·exact UL _ _ og
 exact UL _ _ og
theorem Qa8 (c:Nat):mzE (c+1)=mzE c++Qa7 c:=by unfold mzE;rw[ND,LB];simp
theorem Qdy:∀c,(mzE c).length=2*c
 | 0=>rfl
 | c+1=>by rw[Qa8,Ll,Qdy c];show 2*c+2=_;omega
theorem Qe2 (i:Nat):∀u∈(Qa7 i).flatMap Zw,u.oneCell'=true:=λu E=>by
 obtain⟨e,_,G⟩:=Ma.1 E;exact Qh4 e u G
theorem Xo (c:Nat)(hX:c<=4)(w:OX):Q3 prog 30 [oE oF c] w λr w'=>O1 [] w w'/\QfV w.heap.size w'.heap r (mzC c):=by
 refine Zq func30 ?_;refine Qc<|Qe<|Qo (us:=Z3) U λb2 w1 hE hY hv=>xe ?_;refine Qc<|Qe<|Qo (us:=Z3) U λJ O hw hZ hy=>xe ?_;have hF:=hE.D hw;have ga:=hv.lt;have hj:=hy.lt;have hG:=hv.I hw;refine Qd<|Qm<|Qa<|xe<|Qg<|QD (α:=Nat×OY×List J1×OY×List IV) [(4,4),(6,42)] (λz=>[(6,oE oF z.1)])
  (λz w'=>z.1<=c/\O1 [J] O w'/\Q9 w'.heap J 44 [z.2.1,z.2.2.2.1,Z8,Z8,Z8]/\yA O.heap.size w' z.2.2.2.1 z.2.1 z.2.2.2.2 z.2.2.1/\z.2.2.1=mzE z.1/\z.2.2.2.2.map IV.it=(oW z.1).map Qol/\∀q∈z.2.2.2.2,J0 q.nm)
  (λz=>c - z.1) ol (0,Z8,[],Z8,[]) La ⟨Lo _,O1.Z _ _,hy,yA.nil,U,U,λq E=>by cases E⟩ ?_
 rintro⟨i,ve,ev,vc,co⟩ g3 w3 ⟨hi,ha,hf,H,S,T,hk⟩;simp only[]at hi hf H S T hk;have gb:=ha.size;have gc:ev.length=2*i:=by rw[S];exact Qdy i
 have gg:co.length=i:=by have:=OR oO T;simpa using this
 refine Qc<|Q0 U U<|xe<|Qd<|QH U (λh7=>?_) (λh7=>?_)
 ·refine Qz ?_;have hH:i=c:=by have h8:¬(i:Int)<(c:Int):=h7;omega
  rw[hH]at S T;have hI:b2∉[J]:=om
  have hm:=hG.J ha hI;refine Qc<|Q6 hf U U<|Qe<|Qj (us:=[ve,vc,Z8,Z8,Z8]) hm U U U U ⟨Qu H.a,Qu H.c,U,U,U,Z⟩ λw4 I hJ=>xe ?_;have hK:∀b∈[b2],b<O.heap.size:=λb G=>by rw[Lb.1 G];omega
  have hn:=H.low I hK;refine Qk ⟨[.agg #[ve,vc,Z8,Z8,Z8]],⟨⟨_,U,Qn U (hJ.at (L:=[]) oe).cells⟩,Z⟩,(hF.O ha oa).O I oa,⟨ve,vc,Z8,Z8,Z8,ev,co,[],[],[]⟩,rfl,?_,λL hL=>?_⟩
  ·show(⟨ev,co.map IV.it,[],[],[]⟩:Zx)=mzC c;rw[S,T];rfl
  have hz:∀b∈L,b<O.heap.size:=λb G=>ot (hL b G)
  exact⟨⟨QK hn.a (by show ev.length<=_;omega) (λb G hbL=>ou (Qi hn.a b G).1 (hz b hbL)),λe he=>QmI c e (by rw[<-S];exact he)⟩,hn.itms oa hk hz,⟨Zm.nil _ _ 5,λq E=>(by cases E),λq E=>(by cases E)⟩,⟨Zm.nil _ _ 2,λq E=>(by cases E),λq E=>(by cases E)⟩,⟨Zm.nil _ _ 3,λq E=>(by cases E),λq E=>(by cases E)⟩⟩
 have hM:i<c:=by have h8:(i:Int)<(c:Int):=h7;omega
 have hu:(97:Int)+(i:Int)=((97+i:Nat):Int):=oa
 refine Qh<|Qd<|Qg<|Qm<|Qb<|Qc<|Qs U hf U U<|Qa<|QS U U<|x (XM (k':=.i32) U ⟨oa,oa⟩)<|x (Qcj (n:=97+i) (OR (Value.int .i32) hu) oa)<|x (Ja (a:=⟨QgX⟩) (b:=⟨#[UInt8.ofNat (97+i)]⟩) U U (by show 5+1<=1000000000;omega))<|x (Qy ⟨U,U,U,Z⟩) <|
  Qa<|QS rfl U<|x (XM (k':=.i32) U ⟨oa,oa⟩)<|x (Qcj (n:=97+i) (OR (Value.int .i32) hu) oa)<|x (Ja (a:=⟨Qdq⟩) (b:=⟨#[UInt8.ofNat (97+i)]⟩) U U (by show 6+1<=1000000000;omega))<|x (Qy ⟨U,U,Z⟩) <|
  Qe<|QB (us:=(Qa7 i).map Zw) U U og (by exact(by decide:2*5<=1000000)) oB λgh w4 I gi hm=>?_
 have gj:=I.size;have hN:J∉ob ve:=Zh H.a hj;have h0:J∉ob vc:=Zh H.c hj;have hge:=Qi H.a;have hO:=Qi H.c;refine Qe<|Zb (m:=2) (news:=(Qa7 i).flatMap Zw) (L:=[]) (Qq H.a I) U U U (hm.at oe) (Qe2 i) oa oa λho w5 h1 hp hP=>?_;refine Q7 rfl<|Qe<|QE (j:=0) (u:=ho) ((hf.I I).J hp hN) U U oe (Qu h1) λV h2 h3=>xe ?_;have hQ:yA O.heap.size w5 vc ho co (ev++Qa7 i):=(H.I I).setA (by rw[Ll,LB];exact h1) hp hP;have h4:∀b∈[J],b<O.heap.size:=λb G=>by rw[Lb.1 G];exact hj
 have h5:=hQ.low h2 h4;have h6:O1 [J] O V:=((ha.D I.any).then hp (λb G=>.inr (hge b G).1)).Q h2;have gk:=h6.size;have hR:O1 [] V { V with drawn:=V.drawn+1 }:=O1.C _ _
 refine ZI (ob vc) (Xx 0 17 [12,13,14,16])<|p (QR U)<|pq (λ_ hc=>Qr (h3.J hc h0) U U)<|p QF<|p (λ_=>Xu U U ⟨oa,oa⟩)<|p (λ_=>XM (k':=.i32) U ⟨oa,oa⟩)<|p (λ_=>Qcj (n:=97+i) (OR (Value.int .i32) hu) oa) <|
  p (λ_=>Ja (a:=⟨Jp⟩) (b:=⟨#[UInt8.ofNat (97+i)]⟩) U U (by show 7+1<=1000000000;omega))<|p QF<|p (λ_=>QgO U U ⟨oa,oa⟩)<|p QF<|p (λ_=>QgO U U ⟨oa,oa⟩)<|p (λ_=>Xu U U ⟨oa,oa⟩) <|
  pk<|xg<|(Qc7 (nmZ Jp i) (2*(i:Int)) (2*(i:Int)+1) _).mono ?_
 rintro r7 w7 ⟨hS,xa,xm,hg,rfl,hr,hA⟩;have hs:=hR.D hS;refine⟨hs.any,?_⟩;refine pk<|QB (us:=[QO ⟨nmZ Jp i,⟨xa,xm,hg,mzA (2*(i:Int)) (2*(i:Int)+1)⟩⟩]) U U og (show 1*5<=1000000 by omega) oz λgl w8 ht gm hT=>⟨(hs.D ht).any,?_⟩;have Y:=hs.D ht;have h9:=h5.I Y;refine pk<|Zb (news:=QO ⟨nmZ Jp i,⟨xa,xm,hg,mzA (2*(i:Int)) (2*(i:Int)+1)⟩⟩) (L:=[]) h9.c U U U (hT.at oe) (QkM hr.1 hr.2.1 hr.2.2.1) oa (ot Y.size) λhB w9 hC hh hU=>⟨(Y.any (L:=ob vc)).Q hh,?_⟩;have hV:=h9.setC (QhB (q:=⟨nmZ Jp i,⟨xa,xm,hg,mzA (2*(i:Int)) (2*(i:Int)+1)⟩⟩) (N:=V.heap.size) (λL hL=>(hA L hL).I ht) oa h5.avlt) hC hh hU;refine p (QR U)<|pkl (hl:=by kernel_rfl)<|QE (j:=1) (u:=hB) ((h3.I Y).J hh h0) U U oe (Qu hC) λgn hD hW=>pe ?_;refine Qw<|QS U U<|Qa<|xe<|⟨(i+1,ho,ev++Qa7 i,hB,co++[⟨nmZ Jp i,⟨xa,xm,hg,mzA (2*(i:Int)) (2*(i:Int)+1)⟩⟩]),oh,La,hM,((h6.D Y.any).then hh (λb G=>.inr (hO b G).1)).Q hD,hW,hV.low hD h4,?_,?_,λq E=>?_⟩
 ·simp only[];rw[Qa8,S]
 ·simp only[];rw[Lt,T,ND,Lt];rfl
 rcases Lc.1 E with E|E
 ·exact hk q E
 rw[Lb.1 E];exact UL _ _ og
section
variable {pS:String}
abbrev i4 (p:Int×Int×Int×Int):LV:=[oE oF p.1,oE oF p.2.1,oE oF p.2.2.1,oE oF p.2.2.2]
class S4 (P:O0)(t:Nat):Prop where
 u:∃f0 f1 f2 f3,P.underlying t=some (.struct #[f0,f1,f2,f3])/\f0.name ≠ "_" /\ f1.name ≠ "_" /\ f2.name ≠ "_" /\ f3.name ≠ "_" /\ f0.offset=0/\f1.offset=1/\f2.offset=2/\f3.offset=3 /\
  P.underlying f0.type=some (.int .i64)/\P.underlying f1.type=some (.int .i64)/\P.underlying f2.type=some (.int .i64)/\P.underlying f3.type=some (.int .i64)
 s:P.stoodInHeld t=false
 g:P.eqGuardType P.depth t=false
theorem jT [h:S4 P t](w:OX)(p:Int×Int×Int×Int):(Op.equal t (.agg (i4 p).toArray) (.agg (i4 p).toArray)).run P w=.ok true w:=by
 obtain⟨a,b,c,e⟩:=p;obtain⟨f0,f1,f2,f3,O,S,n1,T,V,Y,o1,o2,o3,I,J,u2,u3⟩:=h.u;have G:∀e w,P.underlying e=some (.int .i64)->(isAgg e).run P w=.ok false w:=λe w E=>by simp[isAgg,run_underlying E]
 have hp:∀e (x y z u:Int) (w:OX),P.underlying e=some (.int .i64)->(part e #[oE oF x,oE oF y,oE oF z,oE oF u] 0).run P w=.ok (oE oF x) w:=λe x y z u w E=>by simp[part,G e w E]
 have ha:∀e (x y z u:Int) (w:OX),P.underlying e=some (.int .i64)->(part e #[oE oF x,oE oF y,oE oF z,oE oF u] 1).run P w=.ok (oE oF y) w:=λe x y z u w E=>by simp[part,G e w E]
 have hb:∀e (x y z u:Int) (w:OX),P.underlying e=some (.int .i64)->(part e #[oE oF x,oE oF y,oE oF z,oE oF u] 2).run P w=.ok (oE oF z) w:=λe x y z u w E=>by simp[part,G e w E]
 have hc:∀e (x y z u:Int) (w:OX),P.underlying e=some (.int .i64)->(part e #[oE oF x,oE oF y,oE oF z,oE oF u] 3).run P w=.ok (oE oF u) w:=λe x y z u w E=>by simp[part,G e w E]
 have H:∀e (m:Nat) (x y:Int) (w:OX),P.underlying e=some (.int .i64)->(Op.equalIn (m+1) e (oE oF x) (oE oF y)).run P w=.ok (x == y) w:=λe m x y w E=>by simp[Op.equalIn,run_underlying E]
 have key:∀m,(Op.equalIn (m+2) t (.agg (i4 (a,b,c,e)).toArray) (.agg (i4 (a,b,c,e)).toArray)).run P w=.ok true w:=by
  intro m;simp only[i4];unfold Op.equalIn;simp only[Sem.run_bind,run_underlying O,Result.andThen_ok];simp[h.s,S,n1,T,V,Y,o1,o2,o3,hp _ _ _ _ _ _ I,ha _ _ _ _ _ _ J,hb _ _ _ _ _ _ u2,hc _ _ _ _ _ _ u3,H _ _ _ _ _ I,H _ _ _ _ _ J,H _ _ _ _ _ u2,H _ _ _ _ _ u3]
 exact key 9998
theorem QgN [h:S4 P t]{x:OZ}{p:Int×Int×Int×Int}(hx:ev f x=.agg (i4 p).toArray)(G:ev f y=.agg (i4 p).toArray):
  (execOp (ev f) ⟨d,.binOp .neq t x y E,ty,pS,af,gd⟩).run P w=.ok (.value (.bool false)) w:=by
 have H:(eqGuard .neq t x y (.agg (i4 p).toArray) (.agg (i4 p).toArray)).run P w=.ok () w:=by simp[eqGuard,h.g]
 simp only[execOp,hx,G,Sem.run_bind,H,Result.andThen_ok,binOp,jT,Sem.run_pure];rfl
end
instance s4Rsn:S4 prog 185:=⟨⟨_,_,_,_,underlying185,og,og,og,og,U,U,U,U,underlying3,underlying3,underlying3,underlying3⟩,od,od⟩
theorem US {v:OY}{l:List Rsn}(h:Zm L w.heap v l.length 4 (l.flatMap ZX))(G:Zm L' w.heap v' l.length 4 (l.flatMap ZX)):
  Q3 prog 136 [v,v'] w λr w'=>r=.bool true/\O1 [] w w':=by
 have ha:=h.le;refine Zq func136 ?_;refine Qc<|Qb<|Qd<|Qm<|QI h U<|Qa<|QI G U<|ZB U U<|xe<|QX rfl (λJ=>OS U J) (λJ=>?_);refine Qh<|Qd<|Qm<|QI h U<|Qa<|xe<|Qg<|QD (α:=Nat) [(4,5),(13,25)] (λk=>[(13,oE oF k)]) (λk w'=>O1 [] w w'/\k<=l.length) (λk=>l.length - k) ol 0 La ⟨O1.Z _ _,Lo _⟩ ?_;rintro k g O ⟨H,hk⟩
 replace h:=h.I H
 replace G:=G.I H;refine Qc<|Q0 U U<|xe<|Qd<|QH U (λS=>?_) (λS=>?_)
 ·refine Qz<|Qc<|Qb<|Qk ⟨[.bool true],La,U,H⟩
 have E:k<l.length:=oa
 refine Qh<|Qd<|Qg<|Qm<|Qb<|Qd<|ZI [] (Xx 0 9 [])<|p QF<|p QF<|Lg.pig (g:=ZX) (i:=k) U QgE h U U E λhb T=>pq (λ_ I=>Qx (T.I I) U U) <|
  p QF<|p QF<|Lg.pig (g:=ZX) (i:=k) U QgE G U U E λhe V=>pq (λ_ I=>Qx (V.I I) U U)<|p (λ_=>QgN (p:=((l[k]'E).st,(l[k]'E).kd,(l[k]'E).ix,(l[k]'E).ev)) U U)<|pe ?_
 have Y:=H.D (O1.C [] O);refine ZS rfl<|Qh<|Qw<|QS U U<|Qa<|xe ?_;exact⟨k+1,oa,La,Y,oa⟩
def V8:ByteArray:=⟨#[110,101,118,101,114]⟩
def YY:ByteArray:=⟨#[98,111,116,104]⟩
def j2:ByteArray:=⟨#[109,111,115,116]⟩
def Qad:YU:=⟨V8,⟨[1],1,[0],[]⟩⟩
def Qh1 (i j:Int):UA:=⟨YY,[(i,1),(j,1)]⟩
def Qns:xG:=⟨j2,[(0,1),(1,1)],1⟩
def k1C:Zx:={ mzC 1 with rq:=[Qad] }
def k2C:Zx:={ mzC 2 with ex:=[Qh1 0 1] }
def k3C:Zx:={ mzC 2 with cs:=[Qns] }
theorem Qox:YS k1C=0:=od
theorem Qow:(spc k1C).fb=[⟨1,3,0,1⟩]:=od
theorem Ql2:(spc k1C).a.st=2:=od
theorem QmU:Qeh k1C=true:=od
theorem QmV:cmB k1C=[2]:=od
theorem QpB:YS k2C=0:=od
theorem Qou:(spc k2C).fb=[⟨3,1,0,-1⟩]:=od
theorem Qot:(spc k2C).a.st=4:=od
theorem QpA:YS k3C=0:=od
theorem Qos:(spc k3C).fb=[⟨3,2,0,-1⟩]:=od
theorem Qex {v:OY}(E:v.cells=#[v]):Q3 prog 265 [v] w λr w'=>O1 [] w w'/\∃b,r=.func (.func 310) #[] #[.pointer (some ⟨b,0,none⟩)]/\w.heap.size<=b/\Q9 w'.heap b 56 [v]:=by
 refine Zq func265 ?_;refine Qc<|Qe<|QW (us:=[v]) E λb1 J G H I=>Qb<|Qc<|x Zz<|Qb<|Qk ⟨[_],La,G,b1,U,H,I⟩
theorem QaD {m:Nat}{v:OY}{es:LI}(hb:Q9 w.heap b1 56 [v])(hE:QP L w.heap v es):
  SeqStopsK (fen none) m prog 310 #[.pointer (some ⟨b1,0,none⟩)] (λx:Int=>#[oE oF x]) (Lw w.heap.size L) (λys=>ys=es) (λ_=>True) (es.length+1) w:=by
 intro l J Jx W hc hJ hf hY h0;have S:O1 [] w W:=O1.of_below hc;have hm:=hE.le;have ab:∀{ys:LI} {W1 W2:OX},J ys W1->O1 [] W1 W2->J ys W2:=λ{ys W1 W2} hj I=>hJ ys W1 W2 none hj ⟨I.os,I.tape,I.output,I.size,λk O _=>I.block k O oe⟩ (λr e=>by cases e);have key:Q3 prog 310 [.func (.yield l) #[] #[],.pointer (some ⟨b1,0,none⟩)] W (λ_ W'=>(∃ys,ys=es/\J ys W')\/(∃pre,True/\Jx pre W')):=by
  refine Q3.of_G m func310 U ntmps310 results310 oe ?_;have hg:=hb.I S;refine Zg<|QL ol ol<|X2 hg U U<|QI (hE.I S) U<|Qa<|xe<|Z7<|U4 (α:=Nat) [(4,4),(7,15)] (λk=>[(7,oE oF k)]) (λk ds W'=>ds=[]/\k<=es.length/\O1 L w W'/\J (es.take k) W') (λk=>es.length - k) ol 0 La
   ⟨U,Lo _,S.any,h0⟩ ?_
  rintro k g ds w1 ⟨rfl,O,ha,T⟩;refine Zg<|QL ol ol<|Q0 U U<|xe<|Zg<|jH U (λV=>?_) (λV=>?_)
  ·refine K6 ?_;have hh:es.length<=k:=by have Y:¬(k:Int)<(es.length:Int):=V;omega
   rw[Lr hh]at T;exact⟨λ_ h=>(by cases h),ME,[],λW' E=>⟨Z,.inl ⟨es,rfl,ab T E⟩⟩⟩
  refine YG ?_;have G:k<es.length:=by have Y:(k:Int)<(es.length:Int):=V;omega
  have hi:es.take (k+1)=es.take k++[es[k]'G]:=Lm G;have hn:(es.take k).length=k:=by rw[Ly];omega
  refine Zg<|Z7<|Zg<|QL ol ol<|xii (i:=k) (hE.st ha) U U G λa9 Y=>x (QA Y U)<|Qb<|Zg<|Vj ol ?_;refine JG.pre2 ?_;refine Qa<|Qa<|xe<|xy (l:=l) U (hY (es.take k) (es[k]'G) w1 T oa) λen W3 hl=>Or.elim hl (λH=>⟨.bool true,H.1,?_⟩) (λH=>⟨.bool false,H.1,?_⟩)
  ·refine JG.of_XL<|x (ZC U)<|xe<|Vk U<|YG ?_;refine QL ol ol<|QS U U<|Qa<|xe ?_;exact⟨k+1,oa,La,U,G,ha.lw H.2.2,by rw[hi];exact H.2.1⟩
  refine JG.of_XL<|x (ZC U)<|xe<|Qar U ?_;refine K5 ⟨λ_ h=>(by cases h),ME,[],λW' E=>⟨Z,.inr ⟨es.take k++[es[k]'G],Z,?_⟩⟩⟩;exact hf _ W3 W' none H.2 ⟨E.os,E.tape,E.output,E.size,λk O _=>E.block k O oe⟩ (λr e=>by cases e)
 refine(callsIn_wide (n:=m)).2 ?_;have ea:(#[.func (.yield l) #[] #[]]++[.pointer (some ⟨b1,0,none⟩)].toArray:Array OY)=#[.func (.yield l) #[] #[],.pointer (some ⟨b1,0,none⟩)]:=oe
 rw[ea];unfold Q3 at key;refine Calls.mono key λe w' he=>?_;cases e with
 | returned v=>exact⟨⟨v,U⟩,he⟩
 | panicked c=>exact he.elim
 | outgrown=>exact he.elim
theorem QfK {v:OY}{es:LI}(hh:Q9 w.heap b1 56 [v])(hE:QP [] w.heap v es)(hl:es.length<=1000):
  Q3 prog 338 [Z8,.func (.func 310) #[] #[.pointer (some ⟨b1,0,none⟩)]] w λr w'=>O1 [] w w'/\Qv 3 w.heap.size w' r es:=by
 refine Q3.of_G 20 func338 U ntmps338 results338 oe ?_;refine Zg<|QL ol ol<|Qe<|QW (us:=[Z8]) U λb2 w1 S ha hc=>Qb ?_;have ho:=S.size;have hp:=hc.lt;refine Zg<|Zg<|QL ol ol<|Qa<|xe<|Z7<|QlL (α:=Int) [b2] oa (capt:=[.pointer (some ⟨b1,0,none⟩)]) U (enc:=λx=>oE oF x) og
  (QaD (hh.I S) ((hE.up (L':=[b2]) (λb E=>.inr (by rw[Lb.1 E];exact ha))).I S))
  (λpre W=>∃vo,O1 [b2] w1 W/\Q9 W.heap b2 56 [vo]/\Qv 3 w1.heap.size W vo pre)
  (λpre=>Yt.ex λvo=>(Yt.J (Lv _)).and (Yt.blk.and Yt.row))
  ⟨Z8,O1.Z _ _,hc,QJ _ _ _ _⟩
  (λf x T W=>T=upd (upd f 7 (oE oF x)) 5 (oE oF x)) (λx T=>Yt.pure _) ?_ ?_ ?_
 ·rintro l pre e W ⟨vo,J,I,G⟩;refine QL ol ol<|Qb<|⟨U,Ks.refl _ _ _,⟨vo,J,I,G⟩,U⟩
 ·rintro l pre e T W ⟨vo,J,I,G⟩ rfl hN;have he:b2∉ob vo:=Zh G oa;have hge:=Qi G;have hi:=J.size;refine Z7<|QL ol ol<|X2 I U U<|Qa<|Qe<|QB (us:=[[oE oF e]]) U U og oe ⟨rfl,rfl,Z⟩ λhq w2 H hr hj=>?_;refine Qe<|Zb (m:=1) (news:=[oE oF e]) (Qq G H) U U U (hj.at (L:=[]) oe) (by simp[Value.oneCell']) oa (ot H.size) λv3 w3 V O hs=>?_;refine Qe<|QE (u:=v3) ((I.I H).J O he) U U oe (Qu V) λw4 Y hk=>xe ?_;have ht:=H.size;refine⟨((Ks.I H hi).D (Ks.J O oa (λb E=>⟨.inr (hge b E).1,Go.Lg.QU (Qq G H) b E⟩))).D (Ks.blk Y (ot O.size) ((I.I H).J O he) (.inl Lq)),v3,((J.D H.any).then O (λb E=>.inr (hge b E).1)).Q Y,hk,?_⟩;have h9:=Qf V Y (λb E=>by have:=(Qi V b E).1;simp only[oH];omega);exact Qv.snoc h9
 rintro D xs W hD rfl ⟨vo,J,I,G⟩ hf;refine Zg<|QL ol ol<|X2 I U U<|Qb<|K5 ⟨λD' hn=>by rw[Lb.1 hn];exact hf,List.pairwise_singleton _ _,[vo],λW' hg=>⟨La,(S.O J ha).then hg (λb E=>.inr (by rw[Lb.1 E];omega)),?_⟩⟩;refine Zy (Qf G hg (λb E hm=>?_)) oa;rw[Lb.1 hm]at E;obtain⟨o,h1,h2⟩:=Go.Lg.QU G _ E;rw[hf]at h1;cases h1
 cases h2
theorem QcN {v:OY}{es:LI}(E:Q9 w.heap b1 56 [v])(hE:QP [] w.heap v es)(hl:es.length<=1000):
  Q3 prog 309 [.func (.func 310) #[] #[.pointer (some ⟨b1,0,none⟩)]] w λr w'=>O1 [] w w'/\Qv 3 w.heap.size w' r es:=by
 refine Zq func309 ?_;refine Qc<|Qb<|Qm<|QM<|(QfK E hE hl).mono ?_;rintro v1 I ⟨G,H⟩;refine Qb<|Qk ⟨[v1],La,G,H⟩
theorem QeB {v:OY}{es:LI}(G:Q9 w.heap b1 56 [v])(hE:QP [] w.heap v es)(hl:es.length<=1000):
  Q3 prog 264 [.func (.func 310) #[] #[.pointer (some ⟨b1,0,none⟩)]] w λr w'=>O1 [] w w'/\Qv 3 w.heap.size w' r (es.mergeSort λx y=>decide (x<=y)):=by
 refine Zq func264 ?_;refine Qc<|Qb<|Qm<|QM<|(QcN G hE hl).mono ?_;rintro v1 S ⟨H,E⟩;refine Qb<|Qm<|QM<|(QeF E oa).mono ?_;rintro T V ⟨I,J⟩;refine xe<|Qm<|Qb<|Qk ⟨[v1],La,H.then I (λb O=>.inr (Qi E b O).1),J⟩
theorem QhI:∀{l:LI}{k:Nat}(h:k<l.length) {n:Int},l[k]'h=n->n∉l.take k->l.idxOf n=k
 | [],_,h,_,_,_=>by simp at h
 | a::l,0,_,n,e,_=>by
  have e2:a=n:=e;rw[e2,List.idxOf_cons_self]
 | a::l,k+1,h,n,e,E=>by
  have G:a≠n:=λe2=>E (by rw[Nd,e2];exact Lq);rw[List.idxOf_cons,show(a == n)=false by simpa using G];show List.idxOf n l+1=k+1;have:=QhI (l:=l) (k:=k) (oy h) (oy e) (λH=>E (by rw[List.take_succ_cons];exact Lj _ H));omega
theorem Qna {v:OY}(h:QP L w.heap v l){n:Int}(I:n∈l):
  Q3 prog 75 [v,oE oF n] w λr w'=>w'=w/\r=oE oF (l.idxOf n:Nat):=by
 have S:=h.le;refine Zq func75 ?_;refine Qc<|Qb<|Qd<|Qm<|QI h U<|Qa<|xe<|Qg<|QD (α:=Nat) [(4,5),(8,18)] (λk=>[(8,oE oF k)]) (λk w'=>w'=w/\k<=l.length/\n∉l.take k) (λk=>l.length - k) ol 0 La ⟨U,Lo _,oe⟩ ?_;rintro k g T ⟨rfl,V,E⟩;refine Qc<|Q0 U U<|xe<|Qd<|QH U (λJ=>?_) (λJ=>?_)
 ·exfalso;rw[Lr oa]at E;exact E I
 have G:k<l.length:=oa
 refine Qh<|Qd<|Qg<|Qm<|Qb<|Qm<|Qa<|Qa<|xii h U U G λY O=>x (QA O U)<|x (QY U U)<|xe<|QX rfl (λH=>?_) (λH=>?_)
 ·refine Qm<|Qb<|Qk ⟨[oE oF k],La,U,OR (λm:Nat=>oE oF m) (QhI G (Eq.symm H) E).symm⟩
 refine Qh<|Qw<|QS U U<|Qa<|xe<|⟨k+1,oa,La,U,oa,?_⟩;rw[Lm G,Lc,Lb];exact λh=>h.elim E H
def rlE (a:Q2)(to:LI):List Ed:=a.ed.map λe=>(e.1,O2 to (a.al.idxOf e.2.1),e.2.2)
theorem Qc3 {to sa:LI}{se:List Ed}(h:ZH [] w.heap va vm ve a)(g4:X9 a=0)(ho:ZD a)(ht:QP [] w.heap vt to)(hD:to.length=a.al.length)(hN:∀e∈to,0<=e/\e<32)(g5:to.Nodup)
  (hO:to.mergeSort (λx y=>decide (x<=y))=sa) (g6:∀l',l'.Perm (rlE a to)->l'.Pairwise Qbt->l'=se) (g7:ZD ⟨sa,a.st,a.mr,se⟩):
  Q3 prog 203 [.agg #[va,oE oF a.st,vm,ve],vt] w λr w'=>O1 [] w w'/\∃v,r=.tuple #[v,oE oF 0]/\Kg w.heap.size w'.heap v (Yc ⟨sa,a.st,a.mr,se⟩):=by
 have mt:=ho.st0;have mu:=ho.st1;have mv:=ho.al_le;refine Zq func203 ?_;refine Qc<|Qe<|QW (us:=[va,oE oF a.st,vm,ve]) U λb2 w1 hP mw g8=>Qe<|Qo (us:=X4) U λb4 w2 hQ my hR=>Qb ?_;have hS:=hP.D hQ;have mz:=hP.size;have m2:=hR.lt;have hT:=g8.I hQ;refine Qd<|Qc<|Q6 hT U U<|QM<|(X1 (h.I hS)).mono ?_;rintro r3 w3 ⟨hU,hz⟩;rw[g4]at hU;subst hU;have hE:=hS.D hz;have m3:=hz.size;have hh:=hT.I hz;have g9:=hR.I hz;refine Qb<|Qm<|ZB U U<|xe<|ZS rfl<|Qh ?_;have h0:=h.I hE;have V:=ht.I hE;refine Qd<|Qm<|QI V U<|Qs U hh U U<|QI h0.al U<|ZB U U<|xe<|QX rfl (λhV=>OS (OR (λm:Nat=>(m:Int)) hD) hV) (λhV=>?_);refine Qh<|Za (α:=Unit) [(5,5),(7,8),(25,47)] (λ_=>[]) (λ_ w'=>w'=w3) ol ?_ ?_
 ·refine Qm<|QI V U<|Qa<|xe<|Qg<|QD (α:=Nat) [(5,5),(7,8),(27,47)] (λk=>[(27,oE oF k)]) (λk w'=>w'=w3/\k<=to.length) (λk=>to.length - k) ol 0 La ⟨U,Lo _⟩ ?_;rintro k g w' ⟨rfl,hk⟩;refine Qc<|Q0 U U<|xe<|Qd<|QH U (λhW=>?_) (λhW=>?_)
  ·refine Qz ?_;exact⟨(),Z,U⟩
  have I:k<to.length:=by have m4:(k:Int)<(to.length:Int):=hW;omega
  have ka:=hN _ (Lk I);have hX:(to[k]'I)∉to.take k:=λhm=>by
   obtain⟨j,hj,hY⟩:=LP hm;rw[Nm]at hY;have kb:j<k:=by rw[Ly]at hj;omega
   have:=(MH.1 g5) j k oa I kb;exact this hY
  refine Zo (to[k]'I) λe T=>?_;rw[T]at ka hX;refine Qh<|Qd<|Qg<|Qm<|xii V U U I λm5 hZ=>?_;rw[T]at hZ;refine x (QA hZ U)<|x Ql<|Qb<|Qg<|Qm<|xb (YP U U) (λga=>OS (show e<0 from ga) oa) (λga=>?_);refine Qa<|Qa<|x (Yw U U)<|QG U<|Qb<|QX U (λgb=>OS (show e≥32 from gb) oa) (λgb=>?_);refine Qm<|Qa<|Qmf V U U oa λkc ke=>?_;have kf:QP [] w'.heap kc (to.take k):=by
   unfold QP;have kg:(to.take k).length=k:=by rw[Ly];omega
   rw[kg,Nr];simpa using ke
  refine Qa<|QM<|(Yr kf e).mono ?_;rintro m6 w' ⟨rfl,rfl⟩;refine Qb<|QX U (λgc=>OS gc hX) (λgc=>?_);refine Qh<|Qw<|QS U U<|Qa<|xe ?_;exact⟨k+1,oa,La,U,I⟩
 rintro⟨⟩ g w' rfl;have kh:O1 [] w' { w' with drawn:=w'.drawn+1 }:=O1.C _ _
 refine Za (α:=Nat×OY) [(9,9),(48,55)] (λz=>[(9,.pointer (some ⟨z.1,0,none⟩))]) (λz H=>O1 [] w' H/\w'.heap.size<=z.1/\Q9 H.heap z.1 59 [z.2,oE oF a.st,vm,nS]/\z.2.oneCell'=true/\∀L:LN,(∀b∈L,b<w'.heap.size\/b=z.1)->QP L H.heap z.2 sa) ol ?_ ?_
 ·refine Kc (α:=OY) (O1 [] w') [oC 0,oC 3,oC 4,oC 5,oC 6] [oD 1,oD 2,oC 7] 8 9 [oD 9] [] [(48,55)] [(49,50),(55,55)] (λz=>[(55,.agg #[z,oE oF a.st,vm,nS])])
   (λz own H=>(∀b∈own,w'.heap.size<=b)/\z.oneCell'=true/\∀L:LN,(∀b∈L,b∉own)->QP L H.heap z sa)
   (λv H=>∃b,v=.pointer (some ⟨b,0,none⟩)/\w'.heap.size<=b/\Q9 H.heap b 59 X4) mixed ol od ol U kh oe ?_ ?_ ?_ ?_
  ·rintro v own wa wb ⟨b,rfl,E,hB⟩ hs hn;exact⟨b,U,E,hB.J hs (hn b oq)⟩
  ·rintro z own wa wb ⟨h1,Y,h3⟩ hs;exact⟨h1,Y,λL hL=>(h3 L hL).I hs⟩
  ·rintro z g own wz v ⟨i1,i2,i3⟩ ki ⟨G,rfl,hf,hi⟩ kj;have gg:=(kj G oq).1;refine pkl (hl:=by kernel_rfl)<|Qj (us:=[z,oE oF a.st,vm,nS]) hi U U U U ⟨i2,U,h0.mr.one,U,Z⟩ λH ha kk=>pe ?_;refine⟨(G,z),La,ki.O ha hf,hf,kk,i2,λL hL=>?_⟩;have h1:=i3 (G::L) (λb E=>by
    rcases Li.1 E with rfl|E
    ·exact gg
    rcases hL b E with Y|Y
    ·exact λh3=>ot (i1 b h3)
    subst Y;exact gg)
   exact(h1.st (ha.mono oe)).up (λb E=>.inl (by simp[E]))
  refine Go.Lg.p QF<|Go.Lg.p (QR U)<|pq (λ_ hc=>Qr (hh.I hc) U U)<|Go.Lg.p (QR U)<|pq (λ_ hc=>Qr (hh.I hc) U U) <|
   pe ⟨λg wf gh=>Qo (us:=X4) U λb m7 gi gj gk=>⟨gi,gh.D gi,⟨b,U,LH gh.size gj,gk⟩,λx hx=>?_⟩,?_⟩
  ·have kn:x=b:=by
    have ko:x∈[b]:=hx;simpa using ko
   subst kn;exact⟨gj,gk.lt⟩
  refine f2k λx1 p1 c1=>xg<|(Qex V.cells).mono ?_;rintro m8 y1 ⟨gl,m9,rfl,pa,hG⟩;refine⟨c1.D gl,UF x1.heap.size y1.heap.size,gl.any,λb E=>.inr (ZA.1 E),?_⟩;refine f2k λx2 p2 c2=>xg<|(QeB (hG.I p2) (V.I c2) oa).mono ?_;rintro kq y2 ⟨gm,hq⟩;rw[hO]at hq;refine⟨c2.D gm,UF x1.heap.size y1.heap.size++UF x2.heap.size y2.heap.size,gm.any,λb E=>(Lc.1 E).imp id λE=>ZA.1 E,?_⟩;refine f2p (λ_=>Qy ⟨xH hq,U,h0.mr.cells,Z⟩)<|f2e ?_;refine⟨kq,La,λb E=>?_,Qu hq,λL hL=>?_⟩
  ·have e1:=c1.size;have e2:=c2.size;rcases Lc.1 E with E|E
   ·have:=ZA.1 E;omega
   have:=ZA.1 E;omega
  exact QK hq (by rw[<-hO,(List.mergeSort_perm to _).length_eq];omega) (λb E hm=>hL b hm (Lc.2 (.inr (ZA.2 (Qi hq b E)))))
 rintro⟨G,vs⟩ g H ⟨ha,hf,hi,hvo,gn⟩;simp only[]at hf hi hvo gn;have go:=hi.lt;have gp:=hh.I ha;have gq:∀b∈[G],b∈([]:LN)\/w'.heap.size<=b:=λb E=>.inr (by rw[Lb.1 E];exact hf);have hr:ZH [G] H.heap va vm ve a:=(h0.up gq).I ha;have kr:QP [G] H.heap vt to:=(V.up gq).I ha;have kt:=gn [G] (λb E=>.inr (Lb.1 E));have pc:=hr.ed.le;have ku:b2∉[G]:=by have:=hh.lt;simp only[oH];omega
 have pd:b4∉[G]:=om
 have kv:(rlE a to).length=a.ed.length:=by unfold rlE;rw[Lh]
 have kw:∀e∈rlE a to,(0<=e.1/\e.1<1099511627776)/\0<=e.2.1/\e.2.1<1099511627776:=λe T=>by
  unfold rlE at T;obtain⟨d,hd,rfl⟩:=LC.1 T;have h1:=ho.ed d hd;have Y:a.al.idxOf d.2.1<to.length:=by rw[hD];exact MC h1.2.2.1
  have h3:=hN _ (Lk Y);have h4:=ZG Y;simp only[];omega
 refine Za (α:=OY) [(11,11),(56,78)] (λ_=>[]) (λz J=>O1 [G] H J/\Q9 J.heap G 59 [vs,oE oF a.st,vm,z]/\J.ownsRow H.heap.size 167 3 z (rlE a to).length ((rlE a to).flatMap QC)) ol ?_ ?_
 ·refine Qc<|Qs U gp U U<|QI hr.ed U<|Qa<|xe<|Qg<|QD (α:=Nat×OY) [(11,11),(59,78)] (λz=>[(59,oE oF z.1)]) (λz J=>z.1<=a.ed.length/\O1 [G] H J/\Q9 J.heap G 59 [vs,oE oF a.st,vm,z.2]/\J.ownsRow H.heap.size 167 3 z.2 z.1 (((rlE a to).take z.1).flatMap QC)) (λz=>a.ed.length - z.1) ol (0,Z8) La ⟨Lo _,O1.Z _ _,hi,QJ _ _ _ _⟩ ?_;rintro⟨k,vr⟩ g J ⟨hk,O,hg,S⟩;simp only[]at hk hg S;refine Qc<|Q0 U U<|xe<|Qd<|QH U (λhH=>?_) (λhH=>?_)
  ·refine Qz ?_;have kx:k=a.ed.length:=by have h5:¬(k:Int)<(a.ed.length:Int):=hH;omega
   rw[Lr oa,kx,<-kv]at S;exact⟨vr,Z,O,hg,S⟩
  have I:k<a.ed.length:=by have h5:(k:Int)<(a.ed.length:Int):=hH;omega
  have hI:=ho.ed _ (Lk I);have kz:(rlE a to)[k]'oa=((a.ed[k]'I).1,O2 to (a.al.idxOf (a.ed[k]'I).2.1),(a.ed[k]'I).2.2):=by unfold rlE;rw[LM]
  have hu:(rlE a to).take (k+1)=(rlE a to).take k++[(rlE a to)[k]'oa]:=Lm oa;rw[kz]at hu;refine Zo (a.ed[k]'I) λe T=>?_;rw[T]at hI hu;have hJ:a.al.idxOf e.2.1<to.length:=by rw[hD];exact MC hI.2.2.1
  rw[<-ZG hJ]at hu;refine Zo (to[a.al.idxOf e.2.1]'hJ) λy hy=>?_;rw[hy]at hu;refine Qh<|Qd<|Qg<|Qc<|xie (i:=k) (hr.ed.st O) U U I λpf h5=>?_;rw[T]at h5;refine x (Qx h5 U U)<|Qe<|Qo (us:=[oE oF 0,oE oF 0,oE oF 0]) U λk0 w7 hw gr k4=>Qe<|Qj (us:=QC e) k4 U U U U oA λw8 h6 gs=>xe ?_;have h7:O1 [] J w8:=hw.O h6 gr;have k5:=O.size;refine Qm<|Qs U ((gp.J O ku).I h7) U U<|Qs U gs U U<|QM<|(Qna ((hr.al.st O).I h7) hI.2.2.1).mono ?_;rintro pg w8 ⟨rfl,rfl⟩;refine xii ((kr.st O).I h7) U U hJ λph gt=>?_;rw[hy]at gt;refine x (QA gt U)<|Q7 U<|Qe<|QE (u:=oE oF y) gs U U (by simp[QC]) rfl λw9 h8 k6=>xe ?_;have k7:Q9 w9.heap k0 167 (QC (e.1,y,e.2.2)):=k6;have hA:O1 [] J w9:=h7.O h8 gr;have gu:=hg.I hA;have k8:=Qq S hA;have n9v:G∉ob vr:=Zh S go;have hge:=Qi S;have pj:=hA.size;refine Qw<|Qs U gu U U<|Q6 k7 U U<|Qe<|QB (us:=[QC (e.1,y,e.2.2)]) U U og (by exact(by decide:1*3<=1000000)) oz λpm pn hC po k9=>?_;refine Qe<|Zb (m:=1) (news:=QC (e.1,y,e.2.2)) (L:=[]) (Qq k8 hC) U U U (k9.at oe) (by simp[QC,Value.oneCell']) oa (ot hC.size) λgv pp hK gw pu=>?_;refine Q7 U<|Qe<|QE (u:=gv) ((gu.I hC).J gw n9v) U U oe (Qu hK) λpw gx ma=>xe ?_;refine Qw<|QS U U<|Qa<|xe<|⟨(k+1,gv),oh,La,I,(((O.D hA.any).D hC.any).then gw (λb E=>.inr (hge b E).1)).Q gx,ma,?_⟩;simp only[];rw[hu,LB];have h9:=Qf hK gx (λb E=>by have:=(Qi hK b E).1;simp only[oH];omega);simpa using h9
 rintro vr g J ⟨O,hg,S⟩;have n9r:G∉ob vr:=Zh S go;have k5:=O.size;have gy:=Qi S;refine Qc<|Qs U hg U U<|QM<|(jP S oa kw).mono ?_;rintro r7 w7 ⟨hw,l',hp,mf,mg⟩;have mh:=g6 l' hp mf;subst mh;refine xe ?_;have mi:=hg.J hw n9r;have mj:∀b∈G::ob vr,b∈[G]\/H.heap.size<=b:=λb E=>by
  rcases Li.1 E with rfl|E
  ·exact .inl Lq
  exact .inr (gy b E).1
 have gz:∀{v:OY} {l:LI},QP [G] H.heap v l->QP [] w7.heap v l:=λhv=>(((hv.up mj).st (O.mono oe)).st (hw.mono (λb E=>Lj _ E))).up (λb E=>by cases E);have mn:qB [] w7.heap vr l':=QK mg (ot hp.length_eq) oe;have mo:ZH [] w7.heap vs vm vr ⟨sa,a.st,a.mr,l'⟩:=⟨gz kt,gz hr.mr,mn⟩;have hM:O1 [] w' w7:=(ha.O O hf).then hw (λb E=>.inr (ot (gy b E).1));have pz:=hM.size;have mq:=g9.I hM;refine Qc<|Q6 mi U U<|QM<|(Jf mo g7).mono ?_;rintro v w8 ⟨h6,hF⟩;obtain⟨us,g0,g2,ms⟩:=VT hF;refine Qe<|Qj (us:=us) (mq.I h6) U g0 g2 U ms λw9 h8 hG=>Qb ?_;have g3:=hE.D hM;refine Qk ⟨[.agg us.toArray,oE oF 0],⟨⟨_,U,Qn g2 (hG.at (L:=[]) oe).cells⟩,rfl,Z⟩,(g3.D h6).O h8 oa,v,by rw[g0];rfl,?_⟩;exact(Uy hF oa h8).mono (ot g3.size)
theorem Qmv {motive:LI->Prop}(nil:motive [])(append_singleton:∀u v,motive u->motive (u++[v]))(u:LI):motive u:=by
 have key:∀r:LI,motive r.reverse:=by
  intro r;induction r with
  | nil=>exact nil
  | cons v r ih=>rw[List.reverse_cons];exact append_singleton _ _ ih
 have:=key u.reverse;rw[List.reverse_reverse]at this;exact this
def enc (u:LI):Int:=u.foldl (λn e=>n*33+(e+1)) 0
theorem KU (u:LI)(v:Int):enc (u++[v])=enc u*33+(v+1):=by unfold enc;rw[Mv];rfl
def QfQ (u:LI):Prop:=∀e∈u,0<=e/\e<32
theorem QfQ.snoc {v:Int}(h:QfQ (u++[v])):QfQ u/\0<=v/\v<32:=⟨λe E=>h e (Mn _ E),h v oe⟩
theorem Qni (h:QfQ u):0<=enc u:=by
 induction u using Qmv with
 | nil=>exact Ny _
 | append_singleton u v ih=>rw[KU];have:=ih h.snoc.1;have:=h.snoc.2;omega
def rn (a:Q2)(x:Int)(u:LI):Int:=u.foldl (λs v=>O8 a.ed s v) x
theorem Qj4 (a:Q2)(x:Int)(u:LI)(v:Int):rn a x (u++[v])=O8 a.ed (rn a x u) v:=by unfold rn;rw[Mv];rfl
structure Fw where
 u:LI
 s:Int
def U9:Fw:=⟨[],0⟩
def wdN (e:Fw)(d:Ed):Fw:=⟨e.u++[d.2.1],d.2.2⟩
def wdR (a:Q2)(e:Fw):List Fw:=(Z2 a.ed e.s).map (wdN e)
def wdL (a:Q2)(most:Nat):Nat->Nat->List Fw->Option (List Fw)
 | 0,_,L=>some L
 | f+1,i,L=>if i<L.length then(if(L.getD i U9).u.length=most then some L else if 1024<(L++wdR a (L.getD i U9)).length then none else wdL a most f (i+1) (L++wdR a (L.getD i U9)))else some L
def wds (a:Q2)(most:Nat):Option (List Fw):=wdL a most 1025 0 [U9]
structure WdI (a:Q2)(most i:Nat)(L:List Fw):Prop where
 ne:0<L.length
 le:i<=L.length
 mx:L.length<=1024
 rx:∀e∈L,e.s=rn a 0 e.u/\0<=e.s/\e.s<a.st/\(∀v∈e.u,v∈a.al)/\e.u.length<=most
 so:L.Pairwise λp q=>enc p.u<enc q.u
 hd:(L.getD 0 U9).u=[]
 pr:∀e∈L,e.u=[]\/∃j v,j<i/\e.u=(L.getD j U9).u++[v]
 ch:∀j v,j<i->0<=O8 a.ed (L.getD j U9).s v->∃e∈L,e.u=(L.getD j U9).u++[v]
theorem QhP {L:List Fw}(h:i<L.length):L.getD i U9∈L:=by simp[oP,h]
theorem QhQ {L r:List Fw}(h:i<L.length):(L++r).getD i U9=L.getD i U9:=by simp[oP,List.getElem?_append_left h]
theorem WdI.J (O:ZD a){most:Nat}{L:List Fw}(h:WdI a most i L)(hi:i<L.length)(hl:(L.getD i U9).u.length≠most)(hm:¬1024<(L++wdR a (L.getD i U9)).length):WdI a most (i+1) (L++wdR a (L.getD i U9)):=by
 have T:QfQ a.al:=O.al;have hc:∀e∈L,QfQ e.u:=λe E u H=>T u ((h.rx e E).2.2.2.1 u H);have hb:=QhP hi;obtain⟨r1,r2,r3,r4,r5⟩:=h.rx _ hb;generalize V:L.getD i U9=ei at *;have Y:∀e∈wdR a ei,∃d∈Z2 a.ed ei.s,e=wdN ei d/\d.2.1∈a.al/\0<=d.2.2/\d.2.2<a.st/\O8 a.ed ei.s d.2.1=d.2.2:=λe E=>by
  unfold wdR at E;obtain⟨d,hd,rfl⟩:=LC.1 E;obtain⟨hf,ht⟩:=ZU hd;have ha:=O.ed d hf;refine⟨d,hd,U,ha.2.2.1,ha.2.2.2.1,ha.2.2.2.2,?_⟩;rw[Qdu];obtain⟨k,hk,rfl⟩:=LP hd;refine Qco _ ei.s _ k hk (λe E=>(ZU E).2) U (λm hg e=>?_);have I:(Z2 a.ed ei.s).Pairwise λx y:Ed=>x.1<y.1\/(x.1=y.1/\x.2.1<y.2.1):=List.Pairwise.sublist MZ O.edi;have:=MH.1 I m k oa hk hg;have e1:=(ZU (Lk (l:=Z2 a.ed ei.s) (show m<(Z2 a.ed ei.s).length by omega))).2;have e2:=(ZU (Lk hk)).2;omega
 have hw:=Qni (hc _ hb);have hh:∀e∈L,∀v,v∈a.al->enc e.u<enc (ei.u++[v]):=λe E v hv=>by
  have hz:=T v hv;rw[KU];rcases h.pr e E with G|⟨j,u,J,G⟩
  ·rw[G];show(0:Int)<_;omega
  rw[G,KU];have h0:enc (L.getD j U9).u<enc ei.u:=by
   have:=MH.1 h.so j i oa hi J;rw[<-V];simpa[oP,show j<L.length by omega,hi]using this
  have h5:u<32:=by
   have:=(h.rx e E).2.2.2.1 u (by rw[G];simp);exact(T u this).2
  omega
 have keepD:∀r:List Fw,∀j,j<L.length->(L++r).getD j U9=L.getD j U9:=λr j J=>QhQ J;refine⟨by simp;have:=h.ne;omega,by simp;omega,oa,λe E=>?_,?_,by rw[keepD _ 0 h.ne];exact h.hd,λe E=>?_,λj v J S=>?_⟩
 ·rcases Lc.1 E with E|E
  ·exact h.rx e E
  obtain⟨d,_,rfl,G,h2,h3,h4⟩:=Y e E;refine⟨?_,h2,h3,λu H=>?_,?_⟩
  ·show d.2.2=rn a 0 (ei.u++[d.2.1]);rw[Qj4,<-r1,h4]
  ·rcases Lc.1 (show u∈ei.u++[d.2.1] from H)with H|H
   ·exact r4 u H
   simp only[oH]at H;subst H;exact G
  show(ei.u++[d.2.1]).length<=most;rw[Ll,LF];omega
 ·rw[List.pairwise_append];refine⟨h.so,?_,λp I q hq=>?_⟩
  ·unfold wdR;rw[MF];have I:(Z2 a.ed ei.s).Pairwise λx y:Ed=>x.1<y.1\/(x.1=y.1/\x.2.1<y.2.1):=List.Pairwise.sublist MZ O.edi;refine List.Pairwise.imp_of_mem (λ{x y} hx hy h6=>?_) I;have e1:=(ZU hx).2;have e2:=(ZU hy).2;show enc (ei.u++[x.2.1])<enc (ei.u++[y.2.1]);rw[KU,KU];omega
  obtain⟨d,_,rfl,G,_⟩:=Y q hq;exact hh p I _ G
 ·rcases Lc.1 E with E|E
  ·rcases h.pr e E with G|⟨j,u,J,G⟩
   ·exact .inl G
   exact .inr ⟨j,u,oa,by rw[keepD _ j oa];exact G⟩
  obtain⟨d,_,rfl,_⟩:=Y e E;exact .inr ⟨i,d.2.1,oa,by rw[keepD _ i hi,V];rfl⟩
 rw[keepD _ j oa]at S ⊢;by_cases e:j=i
 ·subst e;rw[V]at S ⊢;have hr:=j1 S;refine⟨wdN ei (ei.s,v,O8 a.ed ei.s v),List.mem_append_right _ ?_,U⟩;unfold wdR;exact LJ (by unfold Z2;exact Md.2 ⟨hr,oe⟩)
 obtain⟨e',hs,G⟩:=h.ch j v oa S;exact⟨e',Mn _ hs,G⟩
theorem Qn5 (G:0<a.st)(most:Nat):WdI a most 0 [U9]:=by
 refine⟨oe,ON _,oe,λe E=>?_,oe,by simp[oP,U9],λe E=>?_,λj v H=>oa⟩
 ·simp only[oH]at E;subst E;exact⟨U,Ny _,G,by simp[U9],by simp[U9]⟩
 simp only[oH]at E;subst E;exact .inl U
section
variable {pS:String}
theorem ql {base e:Nat}{bys:Nat}[h:Sl P t e sz bys z]{v:OY}(E:w.ownsRow base e sz v n cs)
  {a:Addr} {m c:Nat}  (hl:news.length=m*sz) (S:∀j u,news[j]?=some u->w.cell? (a.add j)=some u) (h1:∀u∈news,u.oneCell'=true)
  (hb:n+m<=1099511627776) (hq:bys<=128) (hc:base<=w.heap.size):
  ∃v' w',(Builtin.append_ #[t,t] ty #[v,.slice (some a) m c]).run P w=.ok v' w'/\w'.ownsRow base e sz v' (n+m) (cs++news)/\O1 (ob v) w w'/\(∀b∈ob v',b∈ob v\/w.heap.size<=b)/\w'.ownsRow base e sz v n cs:=by
 obtain⟨i,hi,V,J,Y⟩:=Sl.info h;have ha:(n+m)*bys<=140737488355328:=LH (Nat.mul_le_mul hb hq) oa;have he:n+m<=maxLen:=by simp only[maxLen];omega
 by_cases hg:∃g cap cur,v=.slice (some ⟨g,0,none⟩) n cap/\w.heap[g]?=some (.cells cur e (0,0))/\n+m<=cap
 ·obtain⟨v',w',I,ho,hs,_⟩:=run_append_own (P:=P) w base t ty e i z sz bys h.u hi V J Y h.zs h.pos v n cs E a m c news hl S h1 he ha hc;have ht:O1 (ob v) w w':=by rw[zo];exact O1.of_grown hs
  refine⟨v',w',I,ho,ht,?_⟩;obtain⟨g,cap,cur,rfl,hf,O⟩:=hg;rcases E.2 with⟨h2,_⟩|⟨g2,cap2,hh,h2,h3,h4,h5,h6,h7,h8⟩
  ·cases h2
  cases h2
  have hu:n*i.size+news.length<=hh.size:=by rw[hl,h7,J,<-Mo];exact LY _ O
  have hv:=run_append_room (P:=P) w t ty e i h.u hi g n cap hh h4 a m c news (by rw[J];exact hl) S h1 O hu;rw[hv]at I;cases I
  refine⟨λb H=>.inl H,E.1,?_⟩;have hB:=E.1;rcases ho.2 with⟨e1,_⟩|⟨g3,cap3,cur3,e1,k3,k4,k5,k6,k7,k8⟩
  ·cases e1
  cases e1
  refine .inr ⟨g,cap,cur3,U,k3,k4,h5,k6,k7,?_⟩;have:=OR (List.take (n*sz)) k8;rw[M5,Ml (LY _ (Nat.le_add_right n m)),MQ oa,Lr (l:=cs) oa]at this;exact this
 have new:∀(old:Nat),old<n+m->∀G,G=(Obj.cells (cs.toArray++news.toArray++Builtin.zeroCells z.cells (grownCap w (n+m) old e - (n+m))) e) ->
   (w.drew.alloc G).ownsRow base e sz (.slice (some ⟨w.heap.size,0,none⟩) (n+m) (grownCap w (n+m) old e)) (n+m) (cs++news):=by
  intro old ho G hw;subst hw;have hge:=grownCap_ge w (n+m) old e;have hj:grownCap w (n+m) old e<=maxLen:=grownCap_le_maxLen w (n+m) old e he;have hp:(cs++news).length=(n+m)*sz:=by rw[Ll,E.1,hl,Mo]
  refine⟨hp,.inr ⟨w.heap.size,_,_,U,hc,JY w.drew _,hge,hj,?_,?_⟩⟩
  ·simp only[Array.size_append,o9,size_zeroCells,h.zs,E.1,hl,<-Oj];congr 1;omega
  simp only[Array.toList_append,oT];rw[<-LA,<-hp];exact List.take_left
 have stp:∀G,O1 (ob v) w (w.drew.alloc G):=λG=>⟨U,U,U,by rw[Vg];exact OJ _,λk hk _=>UZ w.drew G k hk⟩;have hy:∀G,O1 [] w (w.drew.alloc G):=λG=>⟨U,U,U,by rw[Vg];exact OJ _,λk hk _=>UZ w.drew G k hk⟩;have fin:∀(b:Nat),b∈ob (.slice (some ⟨w.heap.size,0,none⟩) (n+m) 0)->b∈ob v\/w.heap.size<=b:=λb H=>by simp[ob]at H;omega
 rcases E.2 with⟨rfl,rfl⟩|⟨g,cap,cur,rfl,hC,hf,hD,hj,hE,hF⟩
 ·have hx:cs=[]:=Ls (oy E.1);subst hx;by_cases hm:m=0
  ·subst hm;have T:news=[]:=Ls (oy hl);subst T;refine⟨nS,w,?_,QJ _ _ _ _,O1.Z _ _,λb H=>by simp[ob]at H,QJ _ _ _ _⟩;simp[Builtin.append_,run_underlying h.u,sizeOf,typeInfo,hi,Builtin.lenOf,Builtin.firstCells,loadCells,loadCellsFrom]
  have I:=run_append_nil (P:=P) w t ty e i z h.u hi V a m c news (by rw[J];exact hl) S oa oa (by rw[Y];have h0:=ha;simp only[oX]at h0;omega);have T:=new 0 oa _ U;simp only[oX,Oi,Array.empty_append]at T ⊢;exact⟨_,_,I,T,stp _,λb H=>fin b H,QJ _ _ _ _⟩
 have O:cap<n+m:=by
  rcases OA cap (n+m)with h9|hge
  ·exact h9
  exact OS ⟨g,cap,cur,U,hf,hge⟩ hg
 have hA:∀j u,cs[j]?=some u->w.cell? ((⟨g,0,none⟩:Addr).add j)=some u:=E.cells (g:=g) U;have I:=run_append_grow (P:=P) w t ty e i z h.u hi V ⟨g,0,none⟩ n cap cs (by rw[J];exact E.1) hA a m c news (by rw[J];exact hl) S O oa (growslice_fits O (by rw[Y];exact ha));exact⟨_,_,I,new cap O _ U,stp _,λb H=>fin b H,Qq E (hy _)⟩
theorem Qg6 {e bys:Nat}[h:Sl P t e sz bys z]{s:OZ}{base:Nat}{v:OY}(E:w.ownsRow base e sz v n cs)(G:ev f s=v)
  {a:Addr} {m c:Nat}  (H:ev f y=.slice (some a) m c) (hl:news.length=m*sz)  (I:At L w.heap a news) (J:∀u∈news,u.oneCell'=true)
  (O:n+m<=1099511627776) (S:base<=w.heap.size)
  (hK:∀v' w',w'.ownsRow base e sz v' (n+m) (cs++news)->O1 (ob v) w w'->(∀b∈ob v',b∈ob v\/w.heap.size<=b)->w'.ownsRow base e sz v n cs->K (QT f d v') w') (T:bys<=128:=by decide):
  XO P ⟨d,.call ⟨.builtin .append,#[s,y],#[t,t]⟩,ty,pS,af,gd⟩ f w K:=by
 obtain⟨v',w',V,Y,h3,h4,h5⟩:=ql (P:=P) (t:=t) (ty:=ty) E hl I.cells J O T S (c:=c);have ha:(execOp (ev f) ⟨d,.call ⟨.builtin .append,#[s,y],#[t,t]⟩,ty,pS,af,gd⟩).run P w=.ok (.value v') w':=by
  simp[execOp,resolve,invoke,builtin,G,H,V]
 exact xv ha (hK v' w' Y h3 h4 h5)
end
section
variable {pS:String}{C:xt}{i0:Nat}
theorem Qpw {g:α->LV}{x:OZ}{e bys:Nat}[Sl P t e sz bys z](G:QV ops i0=⟨d,.indexAddr t x y,ty,pS,af,gd⟩)(J:∀x,(g x).length=sz){es:List α}{v:OY}{H:OX}{k:IntKind}
  (h:∀w',C w'->Zm L w'.heap v es.length sz (es.flatMap g)) (O:C H) (S:ev f x=v) (T:ev f y=.int k i) (hi:i<es.length)
  (hK:∀a,(∀w',C w'->At L w'.heap a (g es[i]))->XP P ops C K pl (QT f d (.pointer (some a))) w) (V:Ya ops f (QV ops i0)=true:=by rfl):
  XP P ops C K ((i0,true)::pl) f w:=by
 obtain⟨a,cap,E,_⟩:=Zm.at (h H O) hi;refine Lg.p (λw'=>by rw[G];exact Xd (S.D E) T oa oa) ?_ V;rw[G];refine hK _ λw' Y=>?_;obtain⟨a',cap',ha,I⟩:=Zm.at (h w' Y) hi;rw[ha]at E;cases E
 rw[XX g sz J es i hi]at I;simpa using I
end
theorem QoS (b:Bool):b=true\/b=false:=by cases b;exact .inr U;exact .inl U
structure FV where
 v:OY
 f:Fw
abbrev Yf (p:FV):LV:=[p.v,oE oF p.f.s]
theorem Qae (p:FV):(Yf p).length=2:=rfl
structure WdM (wB:OX)(vL:OY)(es:List FV)(w:OX):Prop where
 st:O1 [] wB w
 l:w.ownsRow wB.heap.size 414 2 vL es.length (es.flatMap Yf)
 each:∀p∈es,QP (ob vL) w.heap p.v p.f.u
theorem WdM.I {wB w w':OX}{vL:OY}{es:List FV}(h:WdM wB vL es w)(E:O1 [] w w'):WdM wB vL es w':=⟨h.st.D E,Qq h.l E,λp G=>(h.each p G).I E⟩
theorem WdM.add {wB:OX}{vL vL':OY}{es:List FV}{p:FV}(h:WdM wB vL es w)(H:O1 (ob vL) w w')(hl:w'.ownsRow wB.heap.size 414 2 vL' (es.length+1) (es.flatMap Yf++Yf p))(I:∀b∈ob vL',b∈ob vL\/w.heap.size<=b)(J:QP (ob vL) w.heap p.v p.f.u):WdM wB vL' (es++[p]) w':=by
 refine⟨h.st.then H (λb G=>.inr (Qi h.l b G).1),by rw[Ll,LB];simpa using hl,λq E=>?_⟩;rcases Lc.1 E with E|E
 ·exact(h.each q E).grow H (λb G=>G) I
 simp only[oH]at E;subst E;exact J.grow H (λb G=>G) I
theorem QhK {es:List FV}(h:i<es.length):(es.map (·.f)).getD i U9=(es[i]'h).f:=by simp[oP,h]
theorem Qkd (E:ZD a)(s:Int):(Z2 a.ed s).length<=32:=by
 have G:(Z2 a.ed s).Pairwise λx y:Ed=>x.1<y.1\/(x.1=y.1/\x.2.1<y.2.1):=List.Pairwise.sublist MZ E.edi;have hi:Xk ((Z2 a.ed s).map λe=>e.2.1):=by
  unfold Xk;rw[MF];refine List.Pairwise.imp_of_mem (λ{x y} hx H O=>?_) G;have e1:=(ZU hx).2;have e2:=(ZU H).2;omega
 have:=XQ _ 0 32 hi (λv I=>by
  obtain⟨e,J,rfl⟩:=LC.1 I;exact E.al _ (E.ed e (ZU J).1).2.2.1)
 rw[Lh]at this;omega
def Qf9 (a:Q2)(most:Nat)(mk:Bool):Option (List (LI)):=if a.st=0 then some []else(wds a most).map λL=>(L.filter λf=>!mk || decide (f.s∈a.mr)).map (·.u)
def QoY (o:Option (List (LI)))(r:OY)(H:xu):Prop:=(o=none/\r=.tuple #[Z8,oE oF 3])\/∃l v ps,o=some l/\r=.tuple #[v,oE oF 0]/\JH [] H v ps/\ps.map (·.2)=l
theorem QfM (h:ZH [] w.heap va vm ve a)(mn:X9 a=0)(ho:ZD a)(most:Nat)(q6:most<=4096)(mk:Bool):
  Q3 prog 202 [.agg #[va,oE oF a.st,vm,ve],oE oF most,.bool mk] w λr w'=>O1 [] w w'/\QoY (Qf9 a most mk) r w'.heap:=by
 have za:=ho.st0;have zb:=ho.st1;refine Zq func202 ?_;refine Qc<|Qe<|QW (us:=[va,oE oF a.st,vm,ve]) U λb3 w1 g3 zv g5=>x Ql<|Qb<|Qd<|Qc<|Q6 g5 U U<|QM<|(X1 (h.I g3)).mono ?_;rintro r2 w2 ⟨g7,g8⟩;rw[mn]at g7;subst g7;have J:=g3.D g8;refine Qb<|Qm<|ZB U U<|xe<|ZS rfl<|Qh<|Qd<|Qm<|xb (YP U U) (λg9=>OS (show(most:Int)<0 from g9) oa) (λg9=>?_);refine Qa<|Qa<|x (Yg U U)<|QG U<|xe<|QX rfl (λka=>OS (show(most:Int) > 4096 from ka) oa) (λka=>?_);refine Qh ?_;have hO:=g5.I g8;refine Qd<|Qc<|Qs U hO U U<|x (QY U U)<|xe<|QX rfl (λhP=>?_) (λhP=>?_)
 ·refine Qc<|x Ql<|Qb<|Qk ⟨[Z8,oE oF 0],oz,J,.inr ⟨[],Z8,[],by unfold Qf9;rw[OQ hP],rfl,⟨Zm.nil _ _ _,λp G=>by cases G⟩,rfl⟩⟩
 have mo:0<a.st:=by have z0:¬a.st=0:=hP;omega
 have hW:Qf9 a most mk=(wds a most).map λL=>(L.filter λf=>!mk || decide (f.s∈a.mr)).map (·.u):=by unfold Qf9;rw[OP oa]
 refine Zo (wds a most) λR hR=>?_;rw[hR]at hW;refine Qh<|Qc<|x (Qy Z)<|Qe<|QB (us:=[Yf ⟨nS,U9⟩]) U U og (by exact(by decide:1*2<=1000000)) oz λkb w3 mq ms mt=>Qb ?_;have mu:WdM w2 (.slice (some ⟨kb,0,none⟩) 1 1) [⟨nS,U9⟩] w3:=by
  refine⟨mq,mt.own (n:=1) U oa ms,λp G=>?_⟩;simp only[oH]at G;subst G;exact Zm.nil _ _ _
 have mv:∀e∈a.ed,0<=e.1/\e.1<=1099511627776:=λe he=>ot (ho.ed e he)
 refine Za (α:=OY×List FV) [(6,7),(9,10),(12,12),(32,77)] (λz=>[(9,z.1)]) (λz w'=>WdM w2 z.1 z.2 w'/\R=some (z.2.map (·.f))/\z.2.length<=1024) ol ?_ ?_
 ·refine Qc<|Qb<|Qg<|QD (α:=Nat×OY×List FV) [(6,7),(9,10),(12,12),(32,77)] (λz=>[(9,z.2.1),(10,oE oF z.1)])
   (λz w'=>z.1<=1025/\WdM w2 z.2.1 z.2.2 w'/\WdI a most z.1 (z.2.2.map (·.f))/\wdL a most (1025 - z.1) z.1 (z.2.2.map (·.f))=R) (λz=>1025 - z.1) ol (0,.slice (some ⟨kb,0,none⟩) 1 1,[⟨nS,U9⟩]) oz
   ⟨Lo _,mu,Qn5 mo most,hR⟩ ?_
  rintro⟨i,vL,es⟩ g4 w4 ⟨mw,hg,h5,H⟩;simp only[]at mw hg h5 H;have hQ:=h5.mx;have my:=h5.le;rw[Lh]at hQ my;have hw:Zm [] w4.heap vL es.length 2 (es.flatMap Yf):=QK hg.l oa (λb _=>oe);refine Qd<|Qm<|Qa<|QI hw U<|Q0 U U<|xe<|QH U (λhS=>?_) (λhS=>?_)
  ·refine Qz ?_;have mz:¬i<(es.map (·.f)).length:=by rw[Lh];have m2:¬(i:Int)<(es.length:Int):=hS;omega
   refine⟨(vL,es),La,hg,?_,hQ⟩;rw[<-H];generalize 1025 - i=f;cases f with
   | zero=>rfl
   | succ f=>rw[wdL,OP mz]
  have hi:i<es.length:=by have m2:(i:Int)<(es.length:Int):=hS;omega
  rw[show 1025 - i=(1025 - (i+1))+1 by omega,wdL,OQ (by rw[Lh];exact hi),QhK hi]at H;have kc:=hg.each _ (Lk hi);have hU:=h5.rx _ (LJ (f:=λq:FV=>q.f) (Lk hi));have hV:=λhl hm=>h5.J ho (by rw[Lh];exact hi) hl hm;rw[QhK hi]at hV;refine Zo (es[i]'hi) λei hG=>?_;rw[hG]at H kc hU hV;have ke:=hg.st;have m3:=kc.up (L':=[]) (λb E=>by cases E);refine Qh<|Qd<|Qg<|Qd<|Qm<|Qa<|O4 (g:=Yf) (i:=i) Qae hw U U hi λz1 kf=>?_;rw[hG]at kf;refine x (Zt U)<|x (QA (kf.fld 0 _ U) U)<|QI m3 U<|Qa<|x (QY U U)<|xe<|QX U (λhX=>?_) (λhX=>?_)
  ·refine Qz ?_;have hH:ei.f.u.length=most:=by have m4:(ei.f.u.length:Int)=(most:Int):=hX;omega
   rw[OQ hH]at H;exact⟨(vL,es),La,hg,H.symm,hQ⟩
  have hH:ei.f.u.length≠most:=by have m4:¬(ei.f.u.length:Int)=(most:Int):=hX;omega
  rw[OP hH]at H;have hY:=hV hH;refine Qh ?_;have m5:=hO.I ke;have m6:ZH (ob vL) w4.heap va vm ve a:=((h.I J).up (L':=ob vL) (λb E=>.inr (Qi hg.l b E).1)).I ke;have m7:=Qkd ho ei.f.s;have hout:=j0 (va:=va) (vm:=vm) (st:=a.st) (m6.ed.I (O1.C [] w4)) ho.eds mv ei.f.s hU.2.1 oa;refine Zo (Z2 a.ed ei.f.s) λos kg=>?_;rw[kg]at m7 hout;have m8:wdR a ei.f=os.map (wdN ei.f):=by unfold wdR;rw[kg]
  rw[m8]at H hY;refine Qd<|Qd<|ZI [] [oC 0,oC 1,oC 2,oC 3,oC 4,oC 5,oC 8,oD 6,oC 7]<|pq (λ_ O=>ZT (m5.I O) U U)<|p QF<|p QF<|Lg.pig (g:=Yf) (i:=i) U Qae hw U U hi λz2 kh=>?_;rw[hG]at kh;refine p (λ_=>Zt U)<|pq (λ_ O=>QA ((kh.fld 1 _ U).I O) U)<|p QF<|pk<|xg<|hout.mono ?_;rintro ro w5 ⟨m9,ki⟩;have kj:=(O1.C [] w4).D m9;refine⟨kj,?_⟩;refine p (λ_=>Yv ki U)<|pe ?_;have pa:=hg.I kj;refine Zo (es.map (·.f)++os.map (wdN ei.f)) λL1 kk=>?_;rw[kk]at H hY;refine Qg<|QD (α:=Nat×OY×List FV) [(9,9),(12,12),(54,74)] (λz=>[(9,z.2.1),(54,oE oF z.1)])
   (λz w'=>z.1<=os.length/\WdM w2 z.2.1 z.2.2 w'/\qB (ob z.2.1) w'.heap ro os/\z.2.2.length=es.length+z.1/\(∃h:i<z.2.2.length,z.2.2[i]'h=ei)/\z.2.2.map (·.f)++(os.drop z.1).map (wdN ei.f)=L1) (λz=>os.length - z.1) ol (0,vL,es) oz
   ⟨Lo _,pa,ki,U,⟨hi,hG⟩,kk⟩ ?_
  rintro⟨k,vL2,fs⟩ g6 w6 ⟨hk,hn,hZ,pc,kn,hh⟩;simp only[]at hk hn hZ pc kn hh;refine Qc<|Q0 U U<|xe<|Qd<|QH U (λga=>?_) (λga=>?_)
  ·refine Qz ?_;have gb:os.length<=k:=by have hI:¬(k:Int)<(os.length:Int):=ga;omega
   rw[Lp gb,Nn,LK]at hh;have pd:Zm [] w6.heap vL2 fs.length 2 (fs.flatMap Yf):=QK hn.l oa (λb _=>oe);have z3:L1.length=fs.length:=by rw[<-hh,Lh]
   refine Qm<|QI pd U<|x (Yg U U)<|xe<|QX U (λgc=>?_) (λgc=>?_)
   ·have hJ:1024<L1.length:=by have pf:(fs.length:Int) > 1024:=gc;omega
    rw[OQ hJ]at H;refine Qc<|x Ql<|Qb<|Qk ⟨[Z8,oE oF 3],oz,J.D hn.st,.inl ⟨by rw[hW,<-H];rfl,U⟩⟩
   have hJ:¬1024<L1.length:=by have pf:¬(fs.length:Int) > 1024:=gc;omega
   rw[OP hJ,<-hh]at H;have ko:=hY hJ;rw[<-hh]at ko;refine Qh<|Qw<|Qa<|QS U U<|Qb<|⟨(i+1,vL2,fs),oh,oz,oh,hn,ko,H⟩
  have S:k<os.length:=by have hI:(k:Int)<(os.length:Int):=ga;omega
  rw[Zd S,LE]at hh;refine Zo (os[k]'S) λd hd=>?_;rw[hd]at hh;refine Qh<|Exists.elim kn λgg gh=>?_;have kq:=hn.each _ (Lk gg);rw[gh]at kq;refine Za (α:=OY×OY) [(9,9),(12,12),(56,73)] (λz=>[(9,z.1)]) (λz w'=>WdM w2 z.1 (fs++[⟨z.2,wdN ei.f d⟩]) w'/\qB (ob z.1) w'.heap ro os) ol ?_ ?_
  ·refine Qg<|Qc<|xie (i:=k) hZ U U S λz4 hI=>?_;rw[hd]at hI;refine x (Qx hI U U)<|Qe<|Qo (us:=[oE oF 0,oE oF 0,oE oF 0]) U λb12 w7 pg ph pj=>Qe<|Qj (us:=QC d) pj U U U U oA λI pm kr=>xe ?_;have gi:O1 [] w6 I:=pg.O pm ph;have h6:=hn.I gi;have kt:=hZ.I gi;have pn:=kq.I gi;have ku:=pn.up (L':=[]) (λb E=>by cases E);have h0:O1 [] I { I with drawn:=I.drawn+1 }:=O1.C [] I
   have z5:=h0.size;have kv:=hU.2.2.2.2;have V:∀w',O1 [] I w'->O1 (ob vL2) I w'/\w'.ownsRow w2.heap.size 414 2 vL2 fs.length (fs.flatMap Yf):=λw' hs=>⟨hs.mono oe,Qq h6.l hs⟩;have kw:b12∉ob vL2:=λE=>ot (Zf hn.l b12 E)
   refine QlF (λw'=>O1 (ob vL2) I w'/\w'.ownsRow w2.heap.size 414 2 vL2 fs.length (fs.flatMap Yf)) (.f2 [oC 0,oC 1,oC 2,oC 3,oC 4,oC 5,oC 7,oC 8,oC 11,oC 12] 6 9 (.pl [oD 9,oD 10,oC 13,oD 14,oD 15,oC 16]) (.pl [oD 6,oD 10,oC 13,oD 14,oD 15,oC 16])) mixed ol od (V _ h0) ?_;refine u2<|p QF<|p QF<|p QF<|Qpw (g:=Yf) (i:=i) (L:=[]) U Qae (λw' O=>QK O.2 oa (λb _=>oe)) (V _ h0) rfl rfl gg λa61 kx=>?_;rw[gh]at kx;refine p (λ_=>Zt U)<|pq (λw' O=>QA ((kx w' O).fld 0 _ U) U)<|p (QR U)<|pq (λ_ O=>Qr (kr.J O.1 kw) U U)<|p (QR U)<|pq (λ_ O=>Qr (kr.J O.1 kw) U U)<|pe ⟨?_,?_⟩
   ·refine ue<|xg<|(Z5 (ku.I h0)).mono ?_;rintro vk w9 ⟨h7,h8⟩;have h2:=h0.D h7;have po:=h7.size;have gj:=Qi h8;refine⟨V _ h2,?_⟩;refine uP<|pk<|QB (us:=[[oE oF d.2.1]]) U U og oe ⟨rfl,rfl,Z⟩ λbl pp hq hbl gk=>?_;have h9:=h2.D hq;have pu:=hq.size;refine⟨V _ h9,?_⟩;refine pk<|Zb (news:=[oE oF d.2.1]) (L:=[]) (Qq h8 hq) U U U (gk.at oe) (by simp[Value.oneCell']) oa oa λT gl gm gn pw=>?_;have hA:O1 [] I gl:=h9.then gn (λb E=>.inr (ot (gj b E).1));have hr:=Qv.snoc (Zy gm (show I.heap.size<=_ by omega));refine⟨V _ hA,?_⟩;have go:=(Qv.ints (L:=[]) hr (by simp;omega) oe).one;have gp:=(Qv.ints (L:=[]) hr (by simp;omega) oe).cells;refine p (λ_=>Qy ⟨gp,U,Z⟩)<|pk<|QB (us:=[Yf ⟨T,wdN ei.f d⟩]) U U og (by exact(by decide:1*2<=1000000)) oz λbm gq J pz hB=>?_;have ha:=hA.D J;refine⟨V _ ha,?_⟩;have ht:=h6.I ha;have gr:=ht.st.size;refine pk<|Qg6 (news:=Yf ⟨T,wdN ei.f d⟩) (L:=[]) (m:=1) ht.l U U U (hB.at oe) (by intro u hu;simp only[oK,oI,or_false]at hu;rcases hu with rfl|rfl;exact go;rfl) oa gr λvz p0 gs hv hC gt=>⟨⟨(ha.mono oe).Q hv,gt⟩,p ZM<|pe ?_⟩
    have gu:QP (ob vL2) gq.heap T (wdN ei.f d).u:=Qv.ints (Qq hr J) (by show(ei.f.u++[d.2.1]).length<=_;rw[Ll,LF];omega) (λb E=>Zf h6.l b E);exact⟨(vz,T),La,ht.add hv gs hC gu,(kt.I ha).grow hv (λb E=>E) hC⟩
   refine ue<|QB (us:=[[oE oF d.2.1]]) U U og oe ⟨rfl,rfl,Z⟩ λbl w9 h7 hbl gk=>?_;have h2:=h0.D h7;have po:=h7.size;refine⟨V _ h2,?_⟩;refine uP<|pk<|xg<|(Z5 (ku.I h2)).mono ?_;rintro vk pp ⟨hq,h8⟩;have h9:=h2.D hq;have pu:=hq.size;have gj:=Qi h8;refine⟨V _ h9,?_⟩;refine pk<|Zb (news:=[oE oF d.2.1]) (L:=[]) h8 U U U ((gk.I hq).at oe) (by simp[Value.oneCell']) oa oa λT gl gm gn pw=>?_;have hA:O1 [] I gl:=h9.then gn (λb E=>.inr (ot (gj b E).1));have hr:=Qv.snoc (Zy gm (show I.heap.size<=_ by omega));refine⟨V _ hA,?_⟩;have go:=(Qv.ints (L:=[]) hr (by simp;omega) oe).one;have gp:=(Qv.ints (L:=[]) hr (by simp;omega) oe).cells;refine p (λ_=>Qy ⟨gp,U,Z⟩)<|pk<|QB (us:=[Yf ⟨T,wdN ei.f d⟩]) U U og (by exact(by decide:1*2<=1000000)) oz λbm gq J pz hB=>?_;have ha:=hA.D J;refine⟨V _ ha,?_⟩;have ht:=h6.I ha;have gr:=ht.st.size;refine pk<|Qg6 (news:=Yf ⟨T,wdN ei.f d⟩) (L:=[]) (m:=1) ht.l U U U (hB.at oe) (by intro u hu;simp only[oK,oI,or_false]at hu;rcases hu with rfl|rfl;exact go;rfl) oa gr λvz p0 gs hv hC gt=>⟨⟨(ha.mono oe).Q hv,gt⟩,p ZM<|pe ?_⟩
   have gu:QP (ob vL2) gq.heap T (wdN ei.f d).u:=Qv.ints (Qq hr J) (by show(ei.f.u++[d.2.1]).length<=_;rw[Ll,LF];omega) (λb E=>Zf h6.l b E);exact⟨(vz,T),La,ht.add hv gs hC gu,(kt.I ha).grow hv (λb E=>E) hC⟩
  rintro⟨vz,T⟩ g14 w14 ⟨kz,k0⟩;simp only[]at kz k0;refine Qw<|QS U U<|Qa<|xe ?_;exact⟨(k+1,vz,fs++[⟨T,wdN ei.f d⟩]),oh,oz,S,kz,k0,by simp;omega,⟨by simp;omega,by simp only[];rw[MT gg];exact gh⟩,by simp only[];rw[Lt,LA];exact hh⟩
 rintro⟨vL,es⟩ g20 hD ⟨h3,k4,p1⟩;simp only[]at h3 k4 p1;rw[k4]at hW;have p2:=J.D h3.st;have hw:Zm [] hD.heap vL es.length 2 (es.flatMap Yf):=QK h3.l oa (λb _=>oe);refine Qc<|Qb<|Qd<|Qm<|QI hw U<|Qa<|xe<|Qg<|QD (α:=Nat×OY×List TV) [(13,13),(15,15),(80,100)] (λz=>[(13,z.2.1),(80,oE oF z.1)])
  (λz w'=>z.1<=es.length/\O1 [] hD w'/\yx 56 hD.heap.size w' z.2.1 z.2.2/\z.2.2.map (·.2)=((es.take z.1).filter λp=>!mk || decide (p.f.s∈a.mr)).map (λp=>p.f.u)/\∀p∈z.2.2,QP (ob z.2.1) w'.heap p.1 p.2) (λz=>es.length - z.1) ol (0,nS,[]) oz
  ⟨Lo _,O1.Z _ _,QJ _ _ _ _,U,λp G=>by cases G⟩ ?_
 rintro⟨k,vT,ps⟩ g21 k5 ⟨hk,hf,hT,hE,hK⟩;simp only[]at hk hf hT hE hK;have hpl:ps.length<=k:=by
  have h1:=OR oO hE;rw[Lh,Lh]at h1;rw[h1];refine LH (MD _ _) ?_;rw[Ly];omega
 refine Qc<|Q0 U U<|xe<|Qd<|QH U (λgv=>?_) (λgv=>?_)
 ·refine Qz ?_;have gb:es.length<=k:=by have hL:¬(k:Int)<(es.length:Int):=gv;omega
  refine Qm<|x Ql<|Qb<|Qk ⟨[vT,oE oF 0],oz,p2.D hf,.inr ⟨_,vT,ps,hW,U,⟨QK hT oa (λb _=>oe),λp G=>(hK p G).up (λb E=>by cases E)⟩,?_⟩⟩;rw[hE,Lr gb];show _=((es.map (λp:FV=>p.f)).filter λf=>!mk || decide (f.s∈a.mr)).map (λx:Fw=>x.u);rw[List.filter_map,MB];rfl
 have S:k<es.length:=by have hL:(k:Int)<(es.length:Int):=gv;omega
 have k6:=h3.each _ (Lk S);refine Zo (es[k]'S) λek gw=>?_;rw[gw]at k6;have k7:QP (ob vT) k5.heap ek.v ek.f.u:=((k6.up (L':=[]) (λb E=>by cases E)).up (λb E=>.inr (Qi hT b E).1)).I hf;refine Qh<|Qd<|Qg<|Qc<|O4 (g:=Yf) (i:=k) Qae (hw.I hf) U U S λa82 hL=>?_;rw[gw]at hL;refine x (Qx hL U U)<|Qe<|Qo (us:=[nS,oE oF 0]) U λb15 w22 p3 p4 p5=>Qe<|Qj (us:=Yf ek) p5 U U U U ⟨k7.one,U,Z⟩ λhj p6 k8=>xe ?_;have Y:O1 [] k5 hj:=p3.O p6 p4;have hB:=((hO.I h3.st).I hf).I Y;have p7:QP [] hj.heap vm a.mr:=(((h.I J).mr.I h3.st).I hf).I Y;have hF:(es.take (k+1)).filter (λp=>!mk || decide (p.f.s∈a.mr))=(es.take k).filter (λp=>!mk || decide (p.f.s∈a.mr))++(if(!mk || decide (ek.f.s∈a.mr))=true then[ek]else[]):=by
  rw[Lm S,L6,gw,Mh,Nc]
 refine Za (α:=Bool) [(84,92)] (λz=>[(92,.bool z)]) (λz w'=>w'=hj/\z=(!mk || decide (ek.f.s∈a.mr))) ol ?_ ?_
 ·refine Or.elim (QoS mk) (λgx=>?_) (λgx=>?_)
  ·subst gx;refine Qw<|Qa<|x (ZC U)<|Qa<|Qs U hB U U<|Qs U k8 U U<|QM<|(Yr p7 ek.f.s).mono ?_;rintro r91 hj ⟨rfl,rfl⟩;refine QG U<|xe ?_;exact⟨_,La,U,U⟩
  subst gx;refine Qw<|Qa<|x (ZC U)<|Qa<|Qp<|Qp<|Qp<|Qp<|Qp<|QG U<|xe ?_;exact⟨true,La,U,U⟩
 rintro z g23 hj ⟨rfl,hz⟩;rw[<-hz]at hF;refine QQ rfl (λgy=>?_) (λgy=>?_)
 rotate_left
 ·rw[OP (by rw[gy];decide),LK]at hF;refine Qh<|Qw<|QS U U<|Qa<|xe ?_;exact⟨(k+1,vT,ps),oh,oz,S,hf.D Y,Qq hT Y,by simp only[];rw[hF];exact hE,λp G=>(hK p G).I Y⟩
 rw[OQ gy]at hF;have k9:=k7.I Y;have ma:=Qq hT Y;have kv:=k9.le;refine Qw<|Qa<|Qe<|Xw λb94 w24 hM mf p8=>Q7 U<|x (Qr (k8.I hM) U U) <|
  Qe<|Qcn (base:=hj.heap.size) (p8.own (n:=0) (sz:=1) U oa mf) U (k9.I hM) U (zn ek.f.u) oa (ot hM.size) λh4 gz p9 qc hn25=>?_
 have qo:O1 [] hj gz:=hM.O qc mf;have qr:Qv 3 hj.heap.size gz h4 ek.f.u:=by simpa[tup]using p9
 have g0:QP (ob vT) gz.heap h4 ek.f.u:=Qv.ints qr kv (λb E=>Zf ma b E);refine Qe<|QB (us:=[[h4]]) U U og oe ⟨g0.cells,rfl,Z⟩ λb98 w26 mg hb98 q0=>?_;have hN:=qo.D mg;have q1:=Qq ma hN;refine Qe<|Zb (news:=[h4]) (L:=[]) q1 U U U (q0.at oe) (λy hy=>by simp only[oH]at hy;subst hy;exact g0.one) oa (ov hf.size Y.size hN.size) λmh mi q2 g2 mj=>Qb ?_;have q3:O1 [] hD mi:=((hf.D Y).D hN).then g2 (λb E=>.inr (Qi hT b E).1);have q4:yx 56 hD.heap.size mi mh (ps++[(h4,ek.f.u)]):=yx.snoc q2;refine Qw<|QS U U<|Qa<|xe<|⟨(k+1,mh,ps++[(h4,ek.f.u)]),oh,oz,S,q3,q4,?_,λp G=>?_⟩
 ·simp only[];rw[Lt,hE,hF,Lt];rfl
 rcases Lc.1 G with G|G
 ·exact(((hK p G).I Y).I hN).grow g2 (λb E=>E) mj
 simp only[oH]at G;subst G;exact(g0.I mg).grow g2 (λb E=>E) mj
theorem VZ {v:OY}{l':LI}(h:QP L w.heap v l)(E:QP L' w.heap v' l'):Q3 prog 205 [v,v'] w λr w'=>r=.bool (decide (l=l'))/\O1 [] w w':=by
 have hg:=h.le;refine Zq func205 ?_;refine Qc<|Qb<|Qd<|Qm<|QI h U<|Qa<|QI E U<|ZB U U<|xe<|QX rfl (λV=>?_) (λV=>?_)
 ·refine Qc<|Qb<|Qk ⟨[.bool false],La,?_,O1.Z _ _⟩;have H:l≠l':=λe=>V (by rw[e]);simp[tup,H]
 refine Qh<|Qd<|Qc<|Qb<|Qg<|QD (α:=Nat) [(4,5),(11,25)] (λk=>[(5,oE oF k)]) (λk w'=>O1 [] w w'/\k<=l.length/\(l=l'↔l.drop k=l'.drop k)) (λk=>l.length - k) ol 0 La ⟨O1.Z _ _,Lo _,oe⟩ ?_;rintro k g w1 ⟨G,hk,I⟩
 replace h:=h.I G
 replace E:=E.I G;refine Qd<|Qm<|Qa<|QI h U<|Q0 U U<|xe<|QH rfl (λha=>?_) (λha=>?_)
 ·refine Qz<|Qc<|Qb<|Qk ⟨[.bool true],La,?_,G⟩;rw[Lp oa,Lp oa]at I;simp[tup,I]
 have J:k<l.length:=oa
 have O:k<l'.length:=oa
 refine Qh<|Qd<|Qg<|Qd<|ZI [] (Xx 0 9 [])<|p QF<|p QF<|pii (i:=k) U h U U J λhh hb=>pq (λ_ S=>QA (hb.I S) U)<|p QF<|p QF<|pii (i:=k) U E U U O λhi hf=>pq (λ_ S=>QA (hf.I S) U)<|p (λ_=>Xr U U)<|pe ?_;have Y:=G.D (O1.C [] w1);refine QX rfl (λT=>?_) (λT=>?_)
 ·refine Qc<|Qb<|Qk ⟨[.bool false],La,?_,Y⟩;have H:l≠l':=λe=>T (by simp[e]);simp[tup,H]
 refine Qh<|Qw<|Qa<|QS U U<|Qb<|⟨k+1,oa,La,Y,oa,?_⟩;have he:l[k]'J=l'[k]'O:=Ln.1 T;rw[I,Zd J,Zd O,he];exact⟨λh=>(List.cons.inj h).2,λh=>by rw[h]⟩
theorem Qi8 {ua um ue:OY}(h:ZH L w.heap va vm ve a)(h':ZH L' w.heap ua um ue a):Q3 prog 204 [.agg #[va,oE oF a.st,vm,ve],.agg #[ua,oE oF a.st,um,ue]] w λr w'=>r=.bool true/\O1 [] w w':=by
 have hv:=h.ed.le;refine Zq func204 ?_;refine Qc<|Qe<|QW (us:=[va,oE oF a.st,vm,ve]) U λb2 w1 hl hw hm=>Qe<|QW (us:=[ua,oE oF a.st,um,ue]) U λb3 w2 hb hy I=>Qb ?_;have S:=hl.D hb;have J:=hm.I hb;have T:=h.I S;have V:=h'.I S;refine Qd<|Za (α:=Unit) [(6,35)] (λ_=>[(35,.bool false)]) (λ_ w'=>O1 [] w2 w') ol ?_ ?_
 ·refine Qw<|Qs U J U U<|Qs U I U U<|QM<|(VZ T.al V.al).mono ?_;rintro r3 w3 ⟨he,E⟩;rw[OT rfl]at he;subst he;refine x (ZC U)<|Qa<|Qs U (J.I E) U U<|Qs U (I.I E) U U<|xb (Xr U U) (λhf=>OS U hf) (λhf=>?_);refine QG U<|Qa<|Qs U (J.I E) U U<|Qs U (I.I E) U U<|QM<|(VZ (T.mr.I E) (V.mr.I E)).mono ?_;rintro r4 w4 ⟨hg,G⟩;rw[OT rfl]at hg;subst hg;have O:=E.D G;refine x (ZC U)<|QG U<|Qa<|Qs U (J.I O) U U<|QI (T.ed.I O) U<|Qs U (I.I O) U U<|QI (V.ed.I O) U<|xb (Xr U U) (λhh=>OS U hh) (λhh=>?_);refine QG U<|xe ?_;exact⟨(),La,O⟩
 rintro⟨⟩ g w3 E;have Y:=S.D E;have hn:=J.I E;have ho:=I.I E;have h3:=h.I Y;have hp:=h'.I Y;refine ZS rfl<|Qh<|Qd<|Qc<|Qb<|Qg<|QD (α:=Nat) [(4,5),(36,53)] (λk=>[(5,oE oF k)]) (λk w'=>O1 [] w3 w'/\k<=a.ed.length) (λk=>a.ed.length - k) ol 0 La ⟨O1.Z _ _,Lo _⟩ ?_;rintro k g w4 ⟨G,hk⟩;have h4:=h3.ed.I G;have hq:=hp.ed.I G;have hi:=hn.I G;have hr:=ho.I G;refine Qd<|Qm<|Qs U hi U U<|QI h4 U<|Q0 U U<|xe<|QH rfl (λhs=>?_) (λhs=>?_)
 ·refine Qz<|Qc<|Qb<|Qk ⟨[.bool true],La,U,Y.D G⟩
 have ha:k<a.ed.length:=oa
 refine Qh<|Qd<|Qg<|Qd<|ZI [] (Xx 0 11 [])<|p (QR U)<|pq (λ_ H=>Qr (hi.I H) U U)<|p QF<|pie (i:=k) U h4 U U ha λhz ht=>pq (λ_ H=>Qx (ht.I H) U U)<|p (QR U)<|pq (λ_ H=>Qr (hr.I H) U U)<|p QF <|
  pie (i:=k) U hq U U ha λh0 hu=>pq (λ_ H=>Qx (hu.I H) U U)<|p (λ_=>V4 U U)<|pe ?_
 refine QX rfl (λhj=>OS U hj) (λhj=>?_);refine Qh<|Qw<|Qa<|QS U U<|Qb<|⟨k+1,oa,La,G.D (O1.C _ _),ha⟩
theorem jW {pS:String}[h:S3 P t]{x:OZ}{p q:Ed}(hx:ev f x=.agg (QC p).toArray)(G:ev f y=.agg (QC q).toArray):
  (execOp (ev f) ⟨d,.binOp .eql t x y E,ty,pS,af,gd⟩).run P w=.ok (.value (.bool (decide (p=q)))) w:=by
 have H:(eqGuard .eql t x y (.agg (QC p).toArray) (.agg (QC q).toArray)).run P w=.ok () w:=by simp[eqGuard,h.g]
 simp only[execOp,hx,G,Sem.run_bind,H,Result.andThen_ok,binOp,V1,Sem.run_pure]
def ex3:Q2:=⟨[0,2],3,[2],[(0,0,2),(0,2,0),(2,2,0)]⟩
def cn3:Q2:=⟨[0,2],2,[1],[(0,0,1),(0,2,0),(1,2,0)]⟩
def se3:List Ed:=[(0,1,0),(0,3,1),(1,1,0)]
theorem Qh3:X9 ex3=0:=od
theorem QkY:Yc ex3=cn3:=od
theorem Qam:X9 cn3=0:=od
theorem Qls:Qj1 cn3 0 [0,0]=0:=od
theorem Qlt:flw cn3 0 [0,0]=(1,1):=od
theorem Qlr:Qf9 cn3 2 true=some [[0],[2,0]]:=od
theorem Qmx:X9 ⟨[1,3],2,[1],se3⟩=0:=od
theorem Qmw:(Yc ⟨[1,3],2,[1],se3⟩).ed=se3:=od
theorem Qnw:rlE cn3 [3,1]=[(0,3,1),(0,1,0),(1,1,0)]:=od
theorem Qpm:([3,1]:LI).mergeSort (λx y=>decide (x<=y))=[1,3]:=by
 refine List.Perm.eq_of_pairwise (le:=λx y:Int=>x<=y) (λa b _ _ E G=>oa) ?_ og ((List.mergeSort_perm _ _).D (List.Perm.swap _ _ _));refine(List.pairwise_mergeSort (le:=λx y:Int=>decide (x<=y)) (λa b c E G=>by simp at *;omega) (λa b=>by simp;omega) [3,1]).imp λh=>oy h
theorem Qmt (l':List Ed)(E:l'.Perm (rlE cn3 [3,1]))(O:l'.Pairwise Qbt):l'=se3:=by
 rw[Qnw]at E;refine List.Perm.eq_of_pairwise (le:=Qbt) (λa b S G H I=>?_) O (by unfold se3 Qbt;decide) (E.D (List.Perm.swap _ _ _));have J:=E.mem_iff.1 S;simp only[oK,oI,or_false]at J;simp only[se3,oK,oI,or_false]at G;unfold Qbt at H I;rcases J with rfl|rfl|rfl <;> rcases G with rfl|rfl|rfl <;> first|rfl|(exfalso;simp only[]at H I;omega)
theorem Qbn (w:OX):Q3 prog 200 [] w λr w'=>O1 [] w w'/\Kg w.heap.size w'.heap r ex3:=by
 refine Zq func200 ?_;refine Qc<|Qe<|Qo (us:=X4) U λb0 V I Y J=>xe ?_;have ha:=J.lt;refine Qc<|Qe<|QB (us:=[[oE oF 0],[oE oF 2]]) U U og oe ⟨rfl,rfl,rfl,rfl,Z⟩ λb1 w2 O hh hb=>Qe<|QB (us:=[[oE oF 2]]) rfl rfl og oe ⟨rfl,rfl,Z⟩ λb2 w3 E hi hc =>
  x (Qy ⟨rfl,U,U,Z⟩)<|x (Qy ⟨U,U,U,Z⟩)<|x (Qy ⟨U,U,U,Z⟩)<|Qe<|QB (us:=[QC (0,0,2),QC (0,2,0),QC (2,2,0)]) U U og (by exact(by decide:3*3<=1000000)) ⟨U,U,U,U,U,U,Z⟩ λG w4 H hj he=>?_
 have S:=(O.D E).D H;have hf:=I.size;have hk:=O.size;have hl:=E.size;have hF:Kg V.heap.size w4.heap (.agg #[.slice (some ⟨b1,0,none⟩) 2 2,oE oF 3,.slice (some ⟨b2,0,none⟩) 1 1,.slice (some ⟨G,0,none⟩) 3 3]) ex3 :=
  jI (a:=ex3) ((hb.I E).I H) (hc.I H) he oa oa oa U U U og og og
 refine x (Qy ⟨U,U,U,U,Z⟩)<|Qe<|Qj (us:=[.slice (some ⟨b1,0,none⟩) 2 2,oE oF 3,.slice (some ⟨b2,0,none⟩) 1 1,.slice (some ⟨G,0,none⟩) 3 3]) (J.I S) U U U U oB λw5 T hg=>xe ?_;refine Qk ⟨[.agg #[.slice (some ⟨b1,0,none⟩) 2 2,oE oF 3,.slice (some ⟨b2,0,none⟩) 1 1,.slice (some ⟨G,0,none⟩) 3 3]],⟨⟨_,U,Qn U (hg.at (L:=[]) oe).cells⟩,Z⟩,(I.D S).O T Y,?_⟩;exact(Uy hF ha T).mono hf
theorem Qe8 (w:OX):Q3 prog 137 [] w λr w'=>r=.bool true/\O1 [] w w':=by
 refine Zq func137 ?_;refine Qc<|Qb<|Qc<|QM<|(Qbn w).mono ?_;rintro r1 w1 ⟨hE,va,vm,ve,rfl,hF⟩;refine QM<|(Qav (hF [] oe)).mono ?_;rintro r2 w2 ⟨hG,v2,rfl,_,hH⟩;have hf:=hH Qh3;rw[QkY]at hf;obtain⟨ca,cm,ce,rfl,hI⟩:=hf;have J:=hI [] oe;refine Qa<|QZ U U<|QZ U U<|Qe<|Qo (us:=X4) U λb1 w3 hJ hK hM=>Qe<|Qj (us:=[ca,oE oF 2,cm,ce]) hM U U U U ⟨J.al.one,U,J.mr.one,J.ed.one,Z⟩ λw4 hN O=>Qb ?_;have hg:O1 [] w2 w4:=hJ.O hN hK;have S:=J.I hg;have hO:=(hE.D hG).D hg;refine Qc<|Q6 O U U<|Qe<|QB (us:=[[oE oF 0],[oE oF 0]]) U U og oe ⟨rfl,rfl,rfl,rfl,Z⟩ λg6 w5 hh g7 hP=>QM<|(QnM (u:=[0,0]) (S.I hh) (hP.arr (L:=[]) oe (n:=2) (cap:=2) (sz:=1) rfl oa (Lv _)) 0).mono ?_;rintro r6 w6 ⟨hQ,hi⟩;rw[OP (by rw[Qls];decide),Qlt]at hi;subst hi;refine Qa<|QZ U U<|QZ U U<|QZ U U<|x Ql<|x Ql<|Qb ?_;have V:=hh.D hQ;refine Qc<|Q6 (O.I V) U U<|QM<|(QfM (S.I V) Qam ((Z0 _).1 Qam) 2 og true).mono ?_;rintro r7 w7 ⟨hS,hj⟩;rw[Qlr]at hj;have hT:∃I G H,r7=.tuple #[I,oE oF 0]/\JH [] w7.heap I [G,H]/\G.2=[0]/\H.2=[2,0]:=by
  rcases hj with⟨h,_⟩|⟨l,I,ps,hl,h2,Y,E⟩
  ·cases h
  cases hl
  match ps,Y,E with
  | [G,H],Y,E =>
   simp only[oZ,OM,List.cons.injEq,and_true]at E;exact⟨I,G,H,h2,Y,E.1,E.2⟩
  | [],_,E=>simp at E
  | [_],_,E=>simp at E
  | _::_::_::_,_,E=>simp at E
 obtain⟨I,G,H,rfl,hU,hV,hW⟩:=hT;refine Qa<|QZ U U<|QZ U U<|x Ql<|Qb ?_;have ha:=V.D hS;refine Qc<|Q6 (O.I ha) U U<|Qe<|QB (us:=[[oE oF 3],[oE oF 1]]) U U og oe ⟨rfl,rfl,rfl,rfl,Z⟩ λg8 w8 hk g9 hX =>
  QM<|(Qc3 (to:=[3,1]) ((S.I ha).I hk) Qam ((Z0 _).1 Qam) (hX.arr (L:=[]) oe (n:=2) (cap:=2) (sz:=1) rfl oa (Lv _)) rfl og og Qpm Qmt ((Z0 _).1 Qmx)).mono ?_
 rintro r9 w9 ⟨hY,v9,rfl,hZ⟩;obtain⟨ra,rm,re,rfl,ga⟩:=hZ;have hR:=ga [] oe;have gb:qB [] w9.heap re se3:=by
  have h:=hR.ed;rw[show(Yc ⟨[1,3],cn3.st,cn3.mr,se3⟩).ed=se3 from Qmw]at h;exact h
 refine Qa<|QZ U U<|QZ U U<|Qe<|Qo (us:=X4) U λb8 ka gc gg gh=>Qe<|Qj (us:=[ra,oE oF (Yc ⟨[1,3],cn3.st,cn3.mr,se3⟩).st,rm,re]) gh U U U U ⟨hR.al.one,U,hR.mr.one,hR.ed.one,Z⟩ λhm gi gj=>Qb ?_;have hn:O1 [] w9 hm:=gc.O gi gg;have ho:=(hk.D hY).D hn;have hb:=ha.D ho;have gk:=S.I hb;have gl:=O.I hb;have gm:=hU.I ho;have gn:=gb.I hn;refine Za (α:=Unit) [(0,0),(33,98)] (λz=>[(0,.bool true)]) (λz w'=>O1 [] hm w') ol ?_ ?_
 ·refine Qw<|Qa<|xb (QY U U) (λhp=>?_) (λhp=>OS Qh3 hp);refine Qa<|Q6 gl U U<|Qe<|QB (us:=[[oE oF 0],[oE oF 2]]) U U og oe ⟨rfl,rfl,rfl,rfl,Z⟩ λgo kb gp kc gq=>Qe<|QB (us:=[[oE oF 1]]) rfl rfl og oe ⟨rfl,rfl,Z⟩ λgr ke hq kf gs =>
   x (Qy ⟨U,U,U,Z⟩)<|x (Qy ⟨U,U,U,Z⟩)<|x (Qy ⟨U,U,U,Z⟩)<|Qe<|QB (us:=[QC (0,0,1),QC (0,2,0),QC (1,2,0)]) U U og (by exact(by decide:3*3<=1000000)) ⟨U,U,U,U,U,U,Z⟩ λgt gu hc kg gv=>?_
  have hr:=(gp.D hq).D hc;have hL:ZH [] gu.heap (.slice (some ⟨go,0,none⟩) 2 2) (.slice (some ⟨gr,0,none⟩) 1 1) (.slice (some ⟨gt,0,none⟩) 3 3) cn3 :=
   ⟨((gq.I hq).I hc).arr (L:=[]) oe (n:=2) (cap:=2) (sz:=1) rfl oa (Nat.le_refl _),(gs.I hc).arr (L:=[]) oe (n:=1) (cap:=1) (sz:=1) rfl oa (Nat.le_refl _),gv.arr (L:=[]) oe (n:=3) (cap:=3) (sz:=3) rfl oa (Lv _)⟩
  refine x (Qy ⟨U,U,U,U,Z⟩)<|QM<|(Qi8 (a:=cn3) (gk.I hr) hL).mono ?_;rintro kh ki ⟨rfl,gw⟩;have hs:=hr.D gw;have T:=gm.I hs;refine QG U<|Qa<|Qa<|xb (QY U U) (λht=>?_) (λht=>OS U ht);refine QG U<|Qa<|Qa<|xb (QY U U) (λhu=>?_) (λhu=>OS U hu);refine QG U<|Qa<|Qa<|xb (QY U U) (λhv=>?_) (λhv=>OS U hv);refine QG U<|Qa<|Qa<|xb (QY U U) (λhw=>?_) (λhw=>OS U hw);refine QG U<|Qa<|Qa<|QI T.arr U<|xb (QY U U) (λhy=>?_) (λhy=>OS U hy);refine QG U<|Qa<|Qa<|O4 (g:=YE) (i:=0) VA T.arr U U oe λkj gx=>x (QA gx rfl)<|Qe<|QB (us:=[[oE oF 0]]) rfl rfl og oe ⟨rfl,rfl,Z⟩ λkk kn hz ko gy =>
   QM<|(VZ (l:=G.2) (l':=[0]) ((T.each G oe).I hz) (gy.arr (L:=[]) oe (n:=1) (cap:=1) (sz:=1) rfl oa (Lv _))).mono ?_
  rintro kq kr ⟨h0,gz⟩;rw[hV,OT rfl]at h0;subst h0;have h1:=hz.D gz;have h5:=T.I h1;refine QG U<|Qa<|Qa<|O4 (g:=YE) (i:=1) VA h5.arr U U oe λkt g0=>x (QA g0 rfl)<|Qe<|QB (us:=[[oE oF 2],[oE oF 0]]) rfl rfl og oe ⟨rfl,rfl,rfl,rfl,Z⟩ λku kv h6 kw g2 =>
   QM<|(VZ (l:=H.2) (l':=[2,0]) ((h5.each H oe).I h6) (g2.arr (L:=[]) oe (n:=2) (cap:=2) (sz:=1) rfl oa (Lv _))).mono ?_
  rintro kx kz ⟨h7,g3⟩;rw[hW,OT rfl]at h7;subst h7;have he:=(hs.D h1).D (h6.D g3);have h8:=gj.I he;have h9:=gn.I he;refine QG U<|Qa<|Qa<|xb (QY U U) (λhA=>?_) (λhA=>OS U hA);refine QG U<|Qa<|Qs U h8 U U<|QI h9 U<|xb (QY U U) (λhB=>?_) (λhB=>OS U hB);refine QG U<|Qa<|Qs U h8 U U<|xie (i:=1) h9 U U og λk0 g4=>x (Qx g4 U U)<|x (Qy ⟨U,U,U,Z⟩)<|xb (jW (p:=(0,3,1)) (q:=(0,3,1)) U U) (λhD=>?_) (λhD=>OS U hD);refine QG U<|Qb<|⟨(),La,he⟩
 rintro z g k4 g5;exact Qk ⟨[.bool true],La,U,(hO.D hb).D g5⟩
theorem QfS (w:OX):Q3 prog 69 [] w λr w'=>r=.bool true/\O1 [] w w':=by
 refine Zq func69 ?_;refine Qc<|Qb<|Qc<|QM<|(Qe8 w).mono ?_;rintro G H ⟨rfl,E⟩;refine Qb<|Qk ⟨[.bool true],La,U,E⟩
theorem CL.cel_rq {c:CL}{k:Zx}(h:c.V=k)(v:OY)(qs:List IV):(CL.mk c.ve c.vc v c.vx c.vk c.ev c.co qs c.ex c.cs).V={ k with rq:=qs.map IV.it }:=by rw[<-h];rfl
theorem CL.cel_ex {c:CL}{k:Zx}(h:c.V=k)(v:OY)(qs:List XV):(CL.mk c.ve c.vc c.vr v c.vk c.ev c.co c.rq qs c.cs).V={ k with ex:=qs.map XV.x }:=by rw[<-h];rfl
theorem CL.cel_cs {c:CL}{k:Zx}(h:c.V=k)(v:OY)(qs:List KV):(CL.mk c.ve c.vc c.vr c.vx v c.ev c.co c.rq c.ex qs).V={ k with cs:=qs.map KV.k }:=by rw[<-h];rfl
theorem Qcd {c:CL}{k:Zx}(h:ZJ [] w.heap c)(J:c.V=k)(G:YS k=0)(O:Kb w 4096):
  Q3 prog 65 [c.val] w λr w'=>O1 [] w w'/\∃va vm ve v1 v2 v3 E,r=.tuple #[.agg #[va,oE oF (spc k).a.st,vm,ve,v1,v2,v3,E],oE oF 0]/\Zp [va,oE oF (spc k).a.st,vm,ve,v1,v2,v3,E]/\Zm [] w'.heap E (spc k).fb.length 4 ((spc k).fb.flatMap ZX):=by
 refine(yk h O).mono ?_;rintro r w' ⟨S,v,rfl,⟨us,T,_,H⟩,I⟩;rw[J]at I ⊢;obtain⟨va,vm,ve,v1,v2,v3,E,cos,rqs,rfl,_,_,V⟩:=I G;have Y:us=[va,oE oF (spc k).a.st,vm,ve,v1,v2,v3,E]:=by
  have h9:=OR (λv=>match v with|Value.agg cs=>cs.toList|_=>[]) T
  simpa using h9.symm
 rw[Y]at H;exact⟨S,va,vm,ve,v1,v2,v3,E,by rw[G],H,(V [] oe).2.2.2.2⟩
theorem Qnx {c:CL}{k:Zx}(h:ZJ [] w.heap c)(E:c.V=k)(G:YS k=0)(H:(spc k).a.st<4096)(I:Qeh k=true)(J:Kb w 4096):
  Q3 prog 135 [c.val] w λr w'=>O1 [] w w'/\∃xa xm xe vb,r=.tuple #[.agg #[xa,oE oF ((spc k).a.st+1),xm,xe],vb,oE oF 0]/\Zp [xa,xm,xe]/\Qv 3 w.heap.size w' vb (cmB k):=by
 subst E;exact Qb0 h J G H I
abbrev QmG:LV:=[nS,oE oF 0,nS,nS,nS,nS,nS,nS]
theorem QoX {P:Prop}{a b:Int}(e:a=b)(h:¬a=b):P:=OS e h
theorem Qcu (ha:Kb w 4096):Q3 prog 68 [] w λr w'=>r=.bool true/\O1 [] w w':=by
 refine Zq func68 ?_;refine Qc<|Qb<|Qc<|QM<|(Xo 1 og w).mono ?_;rintro r1 w1 ⟨hG,c1,rfl,gw,gx⟩;refine QM<|(Xo 2 og w1).mono ?_;rintro r2 w2 ⟨h0,c2,rfl,gy,gz⟩;refine QM<|(Xo 2 og w2).mono ?_;rintro r3 w3 ⟨hc,c3,rfl,g0,g2⟩;have he:=((gx [] oe).I h0).I hc;have hf:=(gz [] oe).I hc;have hg:=g2 [] oe;refine Qe<|Qo (us:=Z3) U λb1 w4 g3 p9 hH=>Qe<|Qo (us:=Z3) U λb2 w5 hI qc hJ=>Qe<|Qo (us:=Z3) U λE w6 h1 qo J=>?_;have qr:=hH.lt;have q0:=hJ.lt;have q1:=J.lt;refine Qe<|Qj (us:=c1.cells) ((hH.I hI).I h1) U U U U he.ones λw7 hh g4=>Qe<|Qj (us:=c2.cells) ((hJ.I h1).J hh om) U U U U hf.ones λw8 hi g5 =>
  Qe<|Qj (us:=c3.cells) ((J.J hh om).J hi om) U U U U hg.ones λw9 hj g6=>xe ?_
 have hk:O1 [] w3 w9:=((((g3.D hI).D h1).O hh oa).O hi oa).O hj oa;have g7:=((hG.D h0).D hc).D hk;have g8:=(g4.J hi om).J hj om;have g9:=g5.J hj om;have J:∀b∈[b1,b2,E],w3.heap.size<=b/\b<w6.heap.size:=λb H=>by
  simp only[oK,oI,or_false]at H;rcases H with rfl|rfl|rfl <;> omega
 have m1:∀b∈[b1],b∈[b1,b2,E]:=oe
 have m2:∀b∈[b2],b∈[b1,b2,E]:=oe
 have m3:∀b∈[E],b∈[b1,b2,E]:=oe
 have he:=(he.up (L':=[b1,b2,E]) (λb H=>.inr (J b H).1)).I hk;have hf:=(hf.up (L':=[b1,b2,E]) (λb H=>.inr (J b H).1)).I hk;have hg:=(hg.up (L':=[b1,b2,E]) (λb H=>.inr (J b H).1)).I hk;have q2:w6.heap.size<=w9.heap.size:=by have:=hh.size;have:=hi.size;have:=hj.size;omega
 have nB:∀b,w9.heap.size<=b->b∉[b1,b2,E]:=λb H hm=>ot (J b hm).2
 refine Qc<|Qe<|QB (us:=[[oE oF 1]]) U U og oe ⟨rfl,rfl,Z⟩ λhl q3 hK q4 ka=>Qe<|QB (us:=[[oE oF 0]]) rfl rfl og oe ⟨rfl,rfl,Z⟩ λhn q6 h2 za kb=>x (Qy ⟨rfl,rfl,rfl,Z⟩) <|
  x (Zc [(0,[.string V8]),(1,[.slice (some ⟨hl,0,none⟩) 1 1,oE oF 1,.slice (some ⟨hn,0,none⟩) 1 1,nS])] ⟨U,U,U,U,Z⟩) <|
  Qe<|QB (us:=[[.string V8,.slice (some ⟨hl,0,none⟩) 1 1,oE oF 1,.slice (some ⟨hn,0,none⟩) 1 1,nS]]) U U og (by exact(by decide:1*5<=1000000)) oz λh3 kc h4 zb ke=>?_
 have ho:=(hK.D h2).D h4;refine Q7 rfl<|Qe<|QE (j:=2) (u:=.slice (some ⟨h3,0,none⟩) 1 1) (g8.I ho) U U oe rfl λh5 hp kf=>xe ?_;have zv:=hK.size;have z0:=h2.size;have V:O1 [b1,b2,E] w9 h5:=ho.any.Q (hp.mono m1);have kg:ZJ [b1,b2,E] h5.heap (CL.mk c1.ve c1.vc (.slice (some ⟨h3,0,none⟩) 1 1) c1.vx c1.vk c1.ev c1.co [⟨V8,⟨.slice (some ⟨hl,0,none⟩) 1 1,.slice (some ⟨hn,0,none⟩) 1 1,nS,Qad.a⟩⟩] c1.ex c1.cs):=by
  have G:=he.st V;refine⟨G.ev,G.co,XH.st (w:=kc) ⟨ke.arr (nB _ oa) (n:=1) (cap:=1) (sz:=5) U og (Lv _),λq I=>?_,λq I=>?_⟩ (hp.mono m1),G.ex,G.cs⟩
  ·rw[Lb.1 I];exact⟨((ka.I h2).I h4).arr (nB _ oa) (n:=1) (cap:=1) (sz:=1) U og (Lv _),(kb.I h4).arr (nB _ oa) (n:=1) (cap:=1) (sz:=1) U og (Lv _),Zm.nil _ _ 3⟩
  rw[Lb.1 I];exact Jl og
 refine Qc<|x (Qy ⟨U,U,Z⟩)<|x (Qy ⟨U,U,Z⟩)<|Qe<|QB (us:=[QN (0,1),QN (1,1)]) U U og (by exact(by decide:2*2<=1000000)) oB λh6 z1 hL z2 kh=>x (Qy ⟨U,U,Z⟩) <|
  Qe<|QB (us:=[[.string YY,.slice (some ⟨h6,0,none⟩) 2 2]]) U U og (by exact(by decide:1*2<=1000000)) oz λh7 ki hM z3 kj=>?_
 have hr:=hL.D hM;refine Q7 rfl<|Qe<|QE (j:=3) (u:=.slice (some ⟨h7,0,none⟩) 1 1) ((g9.J (ho.any.Q hp) om).I hr) U U oe rfl λh8 hs kk=>xe ?_;have z4:=hL.size;have Y:O1 [b1,b2,E] h5 h8:=hr.any.Q (hs.mono m2);have z5:=Y.size;have hz913:=V.size;have kn:ZJ [b1,b2,E] h8.heap (CL.mk c2.ve c2.vc c2.vr (.slice (some ⟨h7,0,none⟩) 1 1) c2.vk c2.ev c2.co c2.rq [⟨YY,.slice (some ⟨h6,0,none⟩) 2 2,[(0,1),(1,1)]⟩] c2.cs):=by
  have G:=hf.st (V.Q Y);refine⟨G.ev,G.co,G.rq,yp.st (w:=ki) ⟨kj.arr (nB _ oa) (n:=1) (cap:=1) (sz:=2) U og (Lv _),λq I=>?_,λq I=>?_⟩ (hs.mono m2),G.cs⟩
  ·rw[Lb.1 I];exact(kh.I hM).arr (nB _ oa) (n:=2) (cap:=2) (sz:=2) U og (Lv _)
  rw[Lb.1 I];exact Jl og
 refine Qc<|x (Qy ⟨U,U,Z⟩)<|x (Qy ⟨U,U,Z⟩)<|Qe<|QB (us:=[QN (0,1),QN (1,1)]) U U og (by exact(by decide:2*2<=1000000)) oB λhA w17 hN hb30 ko=>x (Qy ⟨U,U,U,Z⟩) <|
  Qe<|QB (us:=[[.string j2,.slice (some ⟨hA,0,none⟩) 2 2,oE oF 1]]) U U og (by exact(by decide:1*3<=1000000)) oz λhB kq hO hb32 kr=>?_
 have ht:=hN.D hO;refine Q7 rfl<|Qe<|QE (j:=4) (u:=.slice (some ⟨hB,0,none⟩) 1 1) (((g6.J (ho.any.Q hp) om).J (hr.any.Q hs) om).I ht) U U oe rfl λS hu kt=>xe ?_;have hz17:=hN.size;have hv:O1 [b1,b2,E] h8 S:=ht.any.Q (hu.mono m3);have ku:ZJ [b1,b2,E] S.heap (CL.mk c3.ve c3.vc c3.vr c3.vx (.slice (some ⟨hB,0,none⟩) 1 1) c3.ev c3.co c3.rq c3.ex [⟨j2,.slice (some ⟨hA,0,none⟩) 2 2,[(0,1),(1,1)],1⟩]):=by
  have G:=hg.st ((V.Q Y).Q hv);refine⟨G.ev,G.co,G.rq,G.ex,yB.st (w:=kq) ⟨kr.arr (nB _ oa) (n:=1) (cap:=1) (sz:=3) U og (Lv _),λq I=>?_,λq I=>?_⟩ (hu.mono m3)⟩
  ·rw[Lb.1 I];exact(ko.I hO).arr (nB _ oa) (n:=2) (cap:=2) (sz:=2) U og (Lv _)
  rw[Lb.1 I];exact Jl og
 have hP:ZJ [] S.heap _:=((kg.st Y).st hv).up (L':=[]) oe;have kv:ZJ [] S.heap _:=(kn.st hv).up (L':=[]) oe;have kw:ZJ [] S.heap _:=ku.up (L':=[]) oe;have hQ:=(kf.J (hr.any.Q hs) om).J (ht.any.Q hu) om;have kx:=kk.J (ht.any.Q hu) om;have hR:O1 [] w S:=g7.then ((V.Q Y).Q hv) (λb H=>.inr (ou (J b H).1 ((hG.D h0).D hc).size));have hS:=CL.cel_rq gw (.slice (some ⟨h3,0,none⟩) 1 1) [⟨V8,⟨.slice (some ⟨hl,0,none⟩) 1 1,.slice (some ⟨hn,0,none⟩) 1 1,nS,Qad.a⟩⟩];have kz:=CL.cel_ex gy (.slice (some ⟨h7,0,none⟩) 1 1) [⟨YY,.slice (some ⟨h6,0,none⟩) 2 2,[(0,1),(1,1)]⟩];have k0:=CL.cel_cs g0 (.slice (some ⟨hB,0,none⟩) 1 1) [⟨j2,.slice (some ⟨hA,0,none⟩) 2 2,[(0,1),(1,1)],1⟩];refine Qc<|Q6 hQ U U<|QM<|(Qcd (k:=k1C) hP hS Qox (ha.I hR)).mono ?_;rintro r20 k4 ⟨k5,sa,sm,se,s1,s2,s3,s4,rfl,k6,hT⟩;rw[Qow]at hT;refine Qa<|QZ U U<|QZ U U<|Qe<|Qo (us:=QmG) U λb4 w21 k7 k8 k9=>Qe<|Qj (us:=[sa,oE oF (spc k1C).a.st,sm,se,s1,s2,s3,s4]) k9 U U U U k6 λma mf mg=>Qb ?_;have hU:O1 [] k4 ma:=k7.O mf k8;have hw:=k5.D hU;have hV:=hR.D hw;refine Qc<|Q6 (hQ.I hw) U U<|QM<|(Qnx (k:=k1C) (hP.I hw) hS Qox (by rw[Ql2];decide) QmU (ha.I hV)).mono ?_;rintro r23 hW ⟨mh,xa,xm,mi,vb,rfl,hC,hX⟩;rw[QmV]at hX;have mj:QP [] hW.heap vb [2]:=Qv.ints (L:=[]) hX oe oe;refine Qa<|QZ U U<|QZ U U<|QZ U U<|Qe<|Qo (us:=X4) U λb6 w24 mn mo mq=>Qe<|Qj (us:=[xa,oE oF ((spc k1C).a.st+1),xm,mi]) mq U U U U ⟨hC.1,U,hC.2.1,hC.2.2.1,Z⟩ λms mt mu=>x Ql<|Qb ?_;have hY:O1 [] hW ms:=mn.O mt mo;have hy:=mh.D hY;have hD:=hw.D hy;have hZ:=hV.D hy;refine Qc<|Q6 (kx.I hD) U U<|QM<|(Qcd (k:=k2C) (kv.I hD) kz QpB (ha.I hZ)).mono ?_;rintro r26 mv ⟨mw,ta,tm,te,t1,t2,t3,t4,rfl,my,ga⟩;rw[Qou]at ga;refine Qa<|QZ U U<|QZ U U<|Qe<|Qo (us:=QmG) U λb9 w27 mz m4 m5=>Qe<|Qj (us:=[ta,oE oF (spc k2C).a.st,tm,te,t1,t2,t3,t4]) m5 U U U U my λm6 m7 m8=>Qb ?_;have gb:O1 [] mv m6:=mz.O m7 m4;have T:=mw.D gb;have gc:=hD.D T;have gg:=hZ.D T;refine Qc<|Q6 (kt.I gc) U U<|QM<|(Qcd (k:=k3C) (kw.I gc) k0 QpA (ha.I gg)).mono ?_;rintro r29 m9 ⟨pa,ua,um,ue,u1,u2,u3,u4,rfl,pc,gh⟩;rw[Qos]at gh;refine Qa<|QZ U U<|QZ U U<|Qe<|Qo (us:=QmG) U λb11 w30 pd pf pg=>Qe<|Qj (us:=[ua,oE oF (spc k3C).a.st,um,ue,u1,u2,u3,u4]) pg U U U U pc λgi ph pj=>Qb ?_;have gj:O1 [] m9 gi:=pd.O ph pf;have O:=pa.D gj;have pm:=gg.D O;have pn:=((mg.I hy).I T).I O;have po:=(mu.I T).I O;have gk:=m8.I O;have pp:=((((hT.I hU).I hy).I T).I O);have pu:=(ga.I gb).I O;have pw:=gh.I gj;have pz:=((mj.I hY).I T).I O;refine Za (α:=Unit) [(0,0),(55,105)] (λz=>[(0,.bool true)]) (λz w'=>O1 [] gi w') ol ?_ ?_
 ·refine Qw<|Qa<|xb (QY U U) (λgl=>?_) (λgl=>OS U gl);refine Qa<|Qa<|xb (QY U U) (λgm=>?_) (λgm=>OS U gm);refine QG U<|Qa<|Qa<|xb (QY U U) (λgn=>?_) (λgn=>OS U gn);refine QG U<|Qa<|Qa<|xb (QY U U) (λgo=>?_) (λgo=>OS U go);refine QG U<|Qa<|Qs U pn U U<|x (Qy ⟨U,U,U,U,Z⟩)<|Qe<|QB (us:=[ZX ⟨1,3,0,1⟩]) U U og (by exact(by decide:1*4<=1000000)) oz λb73 w32 gp hb73 p0 =>
   QM<|(US (l:=[⟨1,3,0,1⟩]) (pp.I gp) (p0.arr (L:=[]) oe (n:=1) (cap:=1) (sz:=4) rfl og (Lv _))).mono ?_
  rintro r74 w33 ⟨rfl,p1⟩;have hE:=gp.D p1;refine QG U<|Qa<|Qs U (po.I hE) U U<|xb (QY U U) (λgq=>?_) (λgq=>QoX (by rw[Ql2];rfl) gq);refine QG U<|Qa<|Qa<|Qe<|QB (us:=[[oE oF 2]]) U U og oe ⟨rfl,rfl,Z⟩ λb83 w34 gr hb83 p2 =>
   QM<|(Vc (l:=[2]) (l':=[2]) ((pz.I hE).I gr) (p2.arr (L:=[]) oe (n:=1) (cap:=1) (sz:=1) rfl oa (Lv _))).mono ?_
  rintro r84 w35 ⟨gs,p3⟩;rw[OT rfl]at gs;subst gs;have hz:=hE.D (gr.D p3);refine QG U<|Qa<|Q7 U<|Qs U (gk.I hz) U U<|xb (QY U U) (λgt=>?_) (λgt=>QoX Qot gt);refine QG U<|Qa<|Qs U (gk.I hz) U U<|x (Qy ⟨U,U,U,U,Z⟩)<|Qe<|QB (us:=[ZX ⟨3,1,0,-1⟩]) U U og (by exact(by decide:1*4<=1000000)) oz λb96 w36 gu hb96 p4 =>
   QM<|(US (l:=[⟨3,1,0,-1⟩]) ((pu.I hz).I gu) (p4.arr (L:=[]) oe (n:=1) (cap:=1) (sz:=4) rfl og (Lv _))).mono ?_
  rintro r97 w37 ⟨rfl,p5⟩;have hF:=hz.D (gu.D p5);refine QG U<|Qa<|Qs U (pj.I hF) U U<|x (Qy ⟨U,U,U,U,Z⟩)<|Qe<|QB (us:=[ZX ⟨3,2,0,-1⟩]) U U og (by exact(by decide:1*4<=1000000)) oz λb103 w38 gv hb103 p6 =>
   QM<|(US (l:=[⟨3,2,0,-1⟩]) ((pw.I hF).I gv) (p6.arr (L:=[]) oe (n:=1) (cap:=1) (sz:=4) rfl og (Lv _))).mono ?_
  rintro r104 w39 ⟨rfl,p7⟩;refine QG U<|Qb<|⟨(),La,hF.D (gv.D p7)⟩
 rintro z g w40 p8;exact Qk ⟨[.bool true],La,U,pm.D p8⟩
section
variable {s:Q2}{l:List VV}
end
section
variable {s:Q2}{l:List VV}
end
def xI (n:Nat)(d:LI):Prop:=∀x,x<n->0<=O2 d x->O2 d x<=x/\O2 d (O2 d x).toNat=O2 d x
section
variable {s:Q2}{l:List VV}
end
section
variable {p s:Q2}{pairs:List (LI)}
end
section
variable {s:Q2}{l:List VV}
end
section
variable {s:Q2}{l:List VV}{nm:LI}
end
section
variable {s:Q2}{l:List VV}
end
theorem QfF (E:ZD a):ZD (Yc a):=by
 have h0:=E.st0;have h1:=E.st1;by_cases T:a.st=0
 ·unfold Yc;rw[OQ T];exact⟨E.al,E.ali,oe,oe,oe,oe,oe,oe⟩
 obtain⟨ord,h⟩:=QfE E oa;have hl:ord.length<=a.st.toNat:=xC _ _ h.nd (λx hx=>ot (h.bd x hx));refine⟨by rw[h.al];exact E.al,by rw[h.al];exact E.ali,by rw[h.st];omega,by rw[h.st];omega,λs H=>?_,?_,λe J=>?_,?_⟩
 ·rw[h.mk2]at H;simp only[OE,List.mem_filter,Oz]at H;obtain⟨i,⟨hi,_⟩,rfl⟩:=H;rw[h.st];omega
 ·rw[h.mk2];unfold Xk;rw[MF];refine List.Pairwise.sublist MZ ?_;exact(Nx (s:=0) (n:=ord.length)).imp (λh=>oa)
 ·rw[h.ed]at J;obtain⟨j,I,hd⟩:=Ma.1 J;rw[MA]at I;unfold cnR at hd;obtain⟨d,O,rfl⟩:=LC.1 hd;have V:=h.cl j oa d O;have:=MC V;have Y:=(E.ed d (ZU O).1).2.2.1;rw[h.st,h.al];unfold cnF;exact⟨oh,oh,Y,oh,oh⟩
 rw[h.ed];have key:∀n,((oQ 0 n).flatMap (cnR a ord)).Pairwise λx y:Ed=>x.1<y.1\/(x.1=y.1/\x.2.1<y.2.1):=by
  intro n;induction n with
  | zero=>simp
  | succ n ih =>
   rw[Mr,LB,LQ,List.pairwise_append];refine⟨ih,?_,λx hx y G=>?_⟩
   ·simp only[Oa,OF,Oq];unfold cnR;rw[MF];have h2:(Z2 a.ed (Z9 ord n)).Pairwise λx y:Ed=>x.1<y.1\/(x.1=y.1/\x.2.1<y.2.1):=List.Pairwise.sublist MZ E.edi;refine List.Pairwise.imp_of_mem (λ{x y} hx G ha=>?_) h2;have e1:=(ZU hx).2;have e2:=(ZU G).2;right;exact⟨U,by show x.2.1<y.2.1;omega⟩
   obtain⟨j,I,S⟩:=Ma.1 hx;rw[MA]at I;simp only[Oa,OF,Oq]at G;unfold cnR at S G;obtain⟨d,_,rfl⟩:=LC.1 S;obtain⟨d',_,rfl⟩:=LC.1 G;left;show(j:Int)<(n:Int);omega
 exact key _
theorem Qc9 (E:Kb w 4096):Q3 prog 32 [] w λr w'=>r=.bool true/\O1 [] w w':=by
 refine Zq func32 ?_;refine Qc<|Qb<|Za (α:=Unit) [(0,4)] (λz=>[(0,.bool true)]) (λz w'=>O1 [] w w') ol ?_ ?_
 ·refine Qw<|QM<|(Qcu E).mono ?_;rintro O G ⟨rfl,H⟩;refine Qa<|QM<|(QfS G).mono ?_;rintro S T ⟨rfl,I⟩;refine QG U<|Qb<|⟨(),La,H.D I⟩
 rintro z g V J;exact Qk ⟨[.bool true],La,U,J⟩
def YX:ByteArray:=⟨#[98,117,102,102,101,114]⟩
def Ud:YU:=⟨YX,⟨[1,2],2,[0,1],[(0,1,1),(1,2,0)]⟩⟩
def Qaa:Zx:={ mzC 3 with rq:=[Ud],ex:=[Qh1 1 2] }
theorem Qhu:Zi Qaa=0:=od
open Go.ChangeShapes Go.WideShapes Go.RowKit
section
variable {H:Type}{enc:TypeId×OY->H}
theorem ju (hl:laidOutB P=true){W W':OX}(G:O1 [] W W'){sp:Nat->Bool}:∀{ts:List TypeId}{vs:LV}{ds:List (DataW H)}{ps:List MemPlace},
  (ts.all λt=>P.readableRec t && decide (t<P.types.size))=true->DataW.TrodAll enc P W 0 (λ_=>true) true ts vs ds ps->(∀x∈ps,x.block<W.heap.size)->(∀x∈ps,sp x.block=true)->DataW.TrodAll enc P W' 0 sp true ts vs ds ps
 | [],vs,ds,ps,_,h,_,_=>by
  obtain⟨rfl,rfl,rfl⟩:=trodAll_nil h;exact trodAll_mk0
 | t::ts,vs,ds,ps,E,h,I,hsp=>by
  obtain⟨v,T,d,ds1,a,b,rfl,rfl,rfl,J,O⟩:=trodAll_cons h;simp only[oR,oJ,decide_eq_true_eq]at E;have S:Below W.heap.size W W':=G.below;refine trodAll_cons_mk (WideElems.Trod_stays hl E.1.1 E.1.2 J (λx hx=>S.same (I x (Mn _ hx))) (λx hx=>hsp x (Mn _ hx))) ?_;exact ju hl G (oy E.2) O (λx hx=>I x (List.mem_append_right _ hx)) (λx hx=>hsp x (List.mem_append_right _ hx))
theorem Qhm {f:Func}{s:ChangeSpec}{apart fresh handsOn again:Bool}{W:OX}{args:Array OY}{ds gs:List (DataW H)}{before:List MemPlace}{tb:TypeId}
  (hl:laidOutB P=true) (hf:(f.params.toList.all λt=>P.readableRec t && decide (t<P.types.size))=true) (J:f.resultTypes=#[tb]) (O:P.underlying tb=some .bool) (S:s.vars=[])
  (E:s.fn H (ds++gs)={ results:=[.lit (.bool true)],args:=ds })
  (G:DataW.Whole enc P f.params.toList s.vars apart W args.toList ds gs before) (T:O1 [] W W'):s.post enc P f apart fresh handsOn again W args (.bool true) W':=by
 have I:=G.lt;have hg:=G;obtain⟨p,q,hA,hV,rfl,hz,hn⟩:=G;rw[S]at hV;obtain⟨rfl,rfl⟩:=trodVars_none hV;rw[LK]at *;have V:∀sp:Nat->Bool,(∀x∈p,sp x.block=true)->DataW.TrodAll enc P W' 0 sp true f.params.toList args.toList ds p:=λsp hsp=>ju hl T hf hA I hsp;have Y:∀(b:Nat) (sp:Nat->Bool) (hd:Bool),DataW.TrodAll enc P W' b sp hd f.resultTypes.toList ((Value.bool true).resultList f.resultTypes.size) [.lit (.bool true)] []:=λb sp hd=>by
  rw[J];exact trodAll_mk1 (shut_bool O true)
 have hb:Below W.heap.size W W':=T.below;have hc:∀sp:Nat->Bool,DataW.TrodVars enc P W' sp s.vars ([]:List (DataW H)) []:=λsp=>by rw[S];rfl
 have hh:(s.fn H ds).results=[.lit (.bool true)]:=by rw[E]
 have hi:(s.fn H ds).args=ds:=by rw[E]
 have hj:(s.fn H ds).vars=[]:=by rw[E]
 have hk:∀(j:Nat) (t:TypeId) (r:OY),f.resultTypes[j]?=some t->((Value.bool true).resultList f.resultTypes.size)[j]?=some r->Value.okWide P W' .any 0 t r:=ok_one J U (okWide_bool_mk O true);refine⟨ds,[],p,[],p,[],hg,?_,?_,?_,?_,λ_=>⟨hk,[.lit (.bool true)]++ds,[],([]++p)++[],⟨[]++p,[],?_,?_,U,?_,?_⟩,?_⟩⟩
 ·rw[LK,hh];exact Y _ _ _
 ·rw[LK,hi];exact V _ (λx hx=>oy (I x hx))
 ·rw[LK,hj];exact hc _
 ·exact World.keptBut_mono (λ_ f=>f.elim) (hb.frame (λ_=>False))
 ·exact trodAll_append (V _ (λ_ _=>U)) (Y _ _ _)
 ·exact hc _
 ·intro b off hp;have he:MemPlace.cell b off∈p:=by simpa using hp
  rw[hb.frozen (p:=⟨b,off,none⟩) (I _ he)];exact hz b off he
 ·intro ha;have:=hn ha;simpa using this
 intro x hx _;simpa using hx
end
open Go.ChangeShapes Go.WideShapes Go.RowKit Go.Lg
theorem QiQ:∀(l:LV),(∀v∈l,∃n:Nat,v=.int .u8 (n:Int)/\n<256)->∃E:LN,l=bys E/\E.length=l.length/\∀n∈E,n<256
 | [],_=>⟨[],U,U,oe⟩
 | v::l,h=>by
  obtain⟨n,rfl,H⟩:=h v Lq;obtain⟨E,I,J,O⟩:=QiQ l (λv S=>h v (Lj _ S));refine⟨n::E,by rw[I];rfl,by simp[J],λm G=>?_⟩;rcases Li.1 G with rfl|G
  ·exact H
  exact O m G
theorem Qmg {n:Int}(h:(Lit.int .u8 n).wf=true):∃m:Nat,n=m/\m<256:=by
 simp only[Lit.wf,oJ,decide_eq_true_eq]at h;rw[show IntKind.u8.min=0 from rfl,show IntKind.u8.max=255 from rfl]at h;exact⟨n.toNat,oa,oa⟩
def kT (P:O0)(k:IntKind):Nat->TypeId->Bool
 | 0,_=>false
 | m+1,t=>match P.underlying t with
  | some (.int k')=>k' == k
  | some (.array n e)=>kT P k m e && decide (0<P.cellsOf e) && decide (P.cellsOf t=n*P.cellsOf e)
  | some (.struct fs)=>(oW (P.cellsOf t)).all λj=>fs.toList.any λf=>kT P k m f.type && decide (f.offset<=j/\j<f.offset+P.cellsOf f.type)
  | _=>false
theorem Qeb {o:Nat}{c:OY}(h:cs[j]?=some c)(E:o<=j)(G:j<o+n):c∈(cs.drop o).take n:=by
 refine Ms (i:=j - o) ?_;rw[LX,OQ oa,MW,show o+(j - o)=j by omega];exact h
section
variable {H:Type}{enc:TypeId×OY->H}{W:OX}{base b0:Nat}{sp:Nat->Bool}{held:Bool}
theorem zC {k:IntKind}:∀(m:Nat) {t:TypeId}{cs:LV}{fuel:Nat}{x:DataW H×List MemPlace},kT P k m t=true->DataW.trod enc P W b0 sp held fuel t cs=some x->∀c∈cs,∃n,c=.int k n/\(Lit.int k n).wf=true
 | 0,_,_,_,_,h,_,_,_=>by cases h
 | m+1,t,cs,fuel,x,h,O,c,S=>by
  unfold kT at h;obtain⟨j,V,Y⟩:=LP S;have T:cs[j]?=some c:=by rw[LU V,Y]
  split at h
  ·rename_i k' G;have hk:k'=k:=by simpa using h
   subst hk;obtain⟨n,I,_,E⟩:=DataW.trod_int G O;rw[I]at S;exact⟨n,Lb.1 S,E⟩
  ·rename_i n e G;simp only[oJ,decide_eq_true_eq]at h;obtain⟨⟨I,E⟩,h3⟩:=h;obtain⟨xs,m',_,_,hl,ha,hx⟩:=DataW.trod_array G O;have hb:=Nat.div_add_mod j (P.cellsOf e);have hn:=OI j E;have hi:j / P.cellsOf e<n:=by
    refine(Nat.div_lt_iff_lt_mul E).2 ?_;omega
   have J:=hx (j / P.cellsOf e) hi;rw[LU (show j / P.cellsOf e<xs.length by omega)]at J;rw[Nat.mul_comm]at hb;exact zC m I J c (Qeb T oa oa)
  ·rename_i fs G;obtain⟨xs,m',_,_,hl,ha,hx⟩:=DataW.trod_struct G O;have I:=Mg.1 h j (Nu.2 oa);obtain⟨f,he,E⟩:=List.any_eq_true.1 I;simp only[oJ,decide_eq_true_eq]at E;obtain⟨i,hi,hg⟩:=LP he;have hh:i<fs.size:=by simpa using hi
   have hm:fs[i]?=some f:=by rw[Mx hh,<-hg];simp
   have J:=hx i f hm;rw[LU (show i<xs.length by omega)]at J;exact zC m E.1 J c (Qeb T E.2.1 E.2.2)
  cases h
theorem Qmi {c:OY}(h:∃n,c=.int .u8 n/\(Lit.int .u8 n).wf=true):∃n:Nat,c=.int .u8 (n:Int)/\n<256:=by
 obtain⟨n,rfl,E⟩:=h;obtain⟨m,rfl,G⟩:=Qmg E;exact⟨m,U,G⟩
end
theorem Qn8 {W:OX}{l:List (String×DataW Unit)}{a b:String×DataW Unit}(hl:l=[a,b,("internal/strconv.uint64pow10",Lib.tabData .u64 Lib.pow10Tab)]) (h:laidMetH prog l W) (E:(l.all λx=>x.2.handleName?.isNone)=true):Tb W:=by
 rw[Go.MakeChecks.laidMetH_plain _ _ _ E,hl]at h;exact Lib.tabIs_of_head (n:=20) (g:=0) od (t:=479) od od (e:=369) od od od h.tail.tail
section
variable {H:Type}{enc:TypeId×OY->H}{W:OX}{base b0:Nat}{sp:Nat->Bool}{held:Bool}
end
section
variable {P:LI->Prop}
end
abbrev mB (c:Zx)(m:Ux):Q2:=(spc (JC c m)).a
abbrev mL (c:Zx)(m:Ux):Lf:=jU (mB c m) (fbs (spc (JC c m))) (unc c.ev)
section
abbrev suL (c:Zx):Lf:=jU (spc c).a (fbs (spc c)) (unc c.ev)
end
abbrev qv (c:Zx):LI×LI×List Q4:=(kpK (suL c) (spc c).a.st.toNat,kpD (suL c) (dsts (spc c).a (suL c)) (spc c).a.st.toNat,rmS (spc c).a (fbs (spc c)) (unc c.ev))
theorem Qep {b:Q2}:a=b↔(a.al=b.al/\a.st=b.st/\a.mr=b.mr/\a.ed=b.ed):=⟨λh=>by subst h;exact⟨U,U,U,U⟩,λh=>by cases a;cases b;simp_all⟩
theorem QdW {a b:J1}:a=b↔(a.nm=b.nm/\a.co=b.co/\a.ob=b.ob/\a.fo=b.fo/\a.fl=b.fl):=⟨λh=>by subst h;exact⟨U,U,U,U,U⟩,λh=>by cases a;cases b;simp_all⟩
theorem QdN {a b:YU}:a=b↔(a.nm=b.nm/\a.a=b.a):=⟨λh=>by subst h;exact⟨U,U⟩,λh=>by cases a;cases b;simp_all⟩
theorem qQ {a b:UA}:a=b↔(a.nm=b.nm/\a.ls=b.ls):=⟨λh=>by subst h;exact⟨U,U⟩,λh=>by cases a;cases b;simp_all⟩
theorem Um {a b:xG}:a=b↔(a.nm=b.nm/\a.ts=b.ts/\a.bd=b.bd):=⟨λh=>by subst h;exact⟨U,U,U⟩,λh=>by cases a;cases b;simp_all⟩
theorem Qek {a b:Zx}:a=b↔(a.ev=b.ev/\a.co=b.co/\a.rq=b.rq/\a.ex=b.ex/\a.cs=b.cs):=⟨λh=>by subst h;exact⟨U,U,U,U,U⟩,λh=>by cases a;cases b;simp_all⟩
instance:DecidableEq Q2:=λ_ _=>decidable_of_iff _ Qep.symm
instance:DecidableEq J1:=λ_ _=>decidable_of_iff _ QdW.symm
instance:DecidableEq YU:=λ_ _=>decidable_of_iff _ QdN.symm
instance:DecidableEq UA:=λ_ _=>decidable_of_iff _ qQ.symm
instance:DecidableEq xG:=λ_ _=>decidable_of_iff _ Um.symm
instance:DecidableEq Zx:=λ_ _=>decidable_of_iff _ Qek.symm
abbrev Ky:=Int×ByteArray
structure xF where
 ky:Ky
 vr:Int
 sp:Q2
 kp:LI
 ds:LI
 rm:List Q4
 c:Zx
structure Rp where
 kept:List Ky
 made:List Ky
 gone:List Ky
def ZY (c:Zx)(m:Ux):Ky:=(m.kd,if m.kd=1 then(c.rq.getD m.ix.toNat ⟨.empty,KB⟩).nm else if m.kd=2 then(c.ex.getD m.ix.toNat ⟨.empty,[]⟩).nm else(c.cs.getD m.ix.toNat ⟨.empty,[],0⟩).nm)
def V6 (c:Zx)(v:Int)(m:Ux):xF:=⟨ZY c m,v,suA (JC c m),(qv (JC c m)).1,(qv (JC c m)).2.1,(qv (JC c m)).2.2,JC c m⟩
def qn (l:List xF)(k:Ky):Option xF:=l.find? λp=>decide (p.ky=k)
def JX (c:Zx)(bf:List xF)(v:Int)(m:Ux):Int×xF×Bool :=
 if y9 c m≠0 then(y9 c m,V6 c v m,false)else match qn bf (ZY c m)with
 | some p=>if p.c=JC c m then(0,p,true)else(YS (JC c m),V6 c v m,false)
 | none=>(YS (JC c m),V6 c v m,false)
def blL (c:Zx)(bf:List xF)(v:Int):List Ux->List xF->List Ky->List Ky->Int×List xF×List Ky×List Ky
 | [],o,k,n=>(0,o,k,n)
 | m::l,o,k,n=>if(JX c bf v m).1≠0 then((JX c bf v m).1,[],[],[])else
  if(JX c bf v m).2.2=true then blL c bf v l (o++[(JX c bf v m).2.1]) (k++[ZY c m]) n else blL c bf v l (o++[(JX c bf v m).2.1]) k (n++[ZY c m])
def UX (c:Zx)(bf:List xF)(v:Int):=blL c bf v (O5 c) [] [] []
def JF (c:Zx)(bf:List xF)(v:Int):Int:=if Zi c≠0 then Zi c else(UX c bf v).1
def yf (c:Zx)(bf:List xF)(v:Int):List xF:=(UX c bf v).2.1
def QoU (c:Zx)(bf:List xF):List Ky:=(bf.filter λp=>decide (p.ky∉(O5 c).map (ZY c))).map (·.ky)
def Y4 (c:Zx)(bf:List xF)(v:Int):Rp:=⟨(UX c bf v).2.2.1,(UX c bf v).2.2.2,QoU c bf⟩
structure Sys where
 c:Zx
 ps:List xF
 made:Int
 rs:List Rp
 un:List (Zx×List xF)
def qq (c:Zx):Int:=if(ZE c).1≠0 then(ZE c).1 else if Zi c≠0 then Zi c else JF c [] 0
def Qe0 (c:Zx):Sys:=⟨c,yf c [] 0,((Y4 c [] 0).made.length:Int),[],[]⟩
def edI (c:Zx)(es:List (Bool×ZQ)):Int×List ZQ:=if(ZE c).1≠0 then((ZE c).1,[])else zV (ZE c).2 es
def VG (c:Zx)(es:List (Bool×ZQ)):Int×Zx:=if(edI c es).1≠0 then((edI c es).1,Ur)else if(KA c.ev (edI c es).2).1≠0 then((KA c.ev (edI c es).2).1,Ur)else if Zi (KA c.ev (edI c es).2).2≠0 then(Zi (KA c.ev (edI c es).2).2,Ur)else(0,(KA c.ev (edI c es).2).2)
def yn (s:Sys)(es:List (Bool×ZQ)):Int:=if es.length=0 then 12 else if s.un.length=64 then 3 else if(VG s.c es).1≠0 then(VG s.c es).1 else JF (VG s.c es).2 s.ps ((s.un.length:Int)+1)
def edS (s:Sys)(es:List (Bool×ZQ)):Sys:=⟨(VG s.c es).2,yf (VG s.c es).2 s.ps ((s.un.length:Int)+1),s.made+((Y4 (VG s.c es).2 s.ps ((s.un.length:Int)+1)).made.length:Int),s.rs++[Y4 (VG s.c es).2 s.ps ((s.un.length:Int)+1)],s.un++[(s.c,s.ps)]⟩
def unS (s:Sys):Sys:=⟨(s.un.getLastD (s.c,s.ps)).1,(s.un.getLastD (s.c,s.ps)).2,s.made,s.rs.dropLast,s.un.dropLast⟩
abbrev KR (k:Ky):LV:=[oE oF k.1,.string k.2]
theorem QkZ (a b:J1):Vn (Zw a) (Zw b)=decide (a=b):=by
 rw[Bool.eq_iff_iff];simp only[Vn,eqV,oJ,beq_iff_eq,decide_eq_true_eq,QdW,and_true]
theorem Qg1 (a b:Int×Int):Vn (QN a) (QN b)=decide (a=b):=by
 rw[Bool.eq_iff_iff];simp only[Vn,eqV,oJ,beq_iff_eq,decide_eq_true_eq,Prod.ext_iff,and_true]
theorem QmM (a b:Ky):Vn (KR a) (KR b)=decide (a=b):=by
 rw[Bool.eq_iff_iff];simp only[Vn,eqV,oJ,beq_iff_eq,decide_eq_true_eq,Prod.ext_iff,and_true]
instance skEvt:Sk prog 183 [1,2,2,2,0]:=⟨⟨_,underlying183,.str og U underlying9<|.flag og U underlying4<|.flag og U underlying4<|.flag og U underlying4<|.int og U underlying3 .nil⟩,od,od⟩
instance skLoc:Sk prog 118 [0,0]:=⟨⟨_,underlying118,.int og U underlying3<|.int og U underlying3 .nil⟩,od,od⟩
instance skTrm:Sk prog 123 [0,0]:=⟨⟨_,underlying123,.int og U underlying3<|.int og U underlying3 .nil⟩,od,od⟩
instance skKey:Sk prog 75 [0,1]:=⟨⟨_,underlying75,.int og U underlying3<|.str og U underlying9 .nil⟩,od,od⟩
theorem Qfp {v:OY}{l l':List (J1)}(h:Zm L w.heap v l.length 5 (l.flatMap Zw))(E:Zm L' w.heap v' l'.length 5 (l'.flatMap Zw)):
  Q3 prog 113 [v,v'] w λr w'=>r=.bool (decide (l=l'))/\O1 [] w w':=by
 have hf:=h.le;refine Zq func113 ?_;refine Qc<|Qb<|Qd<|Qm<|QI h U<|Qa<|QI E U<|ZB U U<|xe<|QX rfl (λT=>?_) (λT=>?_)
 ·refine Qc<|Qb<|Qk ⟨[.bool false],La,?_,O1.Z _ _⟩;have:l≠l':=λe=>T (by rw[e]);simp[tup,this]
 refine Qh<|Qd<|Qm<|QI h U<|Qa<|xe<|Qg<|QD (α:=Nat) [(4,5),(13,25)] (λk=>[(13,oE oF k)]) (λk w'=>O1 [] w w'/\k<=l.length/\(l=l'↔l.drop k=l'.drop k)) (λk=>l.length - k) ol 0 La ⟨O1.Z _ _,Lo _,oe⟩ ?_;rintro k g Y ⟨G,hk,J⟩
 replace h:=h.I G
 replace E:=E.I G;refine Qc<|Q0 U U<|xe<|Qd<|QH U (λha=>?_) (λha=>?_)
 ·refine Qz<|Qc<|Qb<|Qk ⟨[.bool true],La,?_,G⟩;rw[Lp oa,Lp oa]at J;simp[tup,J]
 have H:k<l.length:=oa
 have I:k<l'.length:=oa
 refine Qh<|Qd<|Qg<|Qm<|Qb<|Qd<|ZI [] (Xx 0 9 [])<|p QF<|p QF<|Lg.pig (g:=Zw) (i:=k) U Ui h U U H λhg hb=>pq (λ_ O=>Qx (hb.I O) U U) <|
  p QF<|p QF<|Lg.pig (g:=Zw) (i:=k) U Ui E U U I λhh he=>pq (λ_ O=>Qx (he.I O) U U)<|p (λ_=>(V3 (xs:=Zw (l[k]'H)) (ys:=Zw (l'[k]'I)) U U U).D (by rw[QkZ]))<|pe ?_
 have V:=G.D (O1.C [] Y);refine QQ rfl (λS=>?_) (λS=>?_)
 ·refine Qc<|Qb<|Qk ⟨[.bool false],La,?_,V⟩;have:l≠l':=λe=>by subst e;simp at S
  simp[tup,this]
 refine Qh<|Qw<|QS U U<|Qa<|xe<|⟨k+1,oa,La,V,oa,?_⟩;have e:l[k]'H=l'[k]'I:=by simpa using S
 rw[J,Zd H,Zd I,e];exact⟨λh=>(List.cons.inj h).2,λh=>by rw[h]⟩
theorem Qfo {v:OY}{l l':xq}(h:Zm L w.heap v l.length 2 (l.flatMap QN))(E:Zm L' w.heap v' l'.length 2 (l'.flatMap QN)):
  Q3 prog 117 [v,v'] w λr w'=>r=.bool (decide (l=l'))/\O1 [] w w':=by
 have hf:=h.le;refine Zq func117 ?_;refine Qc<|Qb<|Qd<|Qm<|QI h U<|Qa<|QI E U<|ZB U U<|xe<|QX rfl (λT=>?_) (λT=>?_)
 ·refine Qc<|Qb<|Qk ⟨[.bool false],La,?_,O1.Z _ _⟩;have:l≠l':=λe=>T (by rw[e]);simp[tup,this]
 refine Qh<|Qd<|Qm<|QI h U<|Qa<|xe<|Qg<|QD (α:=Nat) [(4,5),(13,25)] (λk=>[(13,oE oF k)]) (λk w'=>O1 [] w w'/\k<=l.length/\(l=l'↔l.drop k=l'.drop k)) (λk=>l.length - k) ol 0 La ⟨O1.Z _ _,Lo _,oe⟩ ?_;rintro k g Y ⟨G,hk,J⟩
 replace h:=h.I G
 replace E:=E.I G;refine Qc<|Q0 U U<|xe<|Qd<|QH U (λha=>?_) (λha=>?_)
 ·refine Qz<|Qc<|Qb<|Qk ⟨[.bool true],La,?_,G⟩;rw[Lp oa,Lp oa]at J;simp[tup,J]
 have H:k<l.length:=oa
 have I:k<l'.length:=oa
 refine Qh<|Qd<|Qg<|Qm<|Qb<|Qd<|ZI [] (Xx 0 9 [])<|p QF<|p QF<|Lg.pig (g:=QN) (i:=k) U Y7 h U U H λhg hb=>pq (λ_ O=>Qx (hb.I O) U U) <|
  p QF<|p QF<|Lg.pig (g:=QN) (i:=k) U Y7 E U U I λhh he=>pq (λ_ O=>Qx (he.I O) U U)<|p (λ_=>(V3 (xs:=QN (l[k]'H)) (ys:=QN (l'[k]'I)) U U U).D (by rw[Qg1]))<|pe ?_
 have V:=G.D (O1.C [] Y);refine QQ rfl (λS=>?_) (λS=>?_)
 ·refine Qc<|Qb<|Qk ⟨[.bool false],La,?_,V⟩;have:l≠l':=λe=>by subst e;simp at S
  simp[tup,this]
 refine Qh<|Qw<|QS U U<|Qa<|xe<|⟨k+1,oa,La,V,oa,?_⟩;have e:l[k]'H=l'[k]'I:=by simpa using S
 rw[J,Zd H,Zd I,e];exact⟨λh=>(List.cons.inj h).2,λh=>by rw[h]⟩
theorem Qfn {v:OY}{l l':xq}(h:Zm L w.heap v l.length 2 (l.flatMap QN))(E:Zm L' w.heap v' l'.length 2 (l'.flatMap QN)):
  Q3 prog 120 [v,v'] w λr w'=>r=.bool (decide (l=l'))/\O1 [] w w':=by
 have hf:=h.le;refine Zq func120 ?_;refine Qc<|Qb<|Qd<|Qm<|QI h U<|Qa<|QI E U<|ZB U U<|xe<|QX rfl (λT=>?_) (λT=>?_)
 ·refine Qc<|Qb<|Qk ⟨[.bool false],La,?_,O1.Z _ _⟩;have:l≠l':=λe=>T (by rw[e]);simp[tup,this]
 refine Qh<|Qd<|Qm<|QI h U<|Qa<|xe<|Qg<|QD (α:=Nat) [(4,5),(13,25)] (λk=>[(13,oE oF k)]) (λk w'=>O1 [] w w'/\k<=l.length/\(l=l'↔l.drop k=l'.drop k)) (λk=>l.length - k) ol 0 La ⟨O1.Z _ _,Lo _,oe⟩ ?_;rintro k g Y ⟨G,hk,J⟩
 replace h:=h.I G
 replace E:=E.I G;refine Qc<|Q0 U U<|xe<|Qd<|QH U (λha=>?_) (λha=>?_)
 ·refine Qz<|Qc<|Qb<|Qk ⟨[.bool true],La,?_,G⟩;rw[Lp oa,Lp oa]at J;simp[tup,J]
 have H:k<l.length:=oa
 have I:k<l'.length:=oa
 refine Qh<|Qd<|Qg<|Qm<|Qb<|Qd<|ZI [] (Xx 0 9 [])<|p QF<|p QF<|Lg.pig (g:=QN) (i:=k) U Y7 h U U H λhg hb=>pq (λ_ O=>Qx (hb.I O) U U) <|
  p QF<|p QF<|Lg.pig (g:=QN) (i:=k) U Y7 E U U I λhh he=>pq (λ_ O=>Qx (he.I O) U U)<|p (λ_=>(V3 (xs:=QN (l[k]'H)) (ys:=QN (l'[k]'I)) U U U).D (by rw[Qg1]))<|pe ?_
 have V:=G.D (O1.C [] Y);refine QQ rfl (λS=>?_) (λS=>?_)
 ·refine Qc<|Qb<|Qk ⟨[.bool false],La,?_,V⟩;have:l≠l':=λe=>by subst e;simp at S
  simp[tup,this]
 refine Qh<|Qw<|QS U U<|Qa<|xe<|⟨k+1,oa,La,V,oa,?_⟩;have e:l[k]'H=l'[k]'I:=by simpa using S
 rw[J,Zd H,Zd I,e];exact⟨λh=>(List.cons.inj h).2,λh=>by rw[h]⟩
theorem VD {f:α->β}{l l':List α}(h:l.length≠l'.length):l.map f≠l'.map f:=λe=>h (by have:=OR oO e;rwa [Lh,Lh]at this)
theorem KP {f:α->β}{l l':List α}{k:Nat}(h:k<l.length)(E:k<l'.length):(l.drop k).map f=(l'.drop k).map f↔f (l[k]'h)=f (l'[k]'E)/\(l.drop (k+1)).map f=(l'.drop (k+1)).map f:=by
 rw[LD h,LD E,LE,LE];exact List.cons_eq_cons
theorem QdZ {v:OY}{l l':List IV}[Fu prog gf fn](h:Zm L w.heap v l.length 5 (l.flatMap QO))(E:Zm L' w.heap v' l'.length 5 (l'.flatMap QO))
  (h1:∀q∈l,Zp (QO q)) (hl:∀q∈l',Zp (QO q)) (hk:∀(k:Nat) (h:k<l.length) (E:k<l'.length) (G:OX),O1 [] w G->Q3 prog gf [.agg (QO (l[k]'h)).toArray,.agg (QO (l'[k]'E)).toArray] G λr w'=>r=.bool (decide ((l[k]'h).it=(l'[k]'E).it))/\O1 [] G w'):
  Q3 prog 114 [v,v',.func (.func gf) #[] #[]] w λr w'=>r=.bool (decide (l.map (·.it)=l'.map (·.it)))/\O1 [] w w':=by
 have h4:=h.le;refine Zq func114 ?_;refine Qc<|Qb<|Qd<|Qm<|QI h U<|Qa<|QI E U<|ZB U U<|xe<|QX rfl (λhb=>?_) (λhb=>?_)
 ·refine Qc<|Qb<|Qk ⟨[.bool false],La,?_,O1.Z _ _⟩;have:l.map (·.it)≠l'.map (·.it):=VD λe=>hb (by rw[e]);simp[tup,this]
 refine Qh<|Qd<|Qm<|QI h U<|Qa<|xe<|Qg<|QD (α:=Nat) [(6,9),(17,31)] (λk=>[(17,oE oF k)]) (λk w'=>O1 [] w w'/\k<=l.length/\(l.map (·.it)=l'.map (·.it)↔(l.drop k).map (·.it)=(l'.drop k).map (·.it))) (λk=>l.length - k) ol 0 La ⟨O1.Z _ _,Lo _,oe⟩ ?_;rintro k g G ⟨J,hk1,O⟩;refine Qc<|Q0 U U<|xe<|Qd<|QH U (λhn=>?_) (λhn=>?_)
 ·refine Qz<|Qc<|Qb<|Qk ⟨[.bool true],La,?_,J⟩;rw[Lp oa,Lp oa]at O;simp[tup,O]
 have H:k<l.length:=oa
 have I:k<l'.length:=oa
 have T:=hk k H I;have S:=KP (f:=(·.it)) H I;have hm:=h1 _ (Lk H);have hc:=hl _ (Lk I);refine Qh<|Qd<|Qg<|Qm<|O4 (g:=QO) (i:=k) Ys (h.I J) U U H λh5 hf=>?_;refine Zo (l[k]'H) λq hq=>?_;rw[hq]at hf T hm S;refine x (Qx hf U U)<|Qe<|Qo (us:=[.string .empty,nS,oE oF 0,nS,nS]) U λb8 w2 ho hp hr=>x Ql<|Qe<|Qj (us:=QO q) hr U U U U hm λw3 ht hu=>xe ?_;have hg:O1 [] G w3:=ho.O ht hp;refine Qm<|Qa<|O4 (g:=QO) (i:=k) Ys ((E.I J).I hg) U U I λh6 hh=>?_;refine Zo (l'[k]'I) λV hv=>?_;rw[hv]at hh T hc S;refine x (Qx hh U U)<|Qe<|Qo (us:=[.string .empty,nS,oE oF 0,nS,nS]) U λb9 w4 hw hy hz=>Qe<|Qj (us:=QO V) hz U U U U hc λw5 h0 h2=>xe ?_;have hi:O1 [] w3 w5:=hw.O h0 hy;have Y:=(J.D hg).D hi;refine Qm<|Q6 (hu.I hi) U U<|Q6 h2 U U<|Qe<|xc (first:=[]) (capt:=[]) U<|(T w5 Y).mono ?_;rintro r6 w6 ⟨rfl,hj⟩;refine x (ZC U)<|xe<|QQ rfl (λha=>?_) (λha=>?_)
 ·refine Qc<|Qb<|Qk ⟨[.bool false],La,?_,Y.D hj⟩;have h3:¬q.it=V.it:=by simpa using ha
  have:l.map (·.it)≠l'.map (·.it):=λe=>h3 (S.1 (O.1 e)).1;simp[tup,this]
 refine Qh ?_;have he:q.it=V.it:=by simpa using ha
 refine Qw<|QS U U<|Qa<|xe ?_;exact⟨k+1,oa,La,Y.D hj,oa,O.D (S.D ⟨λh=>h.2,λh=>⟨he,h⟩⟩)⟩
theorem Qk1 {v:OY}{l l':List XV}[Fu prog gf fn](h:Zm L w.heap v l.length 2 (l.flatMap Q8))(E:Zm L' w.heap v' l'.length 2 (l'.flatMap Q8))
  (h1:∀q∈l,Zp (Q8 q)) (hl:∀q∈l',Zp (Q8 q)) (hk:∀(k:Nat) (h:k<l.length) (E:k<l'.length) (G:OX),O1 [] w G->Q3 prog gf [.agg (Q8 (l[k]'h)).toArray,.agg (Q8 (l'[k]'E)).toArray] G λr w'=>r=.bool (decide ((l[k]'h).x=(l'[k]'E).x))/\O1 [] G w'):
  Q3 prog 115 [v,v',.func (.func gf) #[] #[]] w λr w'=>r=.bool (decide (l.map (·.x)=l'.map (·.x)))/\O1 [] w w':=by
 have h4:=h.le;refine Zq func115 ?_;refine Qc<|Qb<|Qd<|Qm<|QI h U<|Qa<|QI E U<|ZB U U<|xe<|QX rfl (λhb=>?_) (λhb=>?_)
 ·refine Qc<|Qb<|Qk ⟨[.bool false],La,?_,O1.Z _ _⟩;have:l.map (·.x)≠l'.map (·.x):=VD λe=>hb (by rw[e]);simp[tup,this]
 refine Qh<|Qd<|Qm<|QI h U<|Qa<|xe<|Qg<|QD (α:=Nat) [(6,9),(17,31)] (λk=>[(17,oE oF k)]) (λk w'=>O1 [] w w'/\k<=l.length/\(l.map (·.x)=l'.map (·.x)↔(l.drop k).map (·.x)=(l'.drop k).map (·.x))) (λk=>l.length - k) ol 0 La ⟨O1.Z _ _,Lo _,oe⟩ ?_;rintro k g G ⟨J,hk1,O⟩;refine Qc<|Q0 U U<|xe<|Qd<|QH U (λhn=>?_) (λhn=>?_)
 ·refine Qz<|Qc<|Qb<|Qk ⟨[.bool true],La,?_,J⟩;rw[Lp oa,Lp oa]at O;simp[tup,O]
 have H:k<l.length:=oa
 have I:k<l'.length:=oa
 have T:=hk k H I;have S:=KP (f:=(·.x)) H I;have hm:=h1 _ (Lk H);have hc:=hl _ (Lk I);refine Qh<|Qd<|Qg<|Qm<|O4 (g:=Q8) (i:=k) Xq (h.I J) U U H λh5 hf=>?_;refine Zo (l[k]'H) λq hq=>?_;rw[hq]at hf T hm S;refine x (Qx hf U U)<|Qe<|Qo (us:=[.string .empty,nS]) U λb8 w2 ho hp hr=>x Ql<|Qe<|Qj (us:=Q8 q) hr U U U U hm λw3 ht hu=>xe ?_;have hg:O1 [] G w3:=ho.O ht hp;refine Qm<|Qa<|O4 (g:=Q8) (i:=k) Xq ((E.I J).I hg) U U I λh6 hh=>?_;refine Zo (l'[k]'I) λV hv=>?_;rw[hv]at hh T hc S;refine x (Qx hh U U)<|Qe<|Qo (us:=[.string .empty,nS]) U λb9 w4 hw hy hz=>Qe<|Qj (us:=Q8 V) hz U U U U hc λw5 h0 h2=>xe ?_;have hi:O1 [] w3 w5:=hw.O h0 hy;have Y:=(J.D hg).D hi;refine Qm<|Q6 (hu.I hi) U U<|Q6 h2 U U<|Qe<|xc (first:=[]) (capt:=[]) U<|(T w5 Y).mono ?_;rintro r6 w6 ⟨rfl,hj⟩;refine x (ZC U)<|xe<|QQ rfl (λha=>?_) (λha=>?_)
 ·refine Qc<|Qb<|Qk ⟨[.bool false],La,?_,Y.D hj⟩;have h3:¬q.x=V.x:=by simpa using ha
  have:l.map (·.x)≠l'.map (·.x):=λe=>h3 (S.1 (O.1 e)).1;simp[tup,this]
 refine Qh ?_;have he:q.x=V.x:=by simpa using ha
 refine Qw<|QS U U<|Qa<|xe ?_;exact⟨k+1,oa,La,Y.D hj,oa,O.D (S.D ⟨λh=>h.2,λh=>⟨he,h⟩⟩)⟩
theorem Qk2 {v:OY}{l l':List KV}[Fu prog gf fn](h:Zm L w.heap v l.length 3 (l.flatMap Q5))(E:Zm L' w.heap v' l'.length 3 (l'.flatMap Q5))
  (h1:∀q∈l,Zp (Q5 q)) (hl:∀q∈l',Zp (Q5 q)) (hk:∀(k:Nat) (h:k<l.length) (E:k<l'.length) (G:OX),O1 [] w G->Q3 prog gf [.agg (Q5 (l[k]'h)).toArray,.agg (Q5 (l'[k]'E)).toArray] G λr w'=>r=.bool (decide ((l[k]'h).k=(l'[k]'E).k))/\O1 [] G w'):
  Q3 prog 118 [v,v',.func (.func gf) #[] #[]] w λr w'=>r=.bool (decide (l.map (·.k)=l'.map (·.k)))/\O1 [] w w':=by
 have h4:=h.le;refine Zq func118 ?_;refine Qc<|Qb<|Qd<|Qm<|QI h U<|Qa<|QI E U<|ZB U U<|xe<|QX rfl (λhb=>?_) (λhb=>?_)
 ·refine Qc<|Qb<|Qk ⟨[.bool false],La,?_,O1.Z _ _⟩;have:l.map (·.k)≠l'.map (·.k):=VD λe=>hb (by rw[e]);simp[tup,this]
 refine Qh<|Qd<|Qm<|QI h U<|Qa<|xe<|Qg<|QD (α:=Nat) [(6,9),(17,31)] (λk=>[(17,oE oF k)]) (λk w'=>O1 [] w w'/\k<=l.length/\(l.map (·.k)=l'.map (·.k)↔(l.drop k).map (·.k)=(l'.drop k).map (·.k))) (λk=>l.length - k) ol 0 La ⟨O1.Z _ _,Lo _,oe⟩ ?_;rintro k g G ⟨J,hk1,O⟩;refine Qc<|Q0 U U<|xe<|Qd<|QH U (λhn=>?_) (λhn=>?_)
 ·refine Qz<|Qc<|Qb<|Qk ⟨[.bool true],La,?_,J⟩;rw[Lp oa,Lp oa]at O;simp[tup,O]
 have H:k<l.length:=oa
 have I:k<l'.length:=oa
 have T:=hk k H I;have S:=KP (f:=(·.k)) H I;have hm:=h1 _ (Lk H);have hc:=hl _ (Lk I);refine Qh<|Qd<|Qg<|Qm<|O4 (g:=Q5) (i:=k) Xg (h.I J) U U H λh5 hf=>?_;refine Zo (l[k]'H) λq hq=>?_;rw[hq]at hf T hm S;refine x (Qx hf U U)<|Qe<|Qo (us:=[.string .empty,nS,oE oF 0]) U λb8 w2 ho hp hr=>x Ql<|Qe<|Qj (us:=Q5 q) hr U U U U hm λw3 ht hu=>xe ?_;have hg:O1 [] G w3:=ho.O ht hp;refine Qm<|Qa<|O4 (g:=Q5) (i:=k) Xg ((E.I J).I hg) U U I λh6 hh=>?_;refine Zo (l'[k]'I) λV hv=>?_;rw[hv]at hh T hc S;refine x (Qx hh U U)<|Qe<|Qo (us:=[.string .empty,nS,oE oF 0]) U λb9 w4 hw hy hz=>Qe<|Qj (us:=Q5 V) hz U U U U hc λw5 h0 h2=>xe ?_;have hi:O1 [] w3 w5:=hw.O h0 hy;have Y:=(J.D hg).D hi;refine Qm<|Q6 (hu.I hi) U U<|Q6 h2 U U<|Qe<|xc (first:=[]) (capt:=[]) U<|(T w5 Y).mono ?_;rintro r6 w6 ⟨rfl,hj⟩;refine x (ZC U)<|xe<|QQ rfl (λha=>?_) (λha=>?_)
 ·refine Qc<|Qb<|Qk ⟨[.bool false],La,?_,Y.D hj⟩;have h3:¬q.k=V.k:=by simpa using ha
  have:l.map (·.k)≠l'.map (·.k):=λe=>h3 (S.1 (O.1 e)).1;simp[tup,this]
 refine Qh ?_;have he:q.k=V.k:=by simpa using ha
 refine Qw<|QS U U<|Qa<|xe ?_;exact⟨k+1,oa,La,Y.D hj,oa,O.D (S.D ⟨λh=>h.2,λh=>⟨he,h⟩⟩)⟩
theorem Qcy {a b:YU}:a=b↔(a.nm=b.nm/\a.a.st=b.a.st/\a.a.al=b.a.al/\a.a.mr=b.a.mr/\a.a.ed=b.a.ed):=by
 rw[QdN,Qep];exact⟨λ⟨E,G,H,I,J⟩=>⟨E,H,G,I,J⟩,λ⟨E,G,H,I,J⟩=>⟨E,H,G,I,J⟩⟩
theorem Qd0 {q E:IV}(h:ZH [] w.heap q.p.va q.p.vm q.p.ve q.p.a)(S:ZH [] w.heap E.p.va E.p.vm E.p.ve E.p.a):
  Q3 prog 112 [.agg (QO q).toArray,.agg (QO E).toArray] w λr w'=>r=.bool (decide (q.it=E.it))/\O1 [] w w':=by
 refine Zq func112 ?_;refine Qc<|Qe<|QW (us:=QO q) U λb2 Y T ha J=>Qe<|QW (us:=QO E) U λb3 w2 H hb O=>Qb ?_;have G:=T.D H;refine Qc<|Qs U (J.I H) U U<|Qs U O U U<|xb (Xt U U) (λI=>?_) (λI=>?_)
 ·refine Qa<|Q7 U<|x (Qx (((J.I H).at (L:=[]) oe).from 1) rfl rfl)<|Q7 rfl<|x (Qx ((O.at (L:=[]) oe).from 1) rfl rfl)<|QM<|(QbZ (h.I G) (S.I G)).mono ?_;rintro r4 w4 ⟨rfl,V⟩;refine QG U<|Qb<|Qk ⟨[.bool _],La,OR Value.bool (decide_eq_decide.2 ⟨λh=>Qcy.2 ⟨I,h⟩,λh=>(Qcy.1 h).2⟩),G.D V⟩
 refine Qa<|Qp<|Qp<|Qp<|Qp<|Qp<|QG U<|Qb<|Qk ⟨[.bool false],La,OR Value.bool (OV λh=>I (Qcy.1 h).1).symm,G⟩
theorem Qk4 {q E:XV}(h:yz [] w.heap q.v q.ls)(S:yz [] w.heap E.v E.ls):
  Q3 prog 116 [.agg (Q8 q).toArray,.agg (Q8 E).toArray] w λr w'=>r=.bool (decide (q.x=E.x))/\O1 [] w w':=by
 refine Zq func116 ?_;refine Qc<|Qe<|QW (us:=Q8 q) U λb2 Y T ha J=>Qe<|QW (us:=Q8 E) U λb3 w2 H hb O=>Qb ?_;have G:=T.D H;refine Qc<|Qs U (J.I H) U U<|Qs U O U U<|xb (Xt U U) (λI=>?_) (λI=>?_)
 ·refine Qa<|Qs U (J.I H) U U<|Qs U O U U<|QM<|(Qfo (h.I G) (S.I G)).mono ?_;rintro r4 w4 ⟨rfl,V⟩;refine QG U<|Qb<|Qk ⟨[.bool _],La,OR Value.bool (decide_eq_decide.2 ⟨λh=>qQ.2 ⟨I,h⟩,λh=>(qQ.1 h).2⟩),G.D V⟩
 refine Qa<|Qp<|Qp<|Qp<|Qp<|Qp<|QG U<|Qb<|Qk ⟨[.bool false],La,OR Value.bool (OV λh=>I (qQ.1 h).1).symm,G⟩
theorem Qk3 {q E:KV}(h:yz [] w.heap q.v q.ts)(T:yz [] w.heap E.v E.ts):
  Q3 prog 119 [.agg (Q5 q).toArray,.agg (Q5 E).toArray] w λr w'=>r=.bool (decide (q.k=E.k))/\O1 [] w w':=by
 refine Zq func119 ?_;refine Qc<|Qe<|QW (us:=Q5 q) U λb2 w1 V ha I=>Qe<|QW (us:=Q5 E) U λb3 w2 H hb J=>Qb ?_;have G:=V.D H;refine Qc<|Qs U (I.I H) U U<|Qs U J U U<|xb (Xt U U) (λO=>?_) (λO=>?_)
 ·refine Qa<|Qs U (I.I H) U U<|Qs U J U U<|xb (QY U U) (λS=>?_) (λS=>?_)
  ·refine QG U<|Qa<|Qs U (I.I H) U U<|Qs U J U U<|QM<|(Qfn (h.I G) (T.I G)).mono ?_;rintro r4 w4 ⟨rfl,Y⟩;refine QG U<|Qb<|Qk ⟨[.bool _],La,OR Value.bool (decide_eq_decide.2 ⟨λh=>Um.2 ⟨O,h,S⟩,λh=>(Um.1 h).2.1⟩),G.D Y⟩
  refine QG U<|Qa<|Qp<|Qp<|Qp<|Qp<|Qp<|QG U<|Qb<|Qk ⟨[.bool false],La,OR Value.bool (OV λh=>S (Um.1 h).2.2).symm,G⟩
 refine Qa<|Qp<|Qp<|Qp<|Qp<|Qp<|QG U<|Qa<|Qp<|Qp<|Qp<|Qp<|Qp<|QG U<|Qb<|Qk ⟨[.bool false],La,OR Value.bool (OV λh=>O (Um.1 h).1).symm,G⟩
theorem QcT {c G:CL}(h0:ZJ L w.heap c)(ht:ZJ L' w.heap G):
  Q3 prog 60 [c.val,G.val] w λr w'=>r=.bool (decide (c.V=G.V))/\O1 [] w w':=by
 have h:=h0.up (L':=[]) oe;have E:=ht.up (L':=[]) oe;have Y:c.V=G.V↔(c.ev=G.ev/\c.co.map (·.it)=G.co.map (·.it)/\c.rq.map (·.it)=G.rq.map (·.it)/\c.ex.map (·.x)=G.ex.map (·.x)/\c.cs.map (·.k)=G.cs.map (·.k)):=Qek;have hh:∀{b:Bool},(c.V=G.V->b=true)->b=false->Value.bool false=.bool (decide (c.V=G.V)):=λh1 h2=>OR Value.bool (OV λe=>by rw[h1 e]at h2;cases h2).symm;have hi:∀{c:CL},ZJ [] w.heap c->(∀q∈c.co,Zp (QO q))/\∀q∈c.rq,Zp (QO q):=λJ=>⟨λq H=>⟨U,(J.co.each q H).al.one,U,(J.co.each q H).mr.one,(J.co.each q H).ed.one,Z⟩,λq H=>⟨U,(J.rq.each q H).al.one,U,(J.rq.each q H).mr.one,(J.rq.each q H).ed.one,Z⟩⟩;have ho:∀{c:CL},ZJ [] w.heap c->∀q∈c.ex,Zp (Q8 q):=λJ q H=>⟨U,(J.ex.each q H).one,Z⟩;have hp:∀{c:CL},ZJ [] w.heap c->∀q∈c.cs,Zp (Q5 q):=λJ q H=>⟨U,(J.cs.each q H).one,U,Z⟩;refine Zq func60 ?_;refine Qc<|Qe<|QW (us:=c.cells) U λb2 w1 hu h4 hv=>Qe<|QW (us:=G.cells) U λb3 w2 hr h5 ha=>Qb ?_;have T:=hu.D hr;have hb:=hv.I hr;refine Qc<|Qb<|Qc<|Qs U hb U U<|Qs U ha U U<|ZO<|(Qfp (h.ev.arr.I T) (E.ev.arr.I T)).mono ?_;rintro r1 w3 ⟨rfl,hj⟩;have he:=T.D hj;refine xB Kh (λe1=>?_) (λe1=>?_)
 rotate_left
 ·refine Qp<|Qp<|Qp<|Qp<|Qp<|Qp<|QG U<|Qa<|Qp<|Qp<|Qp<|Qp<|Qp<|Qp<|QG U<|Qa<|Qp<|Qp<|Qp<|Qp<|Qp<|QG U<|Qa<|Qp<|Qp<|Qp<|Qp<|Qp<|QG U<|Qb<|Qk ⟨[.bool false],La,hh (λe=>OT (Y.1 e).1) e1,he⟩
 refine Qs rfl (hb.I hj) U U<|Qs U (ha.I hj) U U<|Qa<|ZO<|(QdZ (gf:=112) (h.co.arr.I he) (E.co.arr.I he) (hi h).1 (hi E).1
  (λk O S w' I=>Qd0 (((h.co.each _ (Lk O)).I he).I I) (((E.co.each _ (Lk S)).I he).I I))).mono ?_
 rintro r2 w4 ⟨rfl,hw⟩;have hl:=hj.D hw;have hf:=T.D hl;refine QG rfl<|xB Kh (λe2=>?_) (λe2=>?_)
 rotate_left
 ·refine Qp<|Qp<|Qp<|Qp<|Qp<|Qp<|QG U<|Qa<|Qp<|Qp<|Qp<|Qp<|Qp<|QG U<|Qa<|Qp<|Qp<|Qp<|Qp<|Qp<|QG U<|Qb<|Qk ⟨[.bool false],La,hh (λe=>OT (Y.1 e).2.1) e2,hf⟩
 refine Qs rfl (hb.I hl) U U<|Qs U (ha.I hl) U U<|Qa<|ZO<|(QdZ (gf:=112) (h.rq.arr.I hf) (E.rq.arr.I hf) (hi h).2 (hi E).2
  (λk O S w' I=>Qd0 (((h.rq.each _ (Lk O)).I hf).I I) (((E.rq.each _ (Lk S)).I hf).I I))).mono ?_
 rintro r3 w5 ⟨rfl,hy⟩;have hm:=hl.D hy;have hg:=T.D hm;refine QG rfl<|xB Kh (λe3=>?_) (λe3=>?_)
 rotate_left
 ·refine Qp<|Qp<|Qp<|Qp<|Qp<|QG U<|Qa<|Qp<|Qp<|Qp<|Qp<|Qp<|QG U<|Qb<|Qk ⟨[.bool false],La,hh (λe=>OT (Y.1 e).2.2.1) e3,hg⟩
 refine Qs rfl (hb.I hm) U U<|Qs U (ha.I hm) U U<|ZO<|(Qk1 (gf:=116) (h.ex.arr.I hg) (E.ex.arr.I hg) (ho h) (ho E)
  (λk O S w' I=>Qk4 (((h.ex.each _ (Lk O)).I hg).I I) (((E.ex.each _ (Lk S)).I hg).I I))).mono ?_
 rintro r4 w6 ⟨rfl,hz⟩;have hn:=hm.D hz;have V:=T.D hn;refine QG rfl<|xB Kh (λe4=>?_) (λe4=>?_)
 rotate_left
 ·refine Qp<|Qp<|Qp<|Qp<|Qp<|QG U<|Qb<|Qk ⟨[.bool false],La,hh (λe=>OT (Y.1 e).2.2.2.1) e4,V⟩
 refine Qs rfl (hb.I hn) U U<|Qs U (ha.I hn) U U<|ZO<|(Qk2 (gf:=119) (h.cs.arr.I V) (E.cs.arr.I V) (hp h) (hp E)
  (λk O S w' I=>Qk3 (((h.cs.each _ (Lk O)).I V).I I) (((E.cs.each _ (Lk S)).I V).I I))).mono ?_
 rintro r5 w7 ⟨rfl,h3⟩;refine QG rfl<|Qb<|Qk ⟨[.bool _],La,OR Value.bool (decide_eq_decide.2 ?_),V.D h3⟩;rw[Y];exact⟨λe=>⟨OU e1,OU e2,OU e3,OU e4,e⟩,λe=>e.2.2.2.2⟩
abbrev ZF (p:ByteArray×Int):LV:=[.string p.1,oE oF p.2]
theorem Qcf (p:ByteArray×Int):(ZF p).length=2:=rfl
structure Vh (L:LN)(H:xu)(v:OY)(l:List (ByteArray×Int)):Prop where
 arr:Zm L H v l.length 2 (l.flatMap ZF)
 nm:∀q∈l,J0 q.1
theorem Vh.nil {L:LN}{H:xu}:Vh L H (nS) []:=⟨Zm.nil _ _ _,oe⟩
theorem Vh.I {L:LN}{w w':OX}{v:OY}{l:List (ByteArray×Int)}(h:Vh L w.heap v l)(E:O1 [] w w'):Vh L w'.heap v l:=⟨h.arr.I E,h.nm⟩
theorem Vh.st {L:LN}{w w':OX}{v:OY}{l:List (ByteArray×Int)}(h:Vh L w.heap v l)(E:O1 L w w'):Vh L w'.heap v l:=⟨h.arr.st E,h.nm⟩
theorem Vh.up {L L':LN}{H:xu}{v:OY}{l:List (ByteArray×Int)}(h:Vh L H v l)(E:∀b∈L',b∈L\/H.size<=b):Vh L' H v l:=⟨h.arr.up E,h.nm⟩
structure DV where
 kd:Int
 nm:ByteArray
 p:AV
 vl:OY
 ls:List (ByteArray×Int)
 vt:OY
 ts:List (ByteArray×Int)
 bd:Int
def DV.it (q:DV):ZQ:=⟨q.kd,q.nm,q.p.a,q.ls,q.ts,q.bd⟩
abbrev Qt (q:DV):LV:=[oE oF q.kd,.string q.nm,q.p.va,oE oF q.p.a.st,q.p.vm,q.p.ve,q.vl,q.vt,oE oF q.bd]
theorem ZW (q:DV):(Qt q).length=9:=rfl
structure XT (L:LN)(H:xu)(q:DV):Prop where
 nm:J0 q.nm
 a:ZH L H q.p.va q.p.vm q.p.ve q.p.a
 ls:Vh L H q.vl q.ls
 ts:Vh L H q.vt q.ts
theorem XT.I {L:LN}{w w':OX}{q:DV}(h:XT L w.heap q)(E:O1 [] w w'):XT L w'.heap q:=⟨h.nm,h.a.I E,h.ls.I E,h.ts.I E⟩
theorem XT.st {L:LN}{w w':OX}{q:DV}(h:XT L w.heap q)(E:O1 L w w'):XT L w'.heap q:=⟨h.nm,h.a.st E,h.ls.st E,h.ts.st E⟩
theorem XT.up {L L':LN}{H:xu}{q:DV}(h:XT L H q)(E:∀b∈L',b∈L\/H.size<=b):XT L' H q:=⟨h.nm,h.a.up E,h.ls.up E,h.ts.up E⟩
theorem XT.ones {q:DV}(h:XT L H q):Zp (Qt q):=⟨U,U,h.a.al.one,U,h.a.mr.one,h.a.ed.one,h.ls.arr.one,h.ts.arr.one,U,Z⟩
structure Ke (L:LN)(H:xu)(v:OY)(qs:List DV):Prop where
 arr:Zm L H v qs.length 9 (qs.flatMap Qt)
 each:∀q∈qs,XT L H q
theorem Ke.I {L:LN}{w w':OX}{v:OY}{qs:List DV}(h:Ke L w.heap v qs)(E:O1 [] w w'):Ke L w'.heap v qs:=⟨h.arr.I E,λq G=>(h.each q G).I E⟩
theorem Ke.up {L L':LN}{H:xu}{v:OY}{qs:List DV}(h:Ke L H v qs)(E:∀b∈L',b∈L\/H.size<=b):Ke L' H v qs:=⟨h.arr.up E,λq G=>(h.each q G).up E⟩
section
variable {pS:String}
theorem Qmy {x:OZ}{k:IntKind}{a b:Int}(hx:ev f x=.int k a)(G:ev f y=.int k b):
  (execOp (ev f) ⟨d,.call ⟨.builtin .max,#[x,y],#[t,E]⟩,ty,pS,af,gd⟩).run P w=.ok (.value (.int k (if b > a then b else a))) w:=by
 simp[execOp,resolve,invoke,builtin,hx,G,run_max_int2]
end
def ixD {α:Type}(q:α->Bool)(es:List α):Int:=if es.findIdx q<es.length then(es.findIdx q:Int)else -1
theorem Qm5 {q:α->Bool}{es:List α}(h:∀e∈es,q e=false):ixD q es=-1:=by
 unfold ixD;rw[OP];rw[List.findIdx_eq_length.2 h];omega
theorem Qm6 {q:α->Bool}{es:List α}{k:Nat}(E:k<es.length)(G:∀e∈es.take k,q e=false)(H:q (es[k]'E)=true):ixD q es=(k:Int):=by
 have h:es.findIdx q=k:=(List.findIdx_eq E).2 ⟨H,λj I=>G _ (List.mem_take_iff_getElem.2 ⟨j,oa,U⟩)⟩;unfold ixD;rw[h,OQ E]
theorem QdK {v:OY}{es:List DV}[Fu prog g fn]{cap:LV}{q:DV->Bool}(h:Zm L w.heap v es.length 9 (es.flatMap Qt))
  (hk:∀e∈es,∀G:OX,O1 [] w G->Q3 prog g ([.agg (Qt e).toArray]++cap) G λr w'=>r=.bool (q e)/\O1 [] G w'):
  Q3 prog 166 [v,.func (.func g) #[] cap.toArray] w λr w'=>r=oE oF (ixD q es)/\O1 [] w w':=by
 have hg:=h.le;refine Zq func166 ?_;refine Qc<|Qb<|Qd<|Qm<|QI h U<|Qa<|xe<|Qg<|QD (α:=Nat) [(4,5),(8,18)] (λz=>[(8,oE oF z)]) (λz w'=>z<=es.length/\O1 [] w w'/\∀m∈es.take z,q m=false) (λz=>es.length - z) ol 0 La ⟨Lo _,O1.Z _ _,λm S=>by simp at S⟩ ?_;rintro k g' G ⟨hh,H,J⟩;refine Qc<|Q0 U U<|xe<|Qd<|QH U (λT=>?_) (λT=>?_)
 ·refine Qz ?_;have hf:es.length<=k:=by have I:¬(k:Int)<(es.length:Int):=T;omega
  rw[Lr hf]at J;refine Qc<|Qb<|Qk ⟨[oE oF (-1)],La,OR (Value.int .i64) (Qm5 J).symm,H⟩
 have E:k<es.length:=by have I:(k:Int)<(es.length:Int):=T;omega
 have V:es.take (k+1)=es.take k++[es[k]'E]:=Lm E;have Y:=λh2=>Qm6 (q:=q) E J h2;have ha:=Lk E;refine Qh<|Qd<|Qg<|Qm<|Qb<|Qm<|Qa<|Qa<|O4 (g:=Qt) (i:=k) ZW (h.I H) U U E λhi hb=>?_;refine Zo (es[k]'E) λm S=>?_;rw[S]at hb V Y ha;refine x (Qx hb U U)<|Qe<|xc (first:=[]) (capt:=cap) U<|(hk m ha G H).mono ?_;rintro r2 w2 ⟨rfl,hc⟩;refine xe<|QQ rfl (λI=>?_) (λI=>?_)
 ·refine Qm<|Qb<|Qk ⟨[oE oF k],La,OR (Value.int .i64) (Y I).symm,H.D hc⟩
 refine Qh<|Qw<|QS U U<|Qa<|xe<|⟨k+1,oa,La,E,H.D hc,λm' he=>?_⟩;rw[V]at he;rcases Lc.1 he with O|O
 ·exact J m' O
 simp only[oH]at O;subst O;exact I
theorem QhN {q:DV}{T1 T2:Nat}{k:Int}{n:ByteArray}(J:Q9 w.heap b1 T1 [oE oF k])(O:Q9 w.heap b2 T2 [.string n]):
  Q3 prog 220 [.agg (Qt q).toArray,.pointer (some ⟨b1,0,none⟩),.pointer (some ⟨b2,0,none⟩)] w λr w'=>r=.bool (KX k n q.it)/\O1 [] w w':=by
 refine Zq func220 ?_;refine Qc<|Qe<|QW (us:=Qt q) U λS T E V I=>Qb<|Qc<|Qs U I U U<|X2 (J.I E) U U<|xb (QY U U) (λG=>?_) (λG=>?_)
 ·refine Qa<|Qs U I U U<|X2 (O.I E) U U<|xb (Xt U U) (λH=>?_) (λH=>?_)
  ·refine QG U<|Qb<|Qk ⟨[.bool true],La,OR Value.bool (by unfold KX;rw[OT (show q.it.kd=k from G),OT (show q.it.nm=n from H)];rfl),E⟩
  refine QG U<|Qb<|Qk ⟨[.bool false],La,OR Value.bool (by unfold KX;rw[OV (show ¬q.it.nm=n from H),Bool.and_false]),E⟩
 refine Qa<|Qp<|Qp<|Qp<|Qp<|QG U<|Qb<|Qk ⟨[.bool false],La,OR Value.bool (by unfold KX;rw[OV (show ¬q.it.kd=k from G),Bool.false_and]),E⟩
theorem Qfu (es:List DV)(k:Int)(n:ByteArray):es.findIdx (λq=>KX k n q.it)=Z4 (es.map DV.it) k n:=by
 unfold Z4;rw[List.findIdx_map];rfl
theorem qU {v:OY}{es:List DV}(h:Zm L w.heap v es.length 9 (es.flatMap Qt))(k:Int)(n:ByteArray):
  Q3 prog 146 [v,oE oF k,.string n] w λr w'=>(∃i:Int,r=.tuple #[oE oF i,.bool (Jy (es.map DV.it) k n)]/\(Jy (es.map DV.it) k n=true->i=(Z4 (es.map DV.it) k n:Int)))/\O1 [] w w':=by
 have H:=Qfu es k n;refine Zq func146 ?_;refine Qc<|Qe<|QW (us:=[oE oF k]) U λS w1 T hc V=>Qe<|QW (us:=[.string n]) U λY w2 I he ha=>x Ql<|Qb ?_;have J:=T.D I;refine Qm<|x (Zz (l:=[]) (l':=[_,_]))<|ZO<|(QdK (q:=λq=>KX k n q.it) (cap:=[.pointer (some ⟨S,0,none⟩),.pointer (some ⟨Y,0,none⟩)]) (h.I J) (λe _ w5 O=>QhN ((V.I I).I O) (ha.I O))).mono ?_;rintro r3 w3 ⟨rfl,hb⟩;refine Qb<|Qm<|x (Qmy U U)<|Qa<|x (Yw U U)<|x Ql<|Qb<|Qk ⟨[oE oF (if(0:Int) > ixD (λq:DV=>KX k n q.it) es then 0 else ixD (λq:DV=>KX k n q.it) es),.bool (decide ((0:Int)<=ixD (λq:DV=>KX k n q.it) es))],oz,⟨if(0:Int) > ixD (λq:DV=>KX k n q.it) es then 0 else ixD (λq:DV=>KX k n q.it) es,?_,?_⟩,J.D hb⟩
 ·have e:decide ((0:Int)<=ixD (λq:DV=>KX k n q.it) es)=Jy (es.map DV.it) k n:=decide_eq_decide.2 (by
   unfold ixD;rw[H,Lh];split
   ·rename_i E;exact⟨λ_=>E,λ_=>oa⟩
   rename_i E;exact⟨λG=>oa,λG=>OS G E⟩)
  rw[e];rfl
 intro E;have G:Z4 (es.map DV.it) k n<es.length:=by have:=OU E;rwa [Lh]at this
 unfold ixD;rw[H,OQ G];split <;> omega
theorem QiC {v:OY}(h:Zm L w.heap v n 2 cs)(V:∀u∈cs,u.oneCell'=true):
  Q3 prog 143 [v] w λr w'=>O1 [] w w'/\w'.ownsRow w.heap.size 143 2 r n cs:=by
 have hb:=h.le;refine Zq func143 ?_;refine Qc<|Qb ?_;obtain⟨ao,cap,G⟩:=h.shape;refine Qd<|Qm<|x (Xs (show ev _ _=_ from G) U)<|xe<|QQ rfl (λI=>?_) (λI=>?_)
 ·refine Qc<|Qb<|Qk ⟨[nS],La,O1.Z _ _,?_⟩;rcases h.2.2 with⟨E,H⟩|⟨a,c,E,_⟩
  ·have J:cs=[]:=Ls (by rw[h.1,H]);subst J H;exact QJ _ _ _ _
  rw[E]at G;cases G;cases I
 rcases h.2.2 with⟨E,H⟩|⟨a,c,E,H,J⟩
 ·rw[E]at G;injection G with e1;subst e1;cases I
 refine Qh<|Qc<|Qe<|Xw λb5 w1 O S T=>Qa<|Qe<|Zb (base:=w.heap.size) (T.own (n:=0) (sz:=2) U oa S) U (show ev _ _=_ from E) h.1 (J.I O) V oa (ot T.lt) λv2 w2 Y ha hc=>Qb<|Qk ⟨[v2],La,O.O ha S,?_⟩;simpa[tup]using Y
theorem QiB {v:OY}(h:Zm L w.heap v n 2 cs)(V:∀u∈cs,u.oneCell'=true):
  Q3 prog 144 [v] w λr w'=>O1 [] w w'/\w'.ownsRow w.heap.size 145 2 r n cs:=by
 have hb:=h.le;refine Zq func144 ?_;refine Qc<|Qb ?_;obtain⟨ao,cap,G⟩:=h.shape;refine Qd<|Qm<|x (Xs (show ev _ _=_ from G) U)<|xe<|QQ rfl (λI=>?_) (λI=>?_)
 ·refine Qc<|Qb<|Qk ⟨[nS],La,O1.Z _ _,?_⟩;rcases h.2.2 with⟨E,H⟩|⟨a,c,E,_⟩
  ·have J:cs=[]:=Ls (by rw[h.1,H]);subst J H;exact QJ _ _ _ _
  rw[E]at G;cases G;cases I
 rcases h.2.2 with⟨E,H⟩|⟨a,c,E,H,J⟩
 ·rw[E]at G;injection G with e1;subst e1;cases I
 refine Qh<|Qc<|Qe<|Xw λb5 w1 O S T=>Qa<|Qe<|Zb (base:=w.heap.size) (T.own (n:=0) (sz:=2) U oa S) U (show ev _ _=_ from E) h.1 (J.I O) V oa (ot T.lt) λv2 w2 Y ha hc=>Qb<|Qk ⟨[v2],La,O.O ha S,?_⟩;simpa[tup]using Y
theorem QiA {v:OY}(h:Zm L w.heap v n 2 cs)(V:∀u∈cs,u.oneCell'=true):
  Q3 prog 87 [v] w λr w'=>O1 [] w w'/\w'.ownsRow w.heap.size 116 2 r n cs:=by
 have hb:=h.le;refine Zq func87 ?_;refine Qc<|Qb ?_;obtain⟨ao,cap,G⟩:=h.shape;refine Qd<|Qm<|x (Xs (show ev _ _=_ from G) U)<|xe<|QQ rfl (λI=>?_) (λI=>?_)
 ·refine Qc<|Qb<|Qk ⟨[nS],La,O1.Z _ _,?_⟩;rcases h.2.2 with⟨E,H⟩|⟨a,c,E,_⟩
  ·have J:cs=[]:=Ls (by rw[h.1,H]);subst J H;exact QJ _ _ _ _
  rw[E]at G;cases G;cases I
 rcases h.2.2 with⟨E,H⟩|⟨a,c,E,H,J⟩
 ·rw[E]at G;injection G with e1;subst e1;cases I
 refine Qh<|Qc<|Qe<|Xw λb5 w1 O S T=>Qa<|Qe<|Zb (base:=w.heap.size) (T.own (n:=0) (sz:=2) U oa S) U (show ev _ _=_ from E) h.1 (J.I O) V oa (ot T.lt) λv2 w2 Y ha hc=>Qb<|Qk ⟨[v2],La,O.O ha S,?_⟩;simpa[tup]using Y
theorem QiD {v:OY}(h:Zm L w.heap v n 3 cs)(V:∀u∈cs,u.oneCell'=true):
  Q3 prog 88 [v] w λr w'=>O1 [] w w'/\w'.ownsRow w.heap.size 121 3 r n cs:=by
 have hb:=h.le;refine Zq func88 ?_;refine Qc<|Qb ?_;obtain⟨ao,cap,G⟩:=h.shape;refine Qd<|Qm<|x (Xs (show ev _ _=_ from G) U)<|xe<|QQ rfl (λI=>?_) (λI=>?_)
 ·refine Qc<|Qb<|Qk ⟨[nS],La,O1.Z _ _,?_⟩;rcases h.2.2 with⟨E,H⟩|⟨a,c,E,_⟩
  ·have J:cs=[]:=Ls (by rw[h.1,H]);subst J H;exact QJ _ _ _ _
  rw[E]at G;cases G;cases I
 rcases h.2.2 with⟨E,H⟩|⟨a,c,E,H,J⟩
 ·rw[E]at G;injection G with e1;subst e1;cases I
 refine Qh<|Qc<|Qe<|Xw λb5 w1 O S T=>Qa<|Qe<|Zb (base:=w.heap.size) (T.own (n:=0) (sz:=3) U oa S) U (show ev _ _=_ from E) h.1 (J.I O) V oa (ot T.lt) λv2 w2 Y ha hc=>Qb<|Qk ⟨[v2],La,O.O ha S,?_⟩;simpa[tup]using Y
theorem Qiz {v:OY}(h:Zm L w.heap v n 4 cs)(V:∀u∈cs,u.oneCell'=true):
  Q3 prog 106 [v] w λr w'=>O1 [] w w'/\w'.ownsRow w.heap.size 241 4 r n cs:=by
 have hb:=h.le;refine Zq func106 ?_;refine Qc<|Qb ?_;obtain⟨ao,cap,G⟩:=h.shape;refine Qd<|Qm<|x (Xs (show ev _ _=_ from G) U)<|xe<|QQ rfl (λI=>?_) (λI=>?_)
 ·refine Qc<|Qb<|Qk ⟨[nS],La,O1.Z _ _,?_⟩;rcases h.2.2 with⟨E,H⟩|⟨a,c,E,_⟩
  ·have J:cs=[]:=Ls (by rw[h.1,H]);subst J H;exact QJ _ _ _ _
  rw[E]at G;cases G;cases I
 rcases h.2.2 with⟨E,H⟩|⟨a,c,E,H,J⟩
 ·rw[E]at G;injection G with e1;subst e1;cases I
 refine Qh<|Qc<|Qe<|Xw λb5 w1 O S T=>Qa<|Qe<|Zb (base:=w.heap.size) (T.own (n:=0) (sz:=4) U oa S) U (show ev _ _=_ from E) h.1 (J.I O) V oa (ot T.lt) λv2 w2 Y ha hc=>Qb<|Qk ⟨[v2],La,O.O ha S,?_⟩;simpa[tup]using Y
theorem z7 {v:OY}(h:Zm L w.heap v n 2 cs)(V:∀u∈cs,u.oneCell'=true):
  Q3 prog 101 [v] w λr w'=>O1 [] w w'/\w'.ownsRow w.heap.size 75 2 r n cs:=by
 have hb:=h.le;refine Zq func101 ?_;refine Qc<|Qb ?_;obtain⟨ao,cap,G⟩:=h.shape;refine Qd<|Qm<|x (Xs (show ev _ _=_ from G) U)<|xe<|QQ rfl (λI=>?_) (λI=>?_)
 ·refine Qc<|Qb<|Qk ⟨[nS],La,O1.Z _ _,?_⟩;rcases h.2.2 with⟨E,H⟩|⟨a,c,E,_⟩
  ·have J:cs=[]:=Ls (by rw[h.1,H]);subst J H;exact QJ _ _ _ _
  rw[E]at G;cases G;cases I
 rcases h.2.2 with⟨E,H⟩|⟨a,c,E,H,J⟩
 ·rw[E]at G;injection G with e1;subst e1;cases I
 refine Qh<|Qc<|Qe<|Xw λb5 w1 O S T=>Qa<|Qe<|Zb (base:=w.heap.size) (T.own (n:=0) (sz:=2) U oa S) U (show ev _ _=_ from E) h.1 (J.I O) V oa (ot T.lt) λv2 w2 Y ha hc=>Qb<|Qk ⟨[v2],La,O.O ha S,?_⟩;simpa[tup]using Y
abbrev z9:LV:=[oE oF 0,.string .empty,nS,oE oF 0,nS,nS,nS,nS,oE oF 0]
theorem Qdk (l:List (ByteArray×Int)):∀u∈l.flatMap ZF,u.oneCell'=true:=by
 intro u G;obtain⟨p,_,E⟩:=Ma.1 G;simp only[ZF,oK,oI,or_false]at E;rcases E with rfl|rfl <;> rfl
theorem J8 {q:DV}(h0:XT L w.heap q):
  Q3 prog 77 [.agg (Qt q).toArray] w λr w'=>O1 [] w w'/\∃q':DV,r=.agg (Qt q').toArray/\q'.it=q.it/\∀L:LN,(∀b∈L,b<w.heap.size)->XT L w'.heap q':=by
 have h:=h0.up (L':=[]) oe;have hB:=h.a.al.le;have hC:=h.a.mr.le;have hE:=h.a.ed.le;have hF:=h.ls.arr.le;have hG:=h.ts.arr.le;refine Zq func77 ?_;refine Qc<|Qe<|QW (us:=Qt q) U λb1 w1 hH hs ht=>Qe<|Qo (us:=z9) U λb2 w2 hu gc hz=>xe ?_;have hI:=hH.D hu;have gg:=ht.lt;have gh:=hz.lt;refine Qc<|Q7 U<|x (Zs (us:=[q.p.va,oE oF q.p.a.st,q.p.vm,q.p.ve]) (ht.I hu) U U U)<|Qe<|Qo (us:=X4) U λb3 w3 hJ hK hM=>Qe<|Qj (us:=[q.p.va,oE oF q.p.a.st,q.p.vm,q.p.ve]) hM U U U U ⟨h.a.al.one,U,h.a.mr.one,h.a.ed.one,Z⟩ λH hN hf=>xe ?_;have hg:O1 [] w2 H:=hJ.O hN hK;have h1:=hI.D hg;have h4:=h.I h1;have hO:=ht.I (hu.D hg);have hP:=hz.I hg;have gi:=hg.size;have h2:O1 [] H { H with drawn:=H.drawn+1 }:=O1.C _ _
 refine Qd<|ZI [] [oC 0,oC 1,oC 3,oC 4,oC 5,oC 6,oC 8,oC 9,oD 2,oD 7,oD 10,oC 11,oC 12,oD 13]<|p (QR U)<|pq (λ_ G=>Qr (hf.I G) U U)<|p (QR U)<|pq (λ_ G=>Qr (hf.I G) U U) <|
  p (QR rfl)<|pq (λ_ G=>Qr (hf.I G) U U)<|p (QR U)<|pq (λ_ G=>Qr (hf.I G) U U) <|
  pk<|xg<|(Z5 (h4.a.al.I h2)).mono ?_
 rintro ra w5 ⟨hQ,hh⟩;have hi:O1 [] H w5:=h2.D hQ;refine⟨hi,?_⟩;refine pk<|xg<|(Z5 (h4.a.mr.I hi)).mono ?_;rintro rm w6 ⟨h3,hj⟩;have hk:=hi.D h3;refine⟨hk,?_⟩;refine pk<|xg<|(Ko (h4.a.ed.I hk)).mono ?_;rintro re w7 ⟨hv,J⟩;have O:=hk.D hv;refine⟨O,?_⟩;refine p (λ_=>Qy ⟨xH hh,U,xH hj,xH J,Z⟩)<|p (QR U)<|pkl (hl:=by kernel_rfl)<|Yx (us:=[ra,oE oF q.p.a.st,rm,re]) (cs':=[oE oF q.kd,.string q.nm,ra,oE oF q.p.a.st,rm,re,q.vl,q.vt,oE oF q.bd]) (hO.I O) U U U oe ⟨Qu hh,rfl,Qu hj,Qu J,Z⟩ rfl λI hn hw=>pe ?_;have gj:=O.size;have h5:O1 [] w I:=(h1.D O).O hn hs;have hy:b2∉[b1]:=om
 have hR:=(hP.I O).J hn hy;have h8:=h.I h5;have gk:=hn.size;have h6:O1 [] I { I with drawn:=I.drawn+1 }:=O1.C _ _
 refine Qd<|ZI [] [oC 0,oC 1,oC 3,oC 4,oD 2,oC 6,oD 5,oD 7,oC 8,oD 9]<|p (QR U)<|pq (λ_ G=>Qr (hw.I G) U U)<|p (QR U)<|pq (λ_ G=>Qr (hw.I G) U U) <|
  pk<|xg<|(QiC (h8.ls.arr.I h6) (Qdk q.ls)).mono ?_
 rintro rl w9 ⟨hS,ho⟩;have hp:O1 [] I w9:=h6.D hS;refine⟨hp,?_⟩;refine p (QR U)<|pk<|xg<|(QiB (h8.ts.arr.I hp) (Qdk q.ts)).mono ?_;rintro rt h7 ⟨h9,hr⟩;have S:=hp.D h9;refine⟨S,?_⟩;refine pkl (hl:=by kernel_rfl)<|QE (j:=6) (u:=rl) (hw.I S) U U oe (Qu ho) λgl T hT=>p (QR rfl)<|pkl (hl:=by kernel_rfl)<|QE (j:=7) (u:=rt) hT rfl rfl oe (Qu hr) λhU V hV=>pe ?_;have hq:Zp [oE oF q.kd,.string q.nm,ra,oE oF q.p.a.st,rm,re,rl,rt,oE oF q.bd]:=⟨U,U,Qu hh,U,Qu hj,Qu J,Qu ho,Qu hr,U,Z⟩;have hW:=((hR.I S).J T hy).J V hy;refine Qc<|Q6 hV U U<|Qe<|Qj (us:=[oE oF q.kd,.string q.nm,ra,oE oF q.p.a.st,rm,re,rl,rt,oE oF q.bd]) hW U U U U hq λgm hA hX=>xe ?_;refine Qk ⟨[.agg (Qt ⟨q.kd,q.nm,⟨ra,rm,re,q.p.a⟩,rl,q.ls,rt,q.ts,q.bd⟩).toArray],⟨⟨_,U,Qn U (hX.at (L:=[]) oe).cells⟩,Z⟩,(((h5.D S).O T hs).O V hs).O hA oa,_,rfl,rfl,λL hL=>?_⟩;have Y:∀b∈b1::b2::L,b<H.heap.size:=λb E=>by
  simp only[oK]at E;rcases E with rfl|rfl|E
  ·omega
  ·omega
  have:=hL b E;omega
 have e1:({ H with drawn:=H.drawn+1 }:OX).heap.size=H.heap.size:=rfl
 have e2:({ I with drawn:=I.drawn+1 }:OX).heap.size=I.heap.size:=rfl
 have gn:=hi.size;have go:=hk.size;have gp:=hp.size;have ha:QP (b1::b2::L) w7.heap ra q.p.a.al:=((Qv.ints hh hB (λb E=>ot (Y b E))).I h3).I hv;have hm:QP (b1::b2::L) w7.heap rm q.p.a.mr:=(Qv.ints hj hC (λb E=>ot (Y b E))).I hv;have he:qB (b1::b2::L) w7.heap re q.p.a.ed:=QK J hE (λb E hbL=>ou (Qi J b E).1 (Y b hbL));have hY:ZH (b1::b2::L) w7.heap ra rm re q.p.a:=⟨ha,hm,he⟩;have hZ:=(((hY.st (hn.mono oe)).I S).st (T.mono oe)).st (V.mono oe);have ga:Zm (b1::b2::L) h7.heap rl q.ls.length 2 (q.ls.flatMap ZF):=(QK ho hF (λb E hbL=>ou (Qi ho b E).1 (Y b hbL)):Zm (b1::b2::L) w9.heap rl _ 2 _).I h9;have gb:Zm (b1::b2::L) h7.heap rt q.ts.length 2 (q.ts.flatMap ZF):=QK hr hG (λb E hbL=>ou (Qi hr b E).1 (Y b hbL));have hD:XT (b1::b2::L) hU.heap ⟨q.kd,q.nm,⟨ra,rm,re,q.p.a⟩,rl,q.ls,rt,q.ts,q.bd⟩:=⟨h.nm,hZ,⟨(ga.st (T.mono oe)).st (V.mono oe),h.ls.nm⟩,⟨(gb.st (T.mono oe)).st (V.mono oe),h.ts.nm⟩⟩;exact(hD.st (hA.mono oe)).up (λb E=>.inl (by simp[E]))
section
variable {pS:String}
theorem zc {base e:Nat}{bys:Nat}[h:Sl P t e sz bys z]{v:OY}(H:w.ownsRow base e sz v n cs)
  {a:Addr} {m c:Nat}  (hl:news.length=m*sz) (V:∀j u,news[j]?=some u->w.cell? (a.add j)=some u) (h1:∀u∈news,u.oneCell'=true)
  (hb:n+m<=1073741824) (hs:bys<=131072) (he:base<=w.heap.size):
  ∃v' w',(Builtin.append_ #[t,t] ty #[v,.slice (some a) m c]).run P w=.ok v' w'/\w'.ownsRow base e sz v' (n+m) (cs++news)/\O1 (ob v) w w'/\(∀b∈ob v',b∈ob v\/w.heap.size<=b):=by
 obtain⟨i,hi,hz,O,ha⟩:=Sl.info h;have hc:(n+m)*bys<=140737488355328:=LH (Nat.mul_le_mul hb hs) oa;have hf:n+m<=maxLen:=by simp only[maxLen];omega
 by_cases hg:∃g cap cur,v=.slice (some ⟨g,0,none⟩) n cap/\w.heap[g]?=some (.cells cur e (0,0))/\n+m<=cap
 ·obtain⟨v',w',I,ho,ht,_⟩:=run_append_own (P:=P) w base t ty e i z sz bys h.u hi hz O ha h.zs h.pos v n cs H a m c news hl V h1 hf hc he;refine⟨v',w',I,ho,by rw[zo];exact O1.of_grown ht,?_⟩;obtain⟨g,cap,cur,rfl,hh,S⟩:=hg;rcases H.2 with⟨h2,_⟩|⟨g2,cap2,hj,h2,h3,h4,h5,h6,h7,h8⟩
  ·cases h2
  cases h2
  have hu:n*i.size+news.length<=hj.size:=by rw[hl,h7,O,<-Mo];exact LY _ S
  have hv:=run_append_room (P:=P) w t ty e i h.u hi g n cap hj h4 a m c news (by rw[O];exact hl) V h1 S hu;rw[hv]at I;cases I
  intro b G;exact .inl G
 have new:∀(old:Nat),old<n+m->∀J,J=(Obj.cells (cs.toArray++news.toArray++Builtin.zeroCells z.cells (grownCap w (n+m) old e - (n+m))) e) ->
   (w.drew.alloc J).ownsRow base e sz (.slice (some ⟨w.heap.size,0,none⟩) (n+m) (grownCap w (n+m) old e)) (n+m) (cs++news):=by
  intro old ho J hw;subst hw;have hge:=grownCap_ge w (n+m) old e;have hp:grownCap w (n+m) old e<=maxLen:=grownCap_le_maxLen w (n+m) old e hf;have hq:(cs++news).length=(n+m)*sz:=by rw[Ll,H.1,hl,Mo]
  refine⟨hq,.inr ⟨w.heap.size,_,_,U,he,JY w.drew _,hge,hp,?_,?_⟩⟩
  ·simp only[Array.size_append,o9,size_zeroCells,h.zs,H.1,hl,<-Oj];congr 1;omega
  simp only[Array.toList_append,oT];rw[<-LA,<-hq];exact List.take_left
 have stp:∀J,O1 (ob v) w (w.drew.alloc J):=λJ=>⟨U,U,U,by rw[Vg];exact OJ _,λk hk _=>UZ w.drew J k hk⟩;have fin:∀(b:Nat),b∈ob (.slice (some ⟨w.heap.size,0,none⟩) (n+m) 0)->b∈ob v\/w.heap.size<=b:=λb G=>by simp[ob]at G;omega
 rcases H.2 with⟨rfl,rfl⟩|⟨g,cap,cur,rfl,hA,hh,hB,hp,hC,hD⟩
 ·have hx:cs=[]:=Ls (oy H.1);subst hx;by_cases hm:m=0
  ·subst hm;have Y:news=[]:=Ls (oy hl);subst Y;refine⟨nS,w,?_,QJ _ _ _ _,O1.Z _ _,λb G=>by simp[ob]at G⟩;simp[Builtin.append_,run_underlying h.u,sizeOf,typeInfo,hi,Builtin.lenOf,Builtin.firstCells,loadCells,loadCellsFrom]
  have I:=run_append_nil (P:=P) w t ty e i z h.u hi hz a m c news (by rw[O];exact hl) V oa oa (by rw[ha];have hy:=hc;simp only[oX]at hy;omega);have Y:=new 0 oa _ U;simp only[oX,Oi,Array.empty_append]at Y ⊢;exact⟨_,_,I,Y,stp _,λb G=>fin b G⟩
 have S:cap<n+m:=by
  rcases OA cap (n+m)with h0|hge
  ·exact h0
  exact OS ⟨g,cap,cur,U,hh,hge⟩ hg
 have h9:∀j u,cs[j]?=some u->w.cell? ((⟨g,0,none⟩:Addr).add j)=some u:=H.cells (g:=g) U;have I:=run_append_grow (P:=P) w t ty e i z h.u hi hz ⟨g,0,none⟩ n cap cs (by rw[O];exact H.1) h9 a m c news (by rw[O];exact hl) V S oa (growslice_fits S (by rw[ha];exact hc));exact⟨_,_,I,new cap S _ U,stp _,λb G=>fin b G⟩
theorem Kl {e bys:Nat}[h:Sl P t e sz bys z]{s:OZ}{base:Nat}{v:OY}(G:w.ownsRow base e sz v n cs)(H:ev f s=v)
  {a:Addr} {m c:Nat}  (I:ev f y=.slice (some a) m c) (hl:news.length=m*sz)  (J:At L w.heap a news) (O:∀u∈news,u.oneCell'=true)
  (S:n+m<=1073741824) (V:base<=w.heap.size)
  (hK:∀v' w',w'.ownsRow base e sz v' (n+m) (cs++news)->O1 (ob v) w w'->(∀b∈ob v',b∈ob v\/w.heap.size<=b)->K (QT f d v') w') (Y:bys<=131072:=by decide):
  XO P ⟨d,.call ⟨.builtin .append,#[s,y],#[t,t]⟩,ty,pS,af,gd⟩ f w K:=by
 obtain⟨v',w',hr,h2,h3,h4⟩:=zc (P:=P) (t:=t) (ty:=ty) G hl J.cells O S Y V (c:=c);have ha:(execOp (ev f) ⟨d,.call ⟨.builtin .append,#[s,y],#[t,t]⟩,ty,pS,af,gd⟩).run P w=.ok (.value v') w':=by
  simp[execOp,resolve,invoke,builtin,H,I,hr]
 exact xv ha (hK v' w' h2 h3 h4)
end
class Mm {α:Type}(E:LN->Array Obj->α->Prop):Prop where
 st:∀{L:LN} {w w':OX} {q:α},E L w.heap q->O1 L w w'->E L w'.heap q
 up:∀{L L':LN} {H:xu} {q:α},E L H q->(∀b∈L',b∈L\/H.size<=b)->E L' H q
section
variable {E:LN->Array Obj->α->Prop}[Mm E]{q:α}
theorem Mm.mono (h:E L H q)(G:∀b∈L',b∈L):E L' H q:=Mm.up h λb I=>.inl (G b I)
theorem Mm.J (h:E L w.heap q)(H:O1 X w w')(I:∀b∈X,b∈L\/w.heap.size<=b):E L w'.heap q :=
 Mm.mono (Mm.st (Mm.up (L':=X++L) h (λb G=>(Lc.1 G).elim (I b) .inl)) (H.mono λ_ G=>Lc.2 (.inl G))) λ_ G=>Lc.2 (.inr G)
theorem Mm.I (h:E L w.heap q)(G:O1 [] w w'):E L w'.heap q:=Mm.st h G.any
end
structure KE {α:Type}(g:α->LV)(sz:Nat)(E:LN->Array Obj->α->Prop)(L:LN)(H:xu)(v:OY)(qs:List α):Prop where
 arr:Zm L H v qs.length sz (qs.flatMap g)
 each:∀q∈qs,E L H q
section
variable {g:α->LV}{E:LN->Array Obj->α->Prop}
theorem KE.st [Mm E]{L:LN}{w w':OX}{v:OY}{qs:List α}(h:KE g sz E L w.heap v qs)(G:O1 L w w'):KE g sz E L w'.heap v qs:=⟨h.arr.st G,λq H=>Mm.st (h.each q H) G⟩
theorem KE.up [Mm E]{L L':LN}{H:xu}{v:OY}{qs:List α}(h:KE g sz E L H v qs)(G:∀b∈L',b∈L\/H.size<=b):KE g sz E L' H v qs:=⟨h.arr.up G,λq I=>Mm.up (h.each q I) G⟩
theorem KE.I [Mm E]{v:OY}{qs:List α}(h:KE g sz E L w.heap v qs)(G:O1 [] w w'):KE g sz E L w'.heap v qs:=h.st G.any
structure Yk {α:Type}(g:α->LV)(sz T:Nat)(E:LN->Array Obj->α->Prop)(base:Nat)(w:OX)(v:OY)(l:List α):Prop where
 own:w.ownsRow base T sz v l.length (l.flatMap g)
 each:∀q∈l,∀L:LN,(∀b∈L,b<base\/b∈ob v)->E L w.heap q
variable {bs:Nat}{v:OY}{l:List α}
theorem Yk.nil:Yk g sz T E bs w (nS) []:=⟨QJ _ _ _ _,λq G=>by cases G⟩
theorem Yk.low [Mm E](h:Yk g sz T E bs w v l)(H:O1 X w w')(I:∀b∈X,b<bs):Yk g sz T E bs w' v l :=
 ⟨Qf h.own H (λb G J=>ou (Qi h.own b G).1 (I b J)),λq O L S =>
  Mm.mono (Mm.st (L:=X++L) (h.each q O _ λb G=>(Lc.1 G).elim (λG=>.inl (I b G)) (S b)) (H.mono λb G=>Lc.2 (.inl G))) λb G=>Lc.2 (.inr G)⟩
theorem Yk.I [Mm E](h:Yk g sz T E bs w v l)(G:O1 [] w w'):Yk g sz T E bs w' v l:=h.low G (λ_ H=>by cases H)
theorem Yk.base {base':Nat}(h:Yk g sz T E bs w v l)(G:base'<=bs):Yk g sz T E base' w v l :=
 ⟨Zy h.own G,λq H L I=>h.each q H L λb J=>(I b J).imp (λh=>oa) id⟩
theorem Yk.app [Mm E]{H:OY}{I:OX}{q:α}(h:Yk g sz T E bs w v l)(O:∀L:LN,(∀b∈L,b<bs\/b∈ob v)->E L w.heap q)
  (S:I.ownsRow bs T sz H (l.length+1) (l.flatMap g++g q)) (V:O1 (ob v) w I) (Y:∀b∈ob H,b∈ob v\/w.heap.size<=b):Yk g sz T E bs I H (l++[q]):=by
 have mv:∀d:α,(∀L:LN,(∀b∈L,b<bs\/b∈ob v)->E L w.heap d)->∀L:LN,(∀b∈L,b<bs\/b∈ob H)->E L I.heap d:=λd hd L hL=>by
  have h1:E (ob v++L) w.heap d:=Mm.up (hd (ob v++L.filter λb=>decide (b<bs)) λb G=>(Lc.1 G).elim .inr λG=>.inl (OU (Md.1 G).2)) λb G=>by
   rcases Lc.1 G with G|G
   ·exact .inl (Lc.2 (.inl G))
   rcases hL b G with J|J
   ·exact .inl (Lc.2 (.inr (Md.2 ⟨G,OT J⟩)))
   exact(Y b J).imp (λh3=>Lc.2 (.inl h3)) id
  exact Mm.mono (Mm.st h1 (V.mono λb G=>Lc.2 (.inl G))) λb G=>Lc.2 (.inr G)
 refine⟨?_,λd hd=>?_⟩
 ·rw[Ll,LB];simpa using S
 rcases Lc.1 hd with hd|hd
 ·exact mv d (h.each d hd)
 simp only[oH]at hd;subst hd;exact mv d O
theorem Yk.lst (h:Yk g sz T E bs w v l)(I:l.length<=1099511627776)(H:∀b∈L,b<bs):KE g sz E L w.heap v l :=
 ⟨QK h.own I (λb G hbL=>ou (Qi h.own b G).1 (H b hbL)),λq J=>h.each q J L λb G=>.inl (H b G)⟩
end
instance:Mm XT:=⟨XT.st,XT.up⟩
theorem Ve {q:DV}(h:XT L H q):∀u∈Qt q,u.oneCell'=true:=by
 intro u E;simp only[Qt,oK,oI,or_false]at E;rcases E with rfl|rfl|rfl|rfl|rfl|rfl|rfl|rfl|rfl
 ·rfl
 ·rfl
 ·exact h.a.al.one
 ·rfl
 ·exact h.a.mr.one
 ·exact h.a.ed.one
 ·exact h.ls.arr.one
 ·exact h.ts.arr.one
 rfl
abbrev Jg (base:Nat)(w:OX)(v:OY)(l:List DV):Prop:=Yk Qt 9 63 XT base w v l
theorem Jg.dits {base:Nat}{v:OY}{l:List DV}(h:Jg base w v l)(E:l.length<=1099511627776)(G:∀b∈L,b<base):Ke L w.heap v l:=⟨(Yk.lst h E G).arr,(Yk.lst h E G).each⟩
theorem JR {v:OY}{es:List DV}(h0:Ke L w.heap v es)(h3:es.length<=100000):
  Q3 prog 96 [v] w λr w'=>O1 [] w w'/\∃l:List DV,Jg w.heap.size w' r l/\l.map DV.it=es.map DV.it:=by
 have h:=h0.up (L':=[]) oe;refine Zq func96 ?_;refine Qc<|Qb<|Qc<|Qb<|Qd<|Qm<|QI h.arr U<|Qa<|xe<|Qg<|QD (α:=Nat×OY×List DV) [(3,3),(5,5),(8,17)] (λz=>[(3,z.2.1),(8,oE oF z.1)]) (λz w'=>z.1<=es.length/\O1 [] w w'/\Jg w.heap.size w' z.2.1 z.2.2/\z.2.2.map DV.it=(es.take z.1).map DV.it) (λz=>es.length - z.1) ol (0,nS,[]) oz
  ⟨Lo _,O1.Z _ _,Yk.nil,U⟩ ?_
 rintro⟨k,vo,l⟩ g w1 ⟨hk,J,hR,G⟩;simp only[]at hk hR G;have h4:l.length=k:=by have:=OR oO G;rw[Lh,Lh,Ly]at this;omega
 refine Qc<|Q0 U U<|xe<|Qd<|QH U (λS=>?_) (λS=>?_)
 ·refine Qz ?_;have hh:es.length<=k:=by have hi:¬(k:Int)<(es.length:Int):=S;omega
  rw[Lr hh]at G;refine Qm<|Qb<|Qk ⟨[vo],La,J,l,hR,G⟩
 have E:k<es.length:=by have hi:(k:Int)<(es.length:Int):=S;omega
 have Y:es.take (k+1)=es.take k++[es[k]'E]:=Lm E;have ha:=Lk E;have h1:=h.I J;refine Qh<|Qd<|Qg<|Qc<|O4 (g:=Qt) (i:=k) ZW h1.arr U U E λh5 hc=>?_;refine Zo (es[k]'E) λq hq=>?_;rw[hq]at hc Y ha;have he:=h1.each q ha;refine x (Qx hc U U)<|Qe<|Qo (us:=z9) U λb5 w2 hj hl hn=>Qe<|Qj (us:=Qt q) hn U U U U he.ones λw3 ho hp=>xe ?_;have H:O1 [] w1 w3:=hj.O ho hl;have h6:=H.size;have h7:=J.size;refine Qw<|Qa<|Q6 hp U U<|QM<|(J8 (he.I H)).mono ?_;rintro r4 w4 ⟨T,I,rfl,hr,hf⟩;have h8:=T.size;have hs:=(hR.I H).I T;have ht:=Zf (hR.I H).own;refine Qe<|QB (us:=[Qt I]) U U og (show 1*9<=1000000 by decide) oz λhu w5 O hA hv=>?_;have hB:=O.size;have hw:At [] w5.heap ⟨hu,0,none⟩ (Qt I):=by have:=hv.at (L:=[]) oe;simpa using this
 have hR5:=hs.I O;refine Qe<|Kl (m:=1) (news:=Qt I) hR5.own U U U hw (Ve (hf [] oe)) oa oa λv6 w6 hy hg hz=>?_;refine Qb ?_;have h2:Jg w.heap.size w6 v6 (l++[I]):=hR5.app (λL hL=>(hf L (λb V=>by
  rcases hL b V with h|h
  ·omega
  exact ht b h)).I O) hy hg hz
 refine Qw<|QS U U<|Qa<|xe<|⟨(k+1,v6,l++[I]),by show es.length - (k+1)<es.length - k;omega,oz,E,((((J.D H).D T).D O).then hg λb V=>.inr (Qi hR.own b V).1),h2,?_⟩;simp only[];rw[Y,Lt,Lt,G,LE,LE,hr]
theorem QbF {n:Nat}{u:LI}:∀{l:List YU}{s:List ByteArray},Jz n u s l=0->(l.map (·.nm)).Nodup/\∀x∈l,x.nm∉s
 | [],_,_=>⟨.nil,λx hx=>by cases hx⟩
 | y::l,s,h=>by
  rw[VM]at h;by_cases E:Yb n u s y≠0
  ·rw[OQ E]at h;exact OS h E
  rw[OP E]at h;have G:Yb n u s y=0:=Ln.1 E;have J:y.nm∉s:=λH=>by
   unfold Yb at G;split at G
   ·exact OS G og
   exact OS G og
  obtain⟨O,I⟩:=QbF h;refine⟨M0.2 ⟨λH=>?_,O⟩,λx hx=>?_⟩
  ·obtain⟨x,hx,e⟩:=LC.1 H;exact I x hx (by rw[e];simp)
  rcases Li.1 hx with rfl|hx
  ·exact J
  exact λH=>I x hx (Lc.2 (.inl H))
theorem Qei {s:List ByteArray}{n:ByteArray}(h:KY s n=0):n∉s:=λE=>by
 unfold KY at h;split at h
 ·exact OS h og
 exact OS h og
theorem jp {sz:LI}:∀{l:List UA}{s:List ByteArray},YA sz s l=0->(l.map (·.nm)).Nodup/\∀x∈l,x.nm∉s
 | [],_,_=>⟨.nil,λx hx=>by cases hx⟩
 | y::l,s,h=>by
  rw[YA]at h;by_cases E:KY s y.nm≠0
  ·rw[OQ E]at h;exact OS h E
  rw[OP E]at h;by_cases G:JA sz y.ls≠0
  ·rw[OQ G]at h;exact OS h G
  rw[OP G]at h;have J:=Qei (Ln.1 E);obtain⟨O,I⟩:=jp h;refine⟨M0.2 ⟨λH=>?_,O⟩,λx hx=>?_⟩
  ·obtain⟨x,hx,e⟩:=LC.1 H;exact I x hx (by rw[e];simp)
  rcases Li.1 hx with rfl|hx
  ·exact J
  exact λH=>I x hx (Lc.2 (.inl H))
theorem jq {sz:LI}:∀{l:List xG}{s:List ByteArray},Y8 sz s l=0->(l.map (·.nm)).Nodup/\∀x∈l,x.nm∉s
 | [],_,_=>⟨.nil,λx hx=>by cases hx⟩
 | y::l,s,h=>by
  rw[Y8]at h;by_cases E:KY s y.nm≠0
  ·rw[OQ E]at h;exact OS h E
  rw[OP E]at h;by_cases G:JU sz y≠0
  ·rw[OQ G]at h;exact OS h G
  rw[OP G]at h;have J:=Qei (Ln.1 E);obtain⟨O,I⟩:=jq h;refine⟨M0.2 ⟨λH=>?_,O⟩,λx hx=>?_⟩
  ·obtain⟨x,hx,e⟩:=LC.1 H;exact I x hx (by rw[e];simp)
  rcases Li.1 hx with rfl|hx
  ·exact J
  exact λH=>I x hx (Lc.2 (.inl H))
theorem qK {c:Zx}{k:Int}{f:Nat->ByteArray}(E:∀(j:Nat) (co:LI),ZY c ⟨k,(j:Int),co⟩=(k,f j)):∀(l:LN) (i:Nat),(Vm k i l).map (ZY c)=(oQ i l.length).map λj=>(k,f j)
 | [],_=>rfl
 | b::l,i=>by
  rw[Vm,LE,qK E l (i+1),E,LS,M2,LE]
theorem zg (L:List α)(f:α->ByteArray)(d:α)(k:Int):((oQ 0 L.length).map λj=>(k,f (L.getD j d)))=L.map λx=>(k,f x):=by
 apply Mt
 ·simp
 intro i H E;have G:i<L.length:=by simpa using E
 simp[oP,G]
theorem Qks (c:Zx):(O5 c).map (ZY c)=c.rq.map (λx=>((1:Int),x.nm))++(c.ex.map (λx=>((2:Int),x.nm))++c.cs.map λx=>((3:Int),x.nm)):=by
 unfold O5;rw[Lt,Lt];rw[qK (f:=λj=>(c.rq.getD j ⟨.empty,KB⟩).nm) (λj co=>rfl),qK (f:=λj=>(c.ex.getD j ⟨.empty,[]⟩).nm) (λj co=>rfl),qK (f:=λj=>(c.cs.getD j ⟨.empty,[],0⟩).nm) (λj co=>rfl)];have e1:(srR c).length=c.rq.length:=Lh _;have e2:(srX c).length=c.ex.length:=Lh _;have E:(srC c).length=c.cs.length:=Lh _;rw[e1,e2,E,zg c.rq (·.nm),zg c.ex (·.nm),zg c.cs (·.nm)]
theorem UK {k:Int}{f:α->ByteArray}{l:List α}(h:(l.map f).Nodup):(l.map λx=>(k,f x)).Nodup:=by
 have e:(l.map λx=>(k,f x))=(l.map f).map λn=>(k,n):=by rw[MB];rfl
 rw[e];exact(MF.2 (h.imp λE e=>E (OR Prod.snd e)))
theorem zB (h:Zi c=0):((O5 c).map (ZY c)).Nodup:=by
 unfold Zi at h;split at h
 ·rename_i E;exact OS h E
 split at h
 ·cases h
 split at h
 ·cases h
 split at h
 ·rename_i E;exact OS h E
 split at h
 ·rename_i E;exact OS h E
 rename_i H;have H:=QbF (Ln.1 H);unfold YB at h;split at h
 ·cases h
 split at h
 ·cases h
 split at h
 ·cases h
 split at h
 ·rename_i E;exact OS h E
 rename_i hx;have hx:=jp (Ln.1 hx);have J:=jq h;rw[Qks];refine MK.2 ⟨UK H.1,MK.2 ⟨UK hx.1,UK J.1,λa I b G e=>?_⟩,λa I b G e=>?_⟩
 ·obtain⟨_,_,rfl⟩:=LC.1 I;obtain⟨_,_,rfl⟩:=LC.1 G;exact OS (OR Prod.fst e) (show(2:Int)≠3 by decide)
 obtain⟨_,_,rfl⟩:=LC.1 I;rcases Lc.1 G with G|G
 ·obtain⟨_,_,rfl⟩:=LC.1 G;exact OS (OR Prod.fst e) (show(1:Int)≠2 by decide)
 obtain⟨_,_,rfl⟩:=LC.1 G;exact OS (OR Prod.fst e) (show(1:Int)≠3 by decide)
theorem QnH (c:Zx)(bf:List xF)(v:Int)(m:Ux):(JX c bf v m).2.1.ky=ZY c m:=by
 unfold JX;split
 ·rfl
 split
 ·rename_i p E;split
  ·have:=List.find?_some E;simpa using this
  rfl
 rfl
structure U2 {α:Type}(g:α->LV)(sz T:Nat)(E:LN->Array Obj->α->Prop)(L:LN)(base:Nat)(w:OX)(v:OY)(l:List α):Prop where
 own:w.ownsRow base T sz v l.length (l.flatMap g)
 each:∀q∈l,E (ob v++L) w.heap q
section
variable {g:α->LV}{E:LN->Array Obj->α->Prop}{bs:Nat}{v:OY}{l:List α}
theorem U2.nil:U2 g sz T E L bs w (nS) []:=⟨QJ _ _ _ _,λq G=>by cases G⟩
theorem U2.J [Mm E]{X:LN}(h:U2 g sz T E L bs w v l)(H:O1 X w w')(I:∀b∈X,(b∈L\/w.heap.size<=b)/\b∉ob v):U2 g sz T E L bs w' v l :=
 ⟨Qf h.own H (λb G J=>(I b J).2 G),λq O=>Mm.J (h.each q O) H λb G=>(I b G).1.imp (λh=>Lc.2 (.inr h)) id⟩
theorem U2.I [Mm E](h:U2 g sz T E L bs w v l)(G:O1 [] w w'):U2 g sz T E L bs w' v l:=h.J G (λ_ H=>by cases H)
theorem U2.app [Mm E]{H:OY}{I:OX}{q:α}(h:U2 g sz T E L bs w v l)(J:E (ob v++L) w.heap q)
  (O:I.ownsRow bs T sz H (l.length+1) (l.flatMap g++g q)) (S:O1 (ob v) w I) (V:∀b∈ob H,b∈ob v\/w.heap.size<=b):U2 g sz T E L bs I H (l++[q]):=by
 have mv:∀d:α,E (ob v++L) w.heap d->E (ob H++L) I.heap d:=λd hd=>by
  have Y:E (ob v++(ob H++L)) w.heap d:=Mm.up hd λb G=>by
   rcases Lc.1 G with G|G
   ·exact .inl (Lc.2 (.inl G))
   rcases Lc.1 G with G|G
   ·exact(V b G).imp (λh3=>Lc.2 (.inl h3)) id
   exact .inl (Lc.2 (.inr G))
  exact Mm.mono (Mm.st Y (S.mono λb G=>Lc.2 (.inl G))) λb G=>Lc.2 (.inr G)
 refine⟨?_,λd hd=>?_⟩
 ·rw[Ll,LB];simpa using O
 rcases Lc.1 hd with hd|hd
 ·exact mv d (h.each d hd)
 simp only[oH]at hd;subst hd;exact mv d J
end
structure EnV where
 ky:Ky
 vr:Int
 p:AV
 vk:OY
 kp:LI
 vd:OY
 ds:LI
 vm:OY
 rm:List Q4
abbrev Vd (q:EnV):LV:=[oE oF q.ky.1,.string q.ky.2,oE oF q.vr,q.p.va,oE oF q.p.a.st,q.p.vm,q.p.ve,q.vk,q.vd,q.vm]
structure EnA (L:LN)(H:xu)(q:EnV):Prop where
 a:ZH L H q.p.va q.p.vm q.p.ve q.p.a
 k:QP L H q.vk q.kp
 d:QP L H q.vd q.ds
 r:Zm L H q.vm q.rm.length 4 (q.rm.flatMap q4C)
theorem EnA.st {L:LN}{w w':OX}{q:EnV}(h:EnA L w.heap q)(G:O1 L w w'):EnA L w'.heap q:=⟨h.a.st G,h.k.st G,h.d.st G,h.r.st G⟩
theorem EnA.I {q:EnV}(h:EnA L w.heap q)(G:O1 [] w w'):EnA L w'.heap q:=h.st G.any
theorem EnA.up {L L':LN}{H:xu}{q:EnV}(h:EnA L H q)(G:∀b∈L',b∈L\/H.size<=b):EnA L' H q:=⟨h.a.up G,h.k.up G,h.d.up G,h.r.up G⟩
structure Ent where
 ky:Ky
 vr:Int
 sp:Q2
 kp:LI
 ds:LI
 rm:List Q4
def EnV.en (q:EnV):Ent:=⟨q.ky,q.vr,q.p.a,q.kp,q.ds,q.rm⟩
structure qz where
 e:EnV
 c:CL
abbrev ZR (q:qz):LV:=[oE oF q.e.ky.1,.string q.e.ky.2,oE oF q.e.vr,q.e.p.va,oE oF q.e.p.a.st,q.e.p.vm,q.e.p.ve,q.e.vk,q.e.vd,q.e.vm,q.c.ve,q.c.vc,q.c.vr,q.c.vx,q.c.vk]
theorem QgW (q:qz):(ZR q).length=15:=rfl
def qz.pt (q:qz):xF:=⟨q.e.ky,q.e.vr,q.e.p.a,q.e.kp,q.e.ds,q.e.rm,q.c.V⟩
structure qf (L:LN)(H:xu)(q:qz):Prop where
 e:EnA L H q.e
 c:ZJ L H q.c
theorem qf.st {L:LN}{w w':OX}{q:qz}(h:qf L w.heap q)(G:O1 L w w'):qf L w'.heap q:=⟨h.e.st G,h.c.st G⟩
theorem qf.I {q:qz}(h:qf L w.heap q)(G:O1 [] w w'):qf L w'.heap q:=h.st G.any
theorem qf.up {L L':LN}{H:xu}{q:qz}(h:qf L H q)(G:∀b∈L',b∈L\/H.size<=b):qf L' H q:=⟨h.e.up G,h.c.up G⟩
instance:Mm qf:=⟨qf.st,qf.up⟩
theorem qf.ones {q:qz}(h:qf L H q):Zp (ZR q):=⟨U,U,U,h.e.a.al.one,U,h.e.a.mr.one,h.e.a.ed.one,h.e.k.one,h.e.d.one,h.e.r.one,h.c.ev.arr.one,h.c.co.arr.one,h.c.rq.arr.one,h.c.ex.arr.one,h.c.cs.arr.one,Z⟩
structure qe where
 v1:OY
 k1:List Ky
 v2:OY
 k2:List Ky
 v3:OY
 k3:List Ky
def qe.rp (q:qe):Rp:=⟨q.k1,q.k2,q.k3⟩
abbrev Zr (q:qe):LV:=[q.v1,q.v2,q.v3]
theorem QgD (q:qe):(Zr q).length=3:=rfl
abbrev Kys (L:LN)(H:xu)(v:OY)(l:List Ky):Prop:=Zm L H v l.length 2 (l.flatMap KR)
structure Kw (L:LN)(H:xu)(q:qe):Prop where
 a1:Kys L H q.v1 q.k1
 a2:Kys L H q.v2 q.k2
 a3:Kys L H q.v3 q.k3
theorem Kw.st {L:LN}{w w':OX}{q:qe}(h:Kw L w.heap q)(G:O1 L w w'):Kw L w'.heap q:=⟨h.a1.st G,h.a2.st G,h.a3.st G⟩
theorem Kw.I {q:qe}(h:Kw L w.heap q)(G:O1 [] w w'):Kw L w'.heap q:=h.st G.any
theorem Kw.up {L L':LN}{H:xu}{q:qe}(h:Kw L H q)(G:∀b∈L',b∈L\/H.size<=b):Kw L' H q:=⟨h.a1.up G,h.a2.up G,h.a3.up G⟩
instance:Mm Kw:=⟨Kw.st,Kw.up⟩
theorem Kw.ones {q:qe}(h:Kw L H q):Zp (Zr q):=⟨h.a1.one,h.a2.one,h.a3.one,Z⟩
theorem j7 (l:List Ky):∀u∈l.flatMap KR,u.oneCell'=true:=by
 intro u H;obtain⟨p,_,G⟩:=Ma.1 H;simp only[KR,oK,oI,or_false]at G;rcases G with rfl|rfl <;> rfl
structure jG (L:LN)(H:xu)(q:IV):Prop where
 a:ZH L H q.p.va q.p.vm q.p.ve q.p.a
 nm:J0 q.nm
theorem jG.st {L:LN}{w w':OX}{q:IV}(h:jG L w.heap q)(E:O1 L w w'):jG L w'.heap q:=⟨h.a.st E,h.nm⟩
theorem jG.up {L L':LN}{H:xu}{q:IV}(h:jG L H q)(E:∀b∈L',b∈L\/H.size<=b):jG L' H q:=⟨h.a.up E,h.nm⟩
instance:Mm jG:=⟨jG.st,jG.up⟩
theorem jG.ones {q:IV}(h:jG L H q):Zp (QO q):=⟨U,h.a.al.one,U,h.a.mr.one,h.a.ed.one,Z⟩
structure XvA (L:LN)(H:xu)(q:XV):Prop where
 l:yz L H q.v q.ls
 nm:J0 q.nm
theorem XvA.st {L:LN}{w w':OX}{q:XV}(h:XvA L w.heap q)(E:O1 L w w'):XvA L w'.heap q:=⟨h.l.st E,h.nm⟩
theorem XvA.up {L L':LN}{H:xu}{q:XV}(h:XvA L H q)(E:∀b∈L',b∈L\/H.size<=b):XvA L' H q:=⟨h.l.up E,h.nm⟩
instance:Mm XvA:=⟨XvA.st,XvA.up⟩
structure KvA (L:LN)(H:xu)(q:KV):Prop where
 l:yz L H q.v q.ts
 nm:J0 q.nm
theorem KvA.st {L:LN}{w w':OX}{q:KV}(h:KvA L w.heap q)(E:O1 L w w'):KvA L w'.heap q:=⟨h.l.st E,h.nm⟩
theorem KvA.up {L L':LN}{H:xu}{q:KV}(h:KvA L H q)(E:∀b∈L',b∈L\/H.size<=b):KvA L' H q:=⟨h.l.up E,h.nm⟩
instance:Mm KvA:=⟨KvA.st,KvA.up⟩
abbrev IvR (base:Nat)(w:OX)(v:OY)(l:List IV):Prop:=Yk QO 5 71 jG base w v l
theorem IvR.itms {base:Nat}{v:OY}{l:List IV}(h:IvR base w v l)(G:l.length<=1099511627776)(H:∀b∈L,b<base):XH L w.heap v l :=
 let z:=Yk.lst h G H;⟨z.arr,λq E=>(z.each q E).a,λq E=>(z.each q E).nm⟩
theorem Qkb (l:List Q4):∀u∈l.flatMap q4C,u.oneCell'=true:=by
 intro u G;obtain⟨p,_,E⟩:=Ma.1 G;simp only[q4C,oK,oI,or_false]at E;rcases E with rfl|rfl|rfl|rfl <;> rfl
theorem QcM (h0:ZH L w.heap va vm ve a):
  Q3 prog 89 [.agg #[va,oE oF a.st,vm,ve]] w λr w'=>O1 [] w w'/\Kg w.heap.size w'.heap r a:=by
 have h:=h0.up (L':=[]) oe;have hr:=h.al.le;have hs:=h.mr.le;have ht:=h.ed.le;refine Zq func89 ?_;refine Qc<|Qe<|QW (us:=[va,oE oF a.st,vm,ve]) U λb1 w1 hu hz hj=>Qe<|Qo (us:=X4) U λb2 G hk h1 hn=>xe ?_;have ho:=hu.D hk;have V:=h.I ho;have I:=hj.I hk;have h3:=hj.lt;have hv:=hn.lt;have hd:O1 [] G { G with drawn:=G.drawn+1 }:=O1.C _ _
 refine Qd<|ZI [] [oC 0,oC 1,oC 3,oC 4,oC 5,oC 6,oC 8,oC 9,oD 2,oD 7,oD 10,oC 11,oD 12]<|p (QR U)<|pq (λ_ H=>Qr (I.I H) U U)<|p (QR U)<|pq (λ_ H=>Qr (I.I H) U U) <|
  p (QR rfl)<|pq (λ_ H=>Qr (I.I H) U U)<|p (QR U)<|pq (λ_ H=>Qr (I.I H) U U) <|
  pk<|xg<|(Z5 (V.al.I hd)).mono ?_
 rintro ra w5 ⟨hw,Y⟩;have J:O1 [] G w5:=hd.D hw;refine⟨J,?_⟩;refine pk<|xg<|(Z5 (V.mr.I J)).mono ?_;rintro rm w6 ⟨hp,hf⟩;have O:=J.D hp;refine⟨O,?_⟩;refine pk<|xg<|(Ko (V.ed.I O)).mono ?_;rintro re S ⟨hg,T⟩;have hh:=O.D hg;refine⟨hh,?_⟩;refine p (λ_=>Qy ⟨xH Y,U,xH hf,xH T,Z⟩)<|pkl (hl:=by kernel_rfl)<|Qj (us:=[ra,oE oF a.st,rm,re]) (hn.I hh) U U U U ⟨Qu Y,U,Qu hf,Qu T,Z⟩ λw8 hq hy=>pe ?_;refine Qk ⟨[.agg #[ra,oE oF a.st,rm,re]],⟨⟨_,U,Qn U (hy.at (L:=[]) oe).cells⟩,Z⟩,(ho.D hh).O hq oa,ra,rm,re,rfl,λL hL=>?_⟩;have e1:({ G with drawn:=G.drawn+1 }:OX).heap.size=G.heap.size:=rfl
 have h4:=J.size;have h5:=O.size;have hi:∀b∈b2::L,b<G.heap.size:=λb E=>by
  rcases Li.1 E with rfl|E
  ·exact hv
  have:=hL b E;omega
 have ha:QP (b2::L) S.heap ra a.al:=((Qv.ints Y hr (λb E=>ot (hi b E))).I hp).I hg;have hm:QP (b2::L) S.heap rm a.mr:=(Qv.ints hf hs (λb E=>ot (hi b E))).I hg;have he:qB (b2::L) S.heap re a.ed:=QK T ht (λb E hbL=>ou (Qi T b E).1 (hi b hbL));have hA:ZH (b2::L) S.heap ra rm re a:=⟨ha,hm,he⟩;exact(hA.st (hq.mono oe)).up (λb E=>.inl (Lj _ E))
abbrev z10:LV:=[oE oF 0,.string .empty,oE oF 0,nS,oE oF 0,nS,nS,nS,nS,nS]
theorem QpN {q:EnV}(h0:EnA L w.heap q):
  Q3 prog 53 [.agg (Vd q).toArray] w λr w'=>O1 [] w w'/\∃q':EnV,r=.agg (Vd q').toArray/\q'.en=q.en/\∀L:LN,(∀b∈L,b<w.heap.size)->EnA L w'.heap q':=by
 have h:=h0.up (L':=[]) oe;have h7:=h.k.le;have h8:=h.d.le;have h9:=h.r.le;refine Zq func53 ?_;refine Qc<|Qe<|QW (us:=Vd q) U λb1 w1 hA hs hi=>Qe<|Qo (us:=z10) U λb2 w2 hj hT ht=>xe ?_;have hB:=hA.D hj;have hU:=hi.lt;have hV:=ht.lt;refine Qc<|Q7 U<|x (Zs (us:=[q.vk,q.vd,q.vm]) (hi.I hj) U U U)<|Qe<|Qo (us:=[nS,nS,nS]) U λb3 w3 hC hD hF=>Qe<|Qj (us:=[q.vk,q.vd,q.vm]) hF U U U U ⟨h.k.one,h.d.one,h.r.one,Z⟩ λw4 hG hH=>xe ?_;have T:O1 [] w2 w4:=hC.O hG hD;have hu:=hB.D T;have h4:=h.I hu;have hW:=T.size;have hv:=(hi.I hj).I T;have hI:=ht.I T;refine Qc<|Q7 U<|x (Zs (us:=[q.p.va,oE oF q.p.a.st,q.p.vm,q.p.ve]) hv U U U)<|QM<|(QcM h4.a).mono ?_;rintro _ w5 ⟨hm,xa,xm,H,rfl,hw⟩;have hX:=hm.size;have I:=(hw [] oe);refine Q7 rfl<|Qe<|Yx (us:=[xa,oE oF q.p.a.st,xm,H]) (cs':=[oE oF q.ky.1,.string q.ky.2,oE oF q.vr,xa,oE oF q.p.a.st,xm,H,q.vk,q.vd,q.vm]) (hv.I hm) U U U oe ⟨I.al.one,rfl,I.mr.one,I.ed.one,Z⟩ rfl λG hn hJ=>xe ?_;have ho:O1 [b1] w4 G:=hm.any.Q hn;have hy:O1 [] w G:=hu.O ho hs;have h6:=h.I hy;have hY:=hn.size;have hK:b3∉[b1]:=om
 have hz:b2∉[b1]:=om
 have hp:=hH.J ho hK;have hM:=hI.J ho hz;have hd:O1 [] G { G with drawn:=G.drawn+1 }:=O1.C _ _
 refine Qd<|ZI [] [oC 0,oC 1,oC 3,oC 4,oC 6,oC 7,oD 2,oD 5,oD 8,oC 9,oC 10,oD 11]<|p (QR U)<|pq (λ_ J=>Qr (hp.I J) U U)<|p (QR U)<|pq (λ_ J=>Qr (hp.I J) U U) <|
  p (QR rfl)<|pq (λ_ J=>Qr (hp.I J) U U)<|pk<|xg<|(Z5 (h6.k.I hd)).mono ?_
 rintro rk w7 ⟨hN,V⟩;have Y:O1 [] G w7:=hd.D hN;refine⟨Y,?_⟩;refine pk<|xg<|(Z5 (h6.d.I Y)).mono ?_;rintro rd w8 ⟨h1,he⟩;have hf:=Y.D h1;refine⟨hf,?_⟩;refine pk<|xg<|(Qiz (h6.r.I hf) (Qkb q.rm)).mono ?_;rintro rr O ⟨hq,S⟩;have hg:=hf.D hq;refine⟨hg,?_⟩;refine p (λ_=>Qy ⟨xH V,xH he,xH S,Z⟩)<|p (QR U)<|pkl (hl:=by kernel_rfl)<|Yx (us:=[rk,rd,rr]) (cs':=[oE oF q.ky.1,.string q.ky.2,oE oF q.vr,xa,oE oF q.p.a.st,xm,H,rk,rd,rr]) (hJ.I hg) U U U oe ⟨Qu V,Qu he,Qu S,Z⟩ rfl λhO h2 hP=>pe ?_;have h3:O1 [b1] G hO:=hg.any.Q h2;have hQ:Zp (Vd ⟨q.ky,q.vr,⟨xa,xm,H,q.p.a⟩,rk,q.kp,rd,q.ds,rr,q.rm⟩):=⟨U,U,U,I.al.one,U,I.mr.one,I.ed.one,Qu V,Qu he,Qu S,Z⟩;refine Qc<|Q6 hP U U<|Qe<|Qj (us:=Vd ⟨q.ky,q.vr,⟨xa,xm,H,q.p.a⟩,rk,q.kp,rd,q.ds,rr,q.rm⟩) (hM.J h3 hz) U U U U hQ λhZ h5 hR=>xe ?_;refine Qk ⟨[.agg (Vd ⟨q.ky,q.vr,⟨xa,xm,H,q.p.a⟩,rk,q.kp,rd,q.ds,rr,q.rm⟩).toArray],⟨⟨_,U,Qn U (hR.at (L:=[]) oe).cells⟩,Z⟩,(hy.O h3 hs).O h5 oa,_,rfl,rfl,λL hL=>?_⟩;have e6:({ G with drawn:=G.drawn+1 }:OX).heap.size=G.heap.size:=rfl
 have ga:=Y.size;have gb:=hf.size;have hh:∀b∈b1::b2::L,b<w4.heap.size:=λb E=>by
  simp only[oK]at E;rcases E with rfl|rfl|E
  ·omega
  ·omega
  have:=hL b E;omega
 have ha:ZH (b1::b2::L) O.heap xa xm H q.p.a:=((hw (b1::b2::L) hh).st (hn.mono oe)).I hg;have hk:QP (b1::b2::L) O.heap rk q.kp:=((Qv.ints V h7 (λb E=>ot (hh b E))).I h1).I hq;have hS:QP (b1::b2::L) O.heap rd q.ds:=(Qv.ints he h8 (λb E=>ot (hh b E))).I hq;have hr:Zm (b1::b2::L) O.heap rr q.rm.length 4 (q.rm.flatMap q4C):=QK S h9 (λb E hbL=>ou (Qi S b E).1 (hh b hbL));have hE:EnA (b1::b2::L) O.heap ⟨q.ky,q.vr,⟨xa,xm,H,q.p.a⟩,rk,q.kp,rd,q.ds,rr,q.rm⟩:=⟨ha,hk,hS,hr⟩;exact((hE.st (h2.mono oe)).st (h5.mono oe)).up (λb E=>.inl (by simp[E]))
theorem Qiq {q:qe}(h0:Kw L w.heap q):
  Q3 prog 49 [.agg (Zr q).toArray] w λr w'=>O1 [] w w'/\∃q':qe,r=.agg (Zr q').toArray/\q'.rp=q.rp/\∀L:LN,(∀b∈L,b<w.heap.size)->Kw L w'.heap q':=by
 have h:=h0.up (L':=[]) oe;have hr:=h.a1.le;have hs:=h.a2.le;have ht:=h.a3.le;refine Zq func49 ?_;refine Qc<|Qe<|QW (us:=Zr q) U λb1 w1 hj hz hu=>Qe<|Qo (us:=[nS,nS,nS]) U λb2 G hk h1 hn=>xe ?_;have ho:=hj.D hk;have Y:=h.I ho;have hf:=hu.I hk;have h3:=hj.size;have hv:=hn.lt;have hd:O1 [] G { G with drawn:=G.drawn+1 }:=O1.C _ _
 refine Qd<|ZI [] [oC 0,oC 1,oC 3,oC 4,oC 6,oC 7,oD 2,oD 5,oD 8,oC 9,oD 10]<|p (QR U)<|pq (λ_ H=>Qr (hf.I H) U U)<|p (QR U)<|pq (λ_ H=>Qr (hf.I H) U U) <|
  p (QR rfl)<|pq (λ_ H=>Qr (hf.I H) U U)<|pk<|xg<|(z7 (Y.a1.I hd) (j7 q.k1)).mono ?_
 rintro ra w5 ⟨hw,I⟩;have J:O1 [] G w5:=hd.D hw;refine⟨J,?_⟩;refine pk<|xg<|(z7 (Y.a2.I J) (j7 q.k2)).mono ?_;rintro rm w6 ⟨hp,O⟩;have S:=J.D hp;refine⟨S,?_⟩;refine pk<|xg<|(z7 (Y.a3.I S) (j7 q.k3)).mono ?_;rintro re T ⟨hg,V⟩;have hh:=S.D hg;refine⟨hh,?_⟩;refine p (λ_=>Qy ⟨xH I,xH O,xH V,Z⟩)<|pkl (hl:=by kernel_rfl)<|Qj (us:=[ra,rm,re]) (hn.I hh) U U U U ⟨Qu I,Qu O,Qu V,Z⟩ λw8 hq hy=>pe ?_;refine Qk ⟨[.agg (Zr ⟨ra,q.k1,rm,q.k2,re,q.k3⟩).toArray],⟨⟨_,U,Qn U (hy.at (L:=[]) oe).cells⟩,Z⟩,(ho.D hh).O hq oa,_,rfl,rfl,λL hL=>?_⟩;have e1:({ G with drawn:=G.drawn+1 }:OX).heap.size=G.heap.size:=rfl
 have h4:=J.size;have h5:=S.size;have hi:∀b∈b2::L,b<G.heap.size:=λb E=>by
  rcases Li.1 E with rfl|E
  ·exact hv
  have:=hL b E;omega
 have ha:Kys (b2::L) T.heap ra q.k1:=((QK I hr (λb E hbL=>ou (Qi I b E).1 (hi b hbL)):Kys (b2::L) w5.heap ra q.k1).I hp).I hg;have hm:Kys (b2::L) T.heap rm q.k2:=(QK O hs (λb E hbL=>ou (Qi O b E).1 (hi b hbL)):Kys (b2::L) w6.heap rm q.k2).I hg;have he:Kys (b2::L) T.heap re q.k3:=QK V ht (λb E hbL=>ou (Qi V b E).1 (hi b hbL));have hA:Kw (b2::L) T.heap ⟨ra,q.k1,rm,q.k2,re,q.k3⟩:=⟨ha,hm,he⟩;exact(hA.st (hq.mono oe)).up (λb E=>.inl (Lj _ E))
theorem Qhp {c:CL}{q:MV}(h0:ZJ L w.heap c)(hq:0<=q.ix)(hk:q.kd=1\/q.kd=2\/q.kd=3)(hr:q.kd=1->q.ix<(c.rq.length:Int))(hx:q.kd=2->q.ix<(c.ex.length:Int))(hs:q.kd=3->q.ix<(c.cs.length:Int)):
  Q3 prog 93 [c.val,.agg #[oE oF q.kd,oE oF q.ix,q.v]] w λr w'=>r=.agg #[oE oF (ZY c.V q.m).1,.string (ZY c.V q.m).2]/\O1 [] w w':=by
 have h:=h0.up (L':=[]) oe;have hb:((q.ix.toNat:Nat):Int)=q.ix:=Int.toNat_of_nonneg hq;refine Zq func93 ?_;refine Qc<|Qe<|QW (us:=c.cells) U λb2 w1 hl h4 ht=>Qe<|QW (us:=[oE oF q.kd,oE oF q.ix,q.v]) U λb3 w2 hc h6 hm=>Qe<|Qo (us:=[oE oF 0,.string .empty]) U λb4 w3 T h7 hn=>xe ?_;have hu:=(hl.D hc).D T;refine Qc<|Qs U (hm.I T) U U<|x (Qy ⟨U,Z⟩)<|Qe<|Qo (us:=[oE oF 0,.string .empty]) U λb5 w4 hv hw hy=>Qe<|Qj (us:=[oE oF q.kd,.string .empty]) hy U U U U oz λw5 hz he=>xe ?_;have V:O1 [] w3 w5:=hv.O hz hw;have ho:=hu.D V;have hf:=((ht.I hc).I T).I V;have Y:=(hm.I T).I V;have hg:=hn.I V;have h8:=hn.lt;have hh:b4∉[b5]:=om
 have h9:=hl.size;have hA:=hc.size;have h5:=h.I ho;have fin:∀(nm:ByteArray) (I w8:OX),(ZY c.V q.m)=(q.kd,nm)->O1 [b5] w5 I->Q9 I.heap b5 75 [oE oF q.kd,.string nm]->O1 [b4] I w8->(Value.agg #[oE oF q.kd,.string nm]=.agg #[oE oF (ZY c.V q.m).1,.string (ZY c.V q.m).2]/\O1 [] w w8):=λnm I w8 e h1 _ h2 =>
  ⟨by rw[e],(ho.O h1 oa).O h2 oa⟩
 refine Qd<|Qc<|Qs U Y U U<|xe<|Qg<|Qc<|x (QY U U)<|Qb<|QX U (λhi=>?_) (λhi=>?_)
 ·have hk1:q.kd=1:=hi;have E:q.ix.toNat<c.rq.length:=by have:=hr hk1;omega
  refine Qw<|Qs U hf U U<|Qs U Y U U<|O4 (g:=QO) (i:=q.ix.toNat) Ys h5.rq.arr U (show Go.Lg.ev _ _=_ from OR (Value.int .i64) hb.symm) E λhp J =>
   x (Zt rfl)<|x (QA (J.fld 0 (.string (c.rq[q.ix.toNat]'E).nm) U) U)<|Q7 U<|Qe<|QE (j:=1) (u:=.string (c.rq[q.ix.toNat]'E).nm) he U U oe rfl λw6 G H=>xe ?_
  refine Qc<|Q6 H U U<|Qe<|Qj (us:=[oE oF q.kd,.string (c.rq[q.ix.toNat]'E).nm]) (hg.J G hh) U U U U oz λI O S=>xe ?_;refine Qk ⟨[.agg #[oE oF q.kd,.string (c.rq[q.ix.toNat]'E).nm]],⟨⟨_,U,Qn U (S.at (L:=[]) oe).cells⟩,Z⟩,fin _ _ _ ?_ G H O⟩;unfold ZY;rw[OQ (show q.m.kd=1 from hk1)];refine Prod.ext U ?_;show((c.rq.map IV.it).getD q.ix.toNat ⟨.empty,KB⟩).nm=_;simp[oP,E,IV.it]
 have hk1:¬q.kd=1:=hi;refine Qc<|x (QY U U)<|Qb<|QX U (λhj=>?_) (λhj=>?_)
 ·have ha:q.kd=2:=hj;have E:q.ix.toNat<c.ex.length:=by have:=hx ha;omega
  refine Qw<|Qs U hf U U<|Qs U Y U U<|O4 (g:=Q8) (i:=q.ix.toNat) Xq h5.ex.arr U (show Go.Lg.ev _ _=_ from OR (Value.int .i64) hb.symm) E λhp J =>
   x (Zt rfl)<|x (QA (J.fld 0 (.string (c.ex[q.ix.toNat]'E).nm) U) U)<|Q7 U<|Qe<|QE (j:=1) (u:=.string (c.ex[q.ix.toNat]'E).nm) he U U oe rfl λw6 G H=>xe ?_
  refine Qc<|Q6 H U U<|Qe<|Qj (us:=[oE oF q.kd,.string (c.ex[q.ix.toNat]'E).nm]) (hg.J G hh) U U U U oz λI O S=>xe ?_;refine Qk ⟨[.agg #[oE oF q.kd,.string (c.ex[q.ix.toNat]'E).nm]],⟨⟨_,U,Qn U (S.at (L:=[]) oe).cells⟩,Z⟩,fin _ _ _ ?_ G H O⟩;unfold ZY;rw[OP (show ¬q.m.kd=1 from hk1),OQ (show q.m.kd=2 from ha)];refine Prod.ext U ?_;show((c.ex.map XV.x).getD q.ix.toNat ⟨.empty,[]⟩).nm=_;simp[oP,E,XV.x]
 have ha:¬q.kd=2:=hj;have h3:q.kd=3:=oa
 have E:q.ix.toNat<c.cs.length:=by have:=hs h3;omega
 refine Qw<|Qs U hf U U<|Qs U Y U U<|O4 (g:=Q5) (i:=q.ix.toNat) Xg h5.cs.arr U (show Go.Lg.ev _ _=_ from OR (Value.int .i64) hb.symm) E λhp J =>
  x (Zt rfl)<|x (QA (J.fld 0 (.string (c.cs[q.ix.toNat]'E).nm) U) U)<|Q7 U<|Qe<|QE (j:=1) (u:=.string (c.cs[q.ix.toNat]'E).nm) he U U oe rfl λw6 G H=>xe ?_
 refine Qc<|Q6 H U U<|Qe<|Qj (us:=[oE oF q.kd,.string (c.cs[q.ix.toNat]'E).nm]) (hg.J G hh) U U U U oz λI O S=>xe ?_;refine Qk ⟨[.agg #[oE oF q.kd,.string (c.cs[q.ix.toNat]'E).nm]],⟨⟨_,U,Qn U (S.at (L:=[]) oe).cells⟩,Z⟩,fin _ _ _ ?_ G H O⟩;unfold ZY;rw[OP (show ¬q.m.kd=1 from hk1),OP (show ¬q.m.kd=2 from ha)];refine Prod.ext U ?_;show((c.cs.map KV.k).getD q.ix.toNat ⟨.empty,[],0⟩).nm=_;simp[oP,E,KV.k]
theorem Qeq {v:OY}{a:Addr}(h:Zm L H v n sz cs)(e:v=.slice (some a) n cap):At L H a cs:=by
 rcases h.2.2 with⟨E,_⟩|⟨a',cap',E,_,G⟩
 ·rw[E]at e;cases e
 rw[E]at e;simp only[Value.slice.injEq,Option.some.injEq]at e;rw[<-e.1];exact G
section
variable {Q:Exit->Fr->OX->Prop}
end
section
variable {pS:String}
theorem QeQ {e bys:Nat}[h:Sl P t e sz bys z]{x E G H:OZ}{k:IntKind}{m:Nat}(hx:ev f x=.slice (some ⟨b,0,none⟩) n cap)(hl:ev f E=.int k lo)(I:ev f G=.int k hi)(J:ev f H=.int k m)(Y:lo<=hi)(h2:hi<=m)(h3:m<=cap):
  (execOp (ev f) ⟨d,.slice t x (some E) (some G) (some H),ty,pS,af,gd⟩).run P w=.ok (.value (.slice (if m=lo then some ⟨b,0,none⟩else some ((⟨b,0,none⟩:Addr).add (lo*sz))) (hi - lo) (m - lo))) w:=by
 obtain⟨i,O,_,S,_⟩:=Sl.info h;have e1:(Instr.sliceBound (.int k m) cap .slice3Acap).run P w=.ok m w:=ZK h3;have e2:(Instr.sliceBound (.int k hi) m .slice3B).run P w=.ok hi w:=ZK h2;have T:(Instr.sliceBound (.int k lo) hi .slice3C).run P w=.ok lo w:=ZK Y;by_cases V:m=lo
 ·subst V;simp[execOp,hx,hl,I,J,Instr.sliceAt,Instr.slice,run_underlying h.u,Instr.sliceBounds,e1,e2,T,sizeOf,typeInfo,O,S]
 simp[execOp,hx,hl,I,J,Instr.sliceAt,Instr.slice,run_underlying h.u,Instr.sliceBounds,e1,e2,T,sizeOf,typeInfo,O,S,V]
theorem QeP {e bys:Nat}[h:Sl P t e sz bys z]{x E G:OZ}{k:IntKind}(hx:ev f x=.slice (some ⟨b,0,none⟩) n cap)(hl:ev f E=.int k lo)(H:ev f G=.int k hi)(I:lo<=hi)(J:hi<=cap)(V:lo<cap):
  (execOp (ev f) ⟨d,.slice t x (some E) (some G) none,ty,pS,af,gd⟩).run P w=.ok (.value (.slice (some ⟨b,lo*sz,none⟩) (hi - lo) (cap - lo))) w:=by
 obtain⟨i,O,_,S,_⟩:=Sl.info h;have e1:(Instr.sliceBound (.int k hi) cap .sliceAcap).run P w=.ok hi w:=ZK J;have e2:(Instr.sliceBound (.int k lo) hi .sliceB).run P w=.ok lo w:=ZK I;have T:¬cap=lo:=oa
 simp[execOp,hx,hl,H,Instr.sliceAt,Instr.slice,run_underlying h.u,Instr.sliceBounds,e1,e2,sizeOf,typeInfo,O,S,T,Addr.add];exact λe=>e.symm
theorem QmC {e bys:Nat}[h:Sl P t e sz bys z]{s:OZ}{cur:LV}(H:Q9 w.heap g e cur)(J:ev f s=.slice (some ⟨g,0,none⟩) n cap)(O:cur.length=cap*sz)
  {a:Addr} {m c:Nat}  (S:ev f y=.slice (some a) m c) (hl:news.length=m*sz)  (T:At L w.heap a news) (V:∀u∈news,u.oneCell'=true) (I:n+m<=cap)
  (hK:∀w',O1 [g] w w'->Q9 w'.heap g e (cur.take (n*sz)++news++cur.drop (n*sz+news.length))->K (QT f d (.slice (some ⟨g,0,none⟩) (n+m) cap)) w'):
  XO P ⟨d,.call ⟨.builtin .append,#[s,y],#[t,t]⟩,ty,pS,af,gd⟩ f w K:=by
 obtain⟨i,hi,hz,E,hb⟩:=Sl.info h;have Y:n*i.size+news.length<=cur.toArray.size:=by
  rw[LR,O,hl,E,<-Mo];exact LY _ I
 have G:=run_append_room (P:=P) w t ty e i h.u hi g n cap cur.toArray H a m c news (by rw[E];exact hl) T.cells V I Y;rw[E]at G;have ha:(execOp (ev f) ⟨d,.call ⟨.builtin .append,#[s,y],#[t,t]⟩,ty,pS,af,gd⟩).run P w=.ok (.value (.slice (some ⟨g,0,none⟩) (n+m) cap)) (w.setRow g (cur.take (n*sz)++news++cur.drop (n*sz+news.length)).toArray):=by
  simp[execOp,resolve,invoke,builtin,J,S]at G ⊢;simp[G]
 exact xv ha (hK _ (O1.setRow _ _ _) (XJ H))
end
theorem QlW {pS:String}[h1:X7 P t]{x:OZ}{base k:Nat}{u:OY}
  (h:w.ownsRow base T sz (.slice (some ⟨g,0,none⟩) n cap) n cs) (hx:ev f x=.pointer (some ⟨g,k,none⟩)) (G:ev f y=u) (V:k<n*sz) (H:u.oneCell'=true)
  (hK:∀w',O1 [g] w w'->w'.ownsRow base T sz (.slice (some ⟨g,0,none⟩) n cap) n (cs.set k u)->K (QT f d undef) w'):XO P ⟨d,.store t x y,ty,pS,af,gd⟩ f w K:=by
 obtain⟨I,cur,J,hl,E⟩:=Kj h;have Y:n*sz<=cap*sz:=LY _ I;refine QE (j:=k) J hx G oa H λw' O S=>hK w' O ?_;refine V7 h (Lv _) S (by rw[Me];exact hl) ?_ (by rw[Me,<-E,Ly];omega);rw[List.take_set,E]
def Fre {α:Type}(E:LN->Array Obj->α->Prop)(M:Nat)(H:xu)(q:α):Prop:=∀L:LN,(∀b∈L,b<M)->E L H q
theorem Fre.low {E:LN->Array Obj->α->Prop}[Mm E]{q:α}(h:Fre E M w.heap q)(H:O1 X w w')(I:∀b∈X,b<M):Fre E M w'.heap q:=λL J =>
 Mm.mono (Mm.st (L:=X++L) (h _ λb G=>(Lc.1 G).elim (I b) (J b)) (H.mono λ_ G=>Lc.2 (.inl G))) λ_ G=>Lc.2 (.inr G)
theorem Fre.I {E:LN->Array Obj->α->Prop}[Mm E]{q:α}(h:Fre E M w.heap q)(G:O1 [] w w'):Fre E M w'.heap q:=h.low G λ_ H=>by cases H
theorem Qf7 {q:XV}(h:q.v.oneCell'=true):∀u∈Q8 q,u.oneCell'=true:=by
 intro u E;simp only[Q8,oK,oI,or_false]at E;rcases E with rfl|rfl
 ·rfl
 exact h
theorem Qhn {q:KV}(h:q.v.oneCell'=true):∀u∈Q5 q,u.oneCell'=true:=by
 intro u E;simp only[Q5,oK,oI,or_false]at E;rcases E with rfl|rfl|rfl
 ·rfl
 ·exact h
 rfl
theorem zM {α:Type}{g:α->LV}{sz:Nat}(G:∀x,(g x).length=sz):∀(l:List α) (i j:Nat) (u:OY) (E:α) (h:i<l.length),j<sz->g E=(g (l[i]'h)).set j u->(l.flatMap g).set (i*sz+j) u=(l.set i E).flatMap g
 | [],i,_,_,_,h,_,_=>by simp at h
 | a::l,0,j,u,E,h,H,e=>by
  have I:g E=(g a).set j u:=e;rw[OK,LQ,List.set_cons_zero,LG,LG,List.set_append_left _ _ (by rw[G a];exact H),I]
 | a::l,i+1,j,u,E,h,H,e=>by
  have J:(i+1)*sz+j=(g a).length+(i*sz+j):=by rw[G a,Nat.succ_mul];omega
  rw[J,NC,LG,LG,List.set_append_right _ _ oa,M8,zM G l i j u E (oy h) H e]
theorem zu {f:α->β}{l:List α}(hi:i<l.length){q:α}(h:f q=f (l[i]'hi)):(l.set i q).map f=l.map f:=by
 rw[OL,h];have:f (l[i]'hi)=(l.map f)[i]'(by rw[Lh];exact hi):=by rw[LM]
 rw[this,List.set_getElem_self]
structure CpI (N:Nat)(w':OX)(c:CL)(b3:Nat)(re rx rk:OY):Prop where
 b:N<=b3
 B:Q9 w'.heap b3 44 [re,nS,nS,rx,rk]
 e:w'.ownsRow N 183 5 re c.ev.length (c.ev.flatMap Zw)
 x:w'.ownsRow N 116 2 rx c.ex.length (c.ex.flatMap Q8)
 k:w'.ownsRow N 121 3 rk c.cs.length (c.cs.flatMap Q5)
 d1:∀b∈ob re,b≠b3/\b∉ob rx/\b∉ob rk
 d2:∀b∈ob rx,b≠b3/\b∉ob rk
 d3:∀b∈ob rk,b≠b3
theorem Qnu {c:CL}(h0:ZJ L w.heap c)(hn1:c.co.length<=1000)(hn2:c.rq.length<=1000):
  Q3 prog 44 [c.val] w λr w'=>O1 [] w w'/\QfV w.heap.size w'.heap r c.V:=by
 have h:=h0.up (L':=[]) oe;have m8:=h.ex.arr.le;have m9:=h.cs.arr.le;have pa:=h.ev.arr.le;refine Zq func44 ?_;refine Qc<|Qe<|QW (us:=c.cells) U λb1 w1 pc hb1 k0=>Qe<|Qo (us:=Z3) U λb2 w2 k4 hb2 k5=>xe ?_;have k6:=pc.D k4;have hl1:=k0.lt;have pd:=k5.lt;have h2:=h.I k6;have gg:=k0.I k4;have pf:O1 [] w2 { w2 with drawn:=w2.drawn+1 }:=O1.C _ _
 have pg:∀u∈c.ex.flatMap Q8,u.oneCell'=true:=λu hu=>by
  obtain⟨q,S,hu⟩:=Ma.1 hu;exact Qf7 (h.ex.each q S).one u hu
 have ph:∀u∈c.cs.flatMap Q5,u.oneCell'=true:=λu hu=>by
  obtain⟨q,S,hu⟩:=Ma.1 hu;exact Qhn (h.cs.each q S).one u hu
 refine Za (α:=Nat×OY×OY×OY) [(10,19),(3,3)] (λz=>[(3,.pointer (some ⟨z.1,0,none⟩))]) (λz w'=>O1 [] w2 w'/\CpI w2.heap.size w' c z.1 z.2.1 z.2.2.1 z.2.2.2) ol ?_ ?_
 ·refine Kc (α:=OY×OY×OY) (O1 [] w2) [oC 0,oC 1,oC 3,oC 4,oC 6,oC 7] [oD 2,oD 5,oD 8,oC 9] 10 3 [oD 11] []
   [(10,19)] [(12,12),(15,15),(18,19)] (λz=>[(19,.agg #[z.1,nS,nS,z.2.1,z.2.2])])
   (λz own w'=>(w'.ownsRow w2.heap.size 183 5 z.1 c.ev.length (c.ev.flatMap Zw)/\w'.ownsRow w2.heap.size 116 2 z.2.1 c.ex.length (c.ex.flatMap Q8)/\w'.ownsRow w2.heap.size 121 3 z.2.2 c.cs.length (c.cs.flatMap Q5)) /\
    (∀b∈ob z.1,b∈own/\b∉ob z.2.1/\b∉ob z.2.2)/\(∀b∈ob z.2.1,b∈own/\b∉ob z.2.2)/\∀b∈ob z.2.2,b∈own)
   (λv w'=>∃b,v=.pointer (some ⟨b,0,none⟩)/\w2.heap.size<=b/\Q9 w'.heap b 44 Z3) mixed ol od ol U pf oe ?_ ?_ ?_ ?_
  ·rintro v own wa wb ⟨b,rfl,E,hB⟩ hs hn;exact⟨b,U,E,hB.J hs (hn b oq)⟩
  ·rintro z own wa wb ⟨⟨h1,h2,h3⟩,h4⟩ hs;exact⟨⟨Qq h1 hs,Qq h2 hs,Qq h3 hs⟩,h4⟩
  ·rintro⟨re,rx,rk⟩ g own wz v ⟨⟨i1,i2,i3⟩,i4,i5,i6⟩ pj ⟨O,rfl,k7,pm⟩ pn;simp only[]at i1 i2 i3 i4 i5 i6;have gh:=(pn O oq).1;refine pkl (hl:=by kernel_rfl)<|Qj (us:=[re,nS,nS,rx,rk]) pm U U U U ⟨Qu i1,U,U,Qu i2,Qu i3,Z⟩ λw8 h9 po=>pe ?_;have nn:∀b,b∈own->b∉[O]:=λb E H=>gh (by rw[<-Lb.1 H];exact E);refine⟨(O,re,rx,rk),La,pj.O h9 k7,k7,po,Qf i1 h9 (λb E=>nn b (i4 b E).1),Qf i2 h9 (λb E=>nn b (i5 b E).1),Qf i3 h9 (λb E=>nn b (i6 b E)),λb E=>⟨λe=>gh (by rw[show O=b from e.symm];exact(i4 b E).1),(i4 b E).2⟩,λb E=>⟨λe=>gh (by rw[show O=b from e.symm];exact(i5 b E).1),(i5 b E).2⟩,λb E e=>gh (by rw[show O=b from e.symm];exact i6 b E)⟩
  refine p (QR U)<|pq (λ_ I=>Qr (gg.I I) U U)<|p (QR U)<|pq (λ_ I=>Qr (gg.I I) U U) <|
   p (QR rfl)<|pq (λ_ I=>Qr (gg.I I) U U)<|pe ⟨λg wf k8=>Qo (us:=Z3) U λb wf' k9 ma mf=>⟨k9,k8.D k9,⟨b,U,LH k8.size ma,mf⟩,λx hx=>?_⟩,?_⟩
  ·have pp:x=b:=by
    have pu:x∈[b]:=hx;simpa using pu
   subst pp;exact⟨ma,mf.lt⟩
  refine f2k λx1 p1 c1=>xg<|(VK (h2.ev.I c1).arr).mono ?_;rintro re y1 ⟨mg,gr⟩;refine⟨c1.D mg,UF x1.heap.size y1.heap.size,mg.any,λb E=>.inr (ZA.1 E),?_⟩;refine f2k λx2 p2 c2=>xg<|(QiA (h2.ex.I c2).arr pg).mono ?_;rintro rx y2 ⟨gi,gs⟩;refine⟨c2.D gi,UF x1.heap.size y1.heap.size++UF x2.heap.size y2.heap.size,gi.any,λb E=>(Lc.1 E).imp id λE=>ZA.1 E,?_⟩;refine f2k λx3 p3 c3=>xg<|(QiD (h2.cs.I c3).arr ph).mono ?_;rintro rk y3 ⟨gj,gt⟩;refine⟨c3.D gj,(UF x1.heap.size y1.heap.size++UF x2.heap.size y2.heap.size)++UF x3.heap.size y3.heap.size,gj.any,λb E=>(Lc.1 E).imp id λE=>ZA.1 E,?_⟩;refine f2p (λ_=>Qy ⟨xH gr,xH gs,xH gt,Z⟩)<|f2e ?_;have e1:=c1.size;have e2:=c2.size;have e3:=c3.size;have e12:=p2.size;have e23:=p3.size;have g1:=Qi gr;have g2:=Qi gs;have g3:=Qi gt;have f2:=gi.size;refine⟨(re,rx,rk),La,⟨Zy (Qq (Qq (Qq (Qq gr p2) gi) p3) gj) e1,Zy (Qq (Qq gs p3) gj) e2,Zy gt e3⟩,λb E=>⟨?_,λH=>?_,λH=>?_⟩,λb E=>⟨?_,λH=>?_⟩,λb E=>?_⟩
  ·exact Lc.2 (.inl (Lc.2 (.inl (ZA.2 (g1 b E)))))
  ·have:=g1 b E;have:=g2 b H;omega
  ·have:=g1 b E;have:=g3 b H;omega
  ·exact Lc.2 (.inl (Lc.2 (.inr (ZA.2 (g2 b E)))))
  ·have:=g2 b E;have:=g3 b H;omega
  exact Lc.2 (.inr (ZA.2 (g3 b E)))
 rintro⟨O,re,rx,rk⟩ g w3 ⟨gk,T⟩;simp only[]at T;have gu:=k6.D gk;have h3:=h.I gu;have mh:=gg.I gk;have hz3:=gk.size;have mi:=T.B.lt;have gv:=Qi T.x;have gw:=Qi T.k;have pw:b1≠O:=by have:=T.b;omega
 have mj:b2≠O:=by have:=T.b;omega
 have mn:∀b∈O::(ob rx++ob rk),w.heap.size<=b/\b<w3.heap.size:=λb E=>by
  rcases Li.1 E with rfl|E
  ·exact⟨ot T.b,mi⟩
  rcases Lc.1 E with E|E
  ·have:=gv b E;omega
  have:=gw b E;omega
 have mo:ZJ (O::(ob rx++ob rk)) w3.heap c:=(h0.up (λb E=>.inr (mn b E).1)).I gu;have gy:∀b∈ob rx,b<w3.heap.size:=λb E=>(gv b E).2;have gl:∀b∈ob rk,b<w3.heap.size:=λb E=>(gw b E).2;have m3x:O∉ob rx:=λE=>(T.d2 O E).1 U;have m3k:O∉ob rk:=λE=>T.d3 O E U;refine Qd<|Qc<|Qs U mh U U<|QI h3.co.arr U<|Qa<|xe<|Qg<|QD (α:=Nat×OY×List IV) [(5,5),(23,38)] (λz=>[(23,oE oF z.1)]) (λz w'=>z.1<=c.co.length/\O1 [O] w3 w'/\Q9 w'.heap O 44 [re,z.2.1,nS,rx,rk]/\IvR w3.heap.size w' z.2.1 z.2.2/\z.2.2.map IV.it=(c.co.take z.1).map IV.it) (λz=>c.co.length - z.1) ol (0,nS,[]) La ⟨Lo _,O1.Z _ _,T.B,Yk.nil,U⟩ ?_;rintro⟨i,voA,lA⟩ g w4 ⟨mq,hg,gz,gm,hG⟩;simp only[]at mq gz gm hG;refine Qc<|Q0 U U<|xe<|Qd<|QH U (λgn=>?_) (λgn=>?_)
 rotate_left
 ·have J:i<c.co.length:=by have hN:(i:Int)<(c.co.length:Int):=gn;omega
  have hO:c.co.take (i+1)=c.co.take i++[c.co[i]'J]:=Lm J;have pz:lA.length=i:=by have:=OR oO hG;rw[Lh,Lh,Ly]at this;omega
  have V:=Lk J;have h4:=mo.st (hg.mono oe);have g0:=hg.size;refine Qh<|Qd<|Qg<|Qc<|O4 (g:=QO) (i:=i) Ys h4.co.arr U U J λp0 hP=>?_;refine Zo (c.co[i]'J) λq S=>?_;rw[S]at hP hO V;have hr:=h4.co.each q V;have hQ:=h4.co.nm q V;refine x (Qx hP U U)<|Qe<|Qo (us:=[.string .empty,nS,oE oF 0,nS,nS]) U λb5 p4 g4 g5 g6=>Qe<|Qj (us:=QO q) g6 U U U U ⟨U,hr.al.one,U,hr.mr.one,hr.ed.one,Z⟩ λY g7 hR=>xe ?_;have hh:O1 [] w4 Y:=g4.O g7 g5;have p5:=hh.size;have hS:=gm.I hh;have hT:=gz.I hh;have hge:=Qi hS.own;have hU:=Qi gm.own;have n3v:O∉ob voA:=λE=>ot (hge O E)
  have n5v:b5∉ob voA:=λE=>ot (hU b5 E)
  have hV:O1 [] Y { Y with drawn:=Y.drawn+1 }:=O1.C _ _
  refine ZI (ob voA) (Xx 0 12 [6,8,9,11])<|p (QR U)<|pq (λ_ I=>Qr (hT.J I n3v) U U)<|p (QR U)<|pq (λ_ I=>Qr (hR.J I n5v) U U) <|
   p (QR rfl)<|pq (λ_ I=>Zs (us:=[q.p.va,oE oF q.p.a.st,q.p.vm,q.p.ve]) (hR.J I n5v) U U U)<|pk<|xg<|(QcM ((hr.I hh).I hV)).mono ?_
  rintro _ p6 ⟨g8,xa,xm,ha,rfl,hA⟩;have ht:=hV.D g8;have p7:=ht.size;have g9:=hA [] oe;refine⟨ht.any,?_⟩;refine p (λ_=>Zc [(0,[.string q.nm]),(1,[xa,oE oF q.p.a.st,xm,ha])] ⟨U,U,U,U,Z⟩)<|pk<|QB (us:=[QO ⟨q.nm,⟨xa,xm,ha,q.p.a⟩⟩]) U U og (show 1*5<=1000000 by omega) oz λp8 ka hv p9 kb=>⟨(ht.D hv).any,?_⟩;have hi:=ht.D hv;have hW:=hS.I hi;have kc:jG [] ka.heap ⟨q.nm,⟨xa,xm,ha,q.p.a⟩⟩:=⟨g9.I hv,hQ⟩;refine pk<|Zb (m:=1) (news:=QO ⟨q.nm,⟨xa,xm,ha,q.p.a⟩⟩) (L:=[]) hW.own U U U (kb.at oe) (Zp.all kc.ones) oa (ot hi.size) λv16 ke hX hw kf=>⟨(hi.any (L:=ob voA)).Q hw,?_⟩;have qc:({ Y with drawn:=Y.drawn+1 }:OX).heap.size=Y.heap.size:=rfl
  have kg:IvR w3.heap.size ke v16 (lA++[⟨q.nm,⟨xa,xm,ha,q.p.a⟩⟩]):=hW.app (λL hL=>⟨(hA L (λb E=>by
   rcases hL b E with h|h
   ·omega
   have:=hge b h;omega)).I hv,hQ⟩) hX hw kf
  refine p (QR U)<|pkl (hl:=by kernel_rfl)<|QE (j:=1) (u:=v16) ((hT.I hi).J hw n3v) U U oe (Qu hX) λqo hY kh=>pe ?_;refine Qw<|QS U U<|Qa<|xe<|⟨(i+1,v16,lA++[⟨q.nm,⟨xa,xm,ha,q.p.a⟩⟩]),oh,La,J,?_,kh,kg.low hY (λb E=>by rw[Lb.1 E];omega),?_⟩
  ·exact((hg.D (hh.D hi)).then hw (λb E=>.inr (ot (hU b E)))).Q hY
  simp only[];rw[hO,Lt,Lt,hG];rfl
 refine Qz ?_;have ms:c.co.length<=i:=by have hN:¬(i:Int)<(c.co.length:Int):=gn;omega
 rw[Lr ms]at hG;clear mq ms gn;have ki:=mo.st (hg.mono oe);have qr:=hg.size;have q0:=mh.J hg (oy pw);have q1:=Qf T.x hg (λb E H=>m3x (Lb.1 H ▸ E));have q2:=Qf T.k hg (λb E H=>m3k (Lb.1 H ▸ E));have q3:=Qf T.e hg (λb E H=>(T.d1 b E).1 (Lb.1 H));have q4:=(k5.I gk).J hg (oy mj);refine Qd<|Qc<|Qs U q0 U U<|QI ki.rq.arr U<|Qa<|xe<|Qg<|QD (α:=Nat×OY×List IV) [(7,7),(42,57)] (λz=>[(42,oE oF z.1)]) (λz w'=>z.1<=c.rq.length/\O1 [O] w4 w'/\Q9 w'.heap O 44 [re,voA,z.2.1,rx,rk]/\IvR w4.heap.size w' z.2.1 z.2.2/\z.2.2.map IV.it=(c.rq.take z.1).map IV.it) (λz=>c.rq.length - z.1) ol (0,nS,[]) La ⟨Lo _,O1.Z _ _,gz,Yk.nil,U⟩ ?_;rintro⟨i,voB,lB⟩ g w5 ⟨mt,hk,hZ,hH,hJ⟩;simp only[]at mt hZ hH hJ;refine Qc<|Q0 U U<|xe<|Qd<|QH U (λgo=>?_) (λgo=>?_)
 rotate_left
 ·have J:i<c.rq.length:=by have hN:(i:Int)<(c.rq.length:Int):=go;omega
  have hO:c.rq.take (i+1)=c.rq.take i++[c.rq[i]'J]:=Lm J;have pz:lB.length=i:=by have:=OR oO hJ;rw[Lh,Lh,Ly]at this;omega
  have V:=Lk J;have h4:=ki.st (hk.mono oe);have g0:=hk.size;refine Qh<|Qd<|Qg<|Qc<|O4 (g:=QO) (i:=i) Ys h4.rq.arr U U J λp0 hP=>?_;refine Zo (c.rq[i]'J) λq S=>?_;rw[S]at hP hO V;have hr:=h4.rq.each q V;have hQ:=h4.rq.nm q V;refine x (Qx hP U U)<|Qe<|Qo (us:=[.string .empty,nS,oE oF 0,nS,nS]) U λb5 p4 g4 g5 g6=>Qe<|Qj (us:=QO q) g6 U U U U ⟨U,hr.al.one,U,hr.mr.one,hr.ed.one,Z⟩ λY g7 hR=>xe ?_;have hh:O1 [] w5 Y:=g4.O g7 g5;have p5:=hh.size;have hS:=hH.I hh;have hT:=hZ.I hh;have hge:=Qi hS.own;have hU:=Qi hH.own;have n3v:O∉ob voB:=λE=>ot (hge O E)
  have n5v:b5∉ob voB:=λE=>ot (hU b5 E)
  have hV:O1 [] Y { Y with drawn:=Y.drawn+1 }:=O1.C _ _
  refine ZI (ob voB) (Xx 0 12 [6,8,9,11])<|p (QR U)<|pq (λ_ I=>Qr (hT.J I n3v) U U)<|p (QR U)<|pq (λ_ I=>Qr (hR.J I n5v) U U) <|
   p (QR rfl)<|pq (λ_ I=>Zs (us:=[q.p.va,oE oF q.p.a.st,q.p.vm,q.p.ve]) (hR.J I n5v) U U U)<|pk<|xg<|(QcM ((hr.I hh).I hV)).mono ?_
  rintro _ p6 ⟨g8,xa,xm,ha,rfl,hA⟩;have ht:=hV.D g8;have p7:=ht.size;have g9:=hA [] oe;refine⟨ht.any,?_⟩;refine p (λ_=>Zc [(0,[.string q.nm]),(1,[xa,oE oF q.p.a.st,xm,ha])] ⟨U,U,U,U,Z⟩)<|pk<|QB (us:=[QO ⟨q.nm,⟨xa,xm,ha,q.p.a⟩⟩]) U U og (show 1*5<=1000000 by omega) oz λp8 ka hv p9 kb=>⟨(ht.D hv).any,?_⟩;have hi:=ht.D hv;have hW:=hS.I hi;have kc:jG [] ka.heap ⟨q.nm,⟨xa,xm,ha,q.p.a⟩⟩:=⟨g9.I hv,hQ⟩;refine pk<|Zb (m:=1) (news:=QO ⟨q.nm,⟨xa,xm,ha,q.p.a⟩⟩) (L:=[]) hW.own U U U (kb.at oe) (Zp.all kc.ones) oa (ot hi.size) λv16 ke hX hw kf=>⟨(hi.any (L:=ob voB)).Q hw,?_⟩;have qc:({ Y with drawn:=Y.drawn+1 }:OX).heap.size=Y.heap.size:=rfl
  have kg:IvR w4.heap.size ke v16 (lB++[⟨q.nm,⟨xa,xm,ha,q.p.a⟩⟩]):=hW.app (λL hL=>⟨(hA L (λb E=>by
   rcases hL b E with h|h
   ·omega
   have:=hge b h;omega)).I hv,hQ⟩) hX hw kf
  refine p (QR U)<|pkl (hl:=by kernel_rfl)<|QE (j:=2) (u:=v16) ((hT.I hi).J hw n3v) U U oe (Qu hX) λqo hY kh=>pe ?_;refine Qw<|QS U U<|Qa<|xe<|⟨(i+1,v16,lB++[⟨q.nm,⟨xa,xm,ha,q.p.a⟩⟩]),oh,La,J,?_,kh,kg.low hY (λb E=>by rw[Lb.1 E];omega),?_⟩
  ·exact((hk.D (hh.D hi)).then hw (λb E=>.inr (ot (hU b E)))).Q hY
  simp only[];rw[hO,Lt,Lt,hJ];rfl
 refine Qz ?_;have mu:c.rq.length<=i:=by have hN:¬(i:Int)<(c.rq.length:Int):=go;omega
 rw[Lr mu]at hJ;clear mt mu go;have mv:=ki.st (hk.mono oe);have hzB:=hk.size;have hH:=Yk.base hH qr;have q6:=gm.low hk (λb E=>by rw[Lb.1 E];exact mi);have mw:=Qf q1 hk (λb E H=>m3x (Lb.1 H ▸ E));have za:=Qf q2 hk (λb E H=>m3k (Lb.1 H ▸ E));have zb:=Qf q3 hk (λb E H=>(T.d1 b E).1 (Lb.1 H));have zv:=q4.J hk (oy mj);refine Qd<|Qc<|Qs U hZ U U<|QI (QK (L:=[]) mw (by exact m8) oe) rfl<|Qa<|xe<|Qg<|QD (α:=Nat×List XV) [(8,8),(61,76)] (λz=>[(61,oE oF z.1)]) (λz w'=>(z.1<=c.ex.length/\z.2.length=c.ex.length)/\O1 (ob rx) w5 w'/\w'.ownsRow w2.heap.size 116 2 rx z.2.length (z.2.flatMap Q8)/\z.2.map XV.x=c.ex.map XV.x/\(∀j (G:j<z.2.length),j<z.1->Fre XvA w3.heap.size w'.heap (z.2[j]'G))/\∀j (G:j<z.2.length) (hp:j<c.ex.length),z.1<=j->z.2[j]'G=c.ex[j]'hp)
  (λz=>c.ex.length - z.1) ol (0,c.ex) La ⟨⟨Lo _,U⟩,O1.Z _ _,mw,U,λj G ho=>OS ho (Na j),λj G hp _=>U⟩ ?_
 rintro⟨i,lx⟩ g w6 ⟨⟨z0,my⟩,he,hK,kj,kk,kn⟩;simp only[]at z0 my hK kj kk kn;refine Qc<|Q0 U U<|xe<|Qd<|QH U (λmz=>?_) (λmz=>?_)
 rotate_left
 ·have hy:i<c.ex.length:=by have hN:(i:Int)<(c.ex.length:Int):=mz;omega
  have J:i<lx.length:=oa
  have hge:=Qi hK;have g0:=he.size;obtain⟨gx,capx,eg⟩:=XN hK oa;have ko:ob rx=[gx]:=by rw[eg];rfl
  have ga:=hK;rw[eg]at ga;have gb:=hZ.J he m3x;have hz:=kn i J hy (Lv _);have V:=Lk hy;have hD:=((mv.st (he.mono (λb E=>Lj _ (Lc.2 (.inl E))))).ex.each _ V).up (L':=[]) oe;have z1:=QK (L:=[]) hK oa oe;refine Qh<|Qd<|Qg<|Qm<|Qb<|Zo (c.ex[i]'hy) λq S=>?_;rw[S]at hz V hD;have hd:O1 [] w6 { w6 with drawn:=w6.drawn+1 }:=O1.C _ _
  refine ZI [] (Xx 0 13 [9,12])<|p (QR U)<|pq (λ_ I=>Qr (gb.I I) U U)<|p QF<|p (QR U)<|pq (λ_ I=>Qr (gb.I I) U U) <|
   p QF<|Go.Lg.pig (g:=Q8) (i:=i) U Xq z1 U U J λz2 kq=>p (λ_=>Zt U)<|pq (λ_ I=>QA ((kq.fld 1 q.v (by rw[hz];rfl)).I I) U) <|
   pk<|xg<|(jo (hD.I hd)).mono ?_
  rintro rv w9 ⟨kr,hE⟩;have h6:O1 [] w6 w9:=hd.D kr;refine⟨h6,?_⟩;refine p (λ_=>Zv (i:=i) eg U J)<|p (QR U)<|pkl (hl:=by kernel_rfl)<|QlW (k:=0+i*2+1) (u:=rv) (Qq ga h6) U U (by have:(i+1)*2<=lx.length*2:=LY _ J;omega) (Qu hE) λz3 h7 hF =>
   pe ?_
  rw[<-ko]at h7;rw[<-eg]at hF;have kt:=zM (g:=Q8) Xq lx i 1 rv ⟨q.nm,rv,q.ls⟩ J og (by rw[hz];rfl);rw[show 0+i*2+1=i*2+1 by omega,kt]at hF;refine Qw<|QS U U<|Qa<|xe ?_;have gc:=gy;refine⟨(i+1,lx.set i ⟨q.nm,rv,q.ls⟩),oh,La,⟨hy,by simp only[Om];exact my⟩,(he.D h6).Q h7,by simp only[Om];exact hF,?_,λj G ho=>?_,λj G hp ho=>?_⟩
  ·simp only[];rw[zu J (by rw[hz];rfl),kj]
  ·simp only[Om]at G;simp only[]at ho ⊢;rw[M1];split
   ·refine Fre.low (w:=w9) ?_ h7 gc;intro L hL;exact⟨QK hE (ot hD.le) (λb E hbL=>by have h1:=(Qi hE b E).1;have h2:=hL b hbL;have h3:w3.heap.size<=w6.heap.size:=oa;have h4:({ w6 with drawn:=w6.drawn+1 }:OX).heap.size=w6.heap.size:=rfl;omega),h.ex.nm q V⟩
   rename_i z4;exact((kk j G oa).I h6).low h7 gc
  simp only[Om]at G;simp only[]at ho ⊢;rw[List.getElem_set_ne oa];exact kn j G hp oa
 refine Qz ?_;have z5:=mv.st (he.mono (λb E=>Lj _ (Lc.2 (.inl E))));have hzC:=he.size;have hRA6:=q6.low he gy;have hRB6:=hH.low he gy;have m2:=Qf za he (λb E H=>(T.d2 b H).2 E);have he6:=Qf zb he (λb E H=>(T.d1 b E).2.1 H);have ku:=hZ.J he m3x;have m2x:b2∉ob rx:=λE=>ot (gv b2 E)
 have m2k:b2∉ob rk:=λE=>ot (gw b2 E)
 have hB26:=zv.J he m2x;refine Qd<|Qc<|Qs U ku U U<|QI (QK (L:=[]) m2 (by exact m9) oe) rfl<|Qa<|xe<|Qg<|QD (α:=Nat×List KV) [(9,9),(80,95)] (λz=>[(80,oE oF z.1)]) (λz w'=>(z.1<=c.cs.length/\z.2.length=c.cs.length)/\O1 (ob rk) w6 w'/\w'.ownsRow w2.heap.size 121 3 rk z.2.length (z.2.flatMap Q5)/\z.2.map KV.k=c.cs.map KV.k/\(∀j (G:j<z.2.length),j<z.1->Fre KvA w3.heap.size w'.heap (z.2[j]'G))/\∀j (G:j<z.2.length) (hp:j<c.cs.length),z.1<=j->z.2[j]'G=c.cs[j]'hp)
  (λz=>c.cs.length - z.1) ol (0,c.cs) La ⟨⟨Lo _,U⟩,O1.Z _ _,m2,U,λj G ho=>OS ho (Na j),λj G hp _=>U⟩ ?_
 rintro⟨i,lk⟩ g w7 ⟨⟨hiD,m3⟩,hf,h8,kv,gp,kw⟩;simp only[]at hiD m3 h8 kv gp kw;refine Qc<|Q0 U U<|xe<|Qd<|QH U (λm4=>?_) (λm4=>?_)
 rotate_left
 ·have hy:i<c.cs.length:=by have hN:(i:Int)<(c.cs.length:Int):=m4;omega
  have J:i<lk.length:=oa
  have hge:=Qi h8;have g0:=hf.size;obtain⟨gx,capx,eg⟩:=XN h8 oa;have ko:ob rk=[gx]:=by rw[eg];rfl
  have ga:=h8;rw[eg]at ga;have gb:=ku.J hf m3k;have hz:=kw i J hy (Lv _);have V:=Lk hy;have hD:=((z5.st (hf.mono (λb E=>Lj _ (Lc.2 (.inr E))))).cs.each _ V).up (L':=[]) oe;have hAD:=QK (L:=[]) h8 oa oe;refine Qh<|Qd<|Qg<|Qm<|Qb<|Zo (c.cs[i]'hy) λq S=>?_;rw[S]at hz V hD;have hd:O1 [] w7 { w7 with drawn:=w7.drawn+1 }:=O1.C _ _
  refine ZI [] (Xx 0 13 [9,12])<|p (QR U)<|pq (λ_ I=>Qr (gb.I I) U U)<|p QF<|p (QR U)<|pq (λ_ I=>Qr (gb.I I) U U) <|
   p QF<|Go.Lg.pig (g:=Q5) (i:=i) U Xg hAD U U J λz2 kq=>p (λ_=>Zt U)<|pq (λ_ I=>QA ((kq.fld 1 q.v (by rw[hz];rfl)).I I) U) <|
   pk<|xg<|(jn (hD.I hd)).mono ?_
  rintro rv w9 ⟨kr,hE⟩;have h6:O1 [] w7 w9:=hd.D kr;refine⟨h6,?_⟩;refine p (λ_=>Zv (i:=i) eg U J)<|p (QR U)<|pkl (hl:=by kernel_rfl)<|QlW (k:=0+i*3+1) (u:=rv) (Qq ga h6) U U (by have:(i+1)*3<=lk.length*3:=LY _ J;omega) (Qu hE) λz3 h7 hF =>
   pe ?_
  rw[<-ko]at h7;rw[<-eg]at hF;have kt:=zM (g:=Q5) Xg lk i 1 rv ⟨q.nm,rv,q.ts,q.bd⟩ J og (by rw[hz];rfl);rw[show 0+i*3+1=i*3+1 by omega,kt]at hF;refine Qw<|QS U U<|Qa<|xe ?_;have gc:=gl;refine⟨(i+1,lk.set i ⟨q.nm,rv,q.ts,q.bd⟩),oh,La,⟨hy,by simp only[Om];exact m3⟩,(hf.D h6).Q h7,by simp only[Om];exact hF,?_,λj G ho=>?_,λj G hp ho=>?_⟩
  ·simp only[];rw[zu J (by rw[hz];rfl),kv]
  ·simp only[Om]at G;simp only[]at ho ⊢;rw[M1];split
   ·refine Fre.low (w:=w9) ?_ h7 gc;intro L hL;exact⟨QK hE (ot hD.le) (λb E hbL=>by have h1:=(Qi hE b E).1;have h2:=hL b hbL;have h3:w3.heap.size<=w7.heap.size:=oa;have h4:({ w7 with drawn:=w7.drawn+1 }:OX).heap.size=w7.heap.size:=rfl;omega),h.cs.nm q V⟩
   rename_i z4;exact((gp j G oa).I h6).low h7 gc
  simp only[Om]at G;simp only[]at ho ⊢;rw[List.getElem_set_ne oa];exact kw j G hp oa
 refine Qz ?_;have m5:=hRA6.low hf gl;have m6:=hRB6.low hf gl;have kx:=Qf hK hf (λb E H=>(T.d2 b E).2 H);have kz:=Qf he6 hf (λb E H=>(T.d1 b E).2.2 H);have hB37:=ku.J hf m3k;have hB27:=hB26.J hf m2k;have m7:∀j (G:j<lx.length),j<c.ex.length->Fre XvA w3.heap.size w7.heap (lx[j]'G):=λj G hp=>(kk j G oa).low hf gl;have hone:Zp [re,voA,voB,rx,rk]:=⟨Qu kz,Qu m5.own,Qu m6.own,Qu kx,Qu h8,Z⟩;refine Qc<|Q6 hB37 U U<|Qe<|Qj (us:=[re,voA,voB,rx,rk]) hB27 U U U U hone λw8 h9 hB28=>xe ?_;have hs37:O1 (O::(ob rx++ob rk)) w3 w7:=(((hg.mono oe).Q (hk.mono oe)).Q (he.mono (λb E=>Lj _ (Lc.2 (.inl E))))).Q (hf.mono (λb E=>Lj _ (Lc.2 (.inr E))));have hs07:O1 [] w w7:=gu.then hs37 (λb E=>.inr (mn b E).1);refine Qk ⟨[.agg #[re,voA,voB,rx,rk]],⟨⟨_,U,Qn U (hB28.at (L:=[]) oe).cells⟩,Z⟩,hs07.O h9 oa,CL.mk re voA voB rx rk c.ev lA lB lx lk,rfl,?_,λL hL=>?_⟩
 ·unfold CL.V;simp only[];rw[hG,hJ,kj,kv]
 have gq:∀b∈b2::L,b<w2.heap.size:=λb E=>by
  rcases Li.1 E with rfl|E
  ·exact pd
  have:=hL b E;omega
 have hM:∀b∈b2::L,b<w3.heap.size:=λb E=>ot (gq b E)
 have lA1:lA.length=c.co.length:=by have:=OR oO hG;rwa [Lh,Lh]at this
 have lB1:lB.length=c.rq.length:=by have:=OR oO hJ;rwa [Lh,Lh]at this
 have hC:ZJ (b2::L) w7.heap (CL.mk re voA voB rx rk c.ev lA lB lx lk):=by
  refine⟨⟨QK kz pa (λb E H=>ou (Qi kz b E).1 (gq b H)),h.ev.nm⟩,IvR.itms m5 (show lA.length<=1099511627776 by omega) hM,IvR.itms m6 (show lB.length<=1099511627776 by omega) hM,⟨QK kx (show lx.length<=1099511627776 by omega) (λb E H=>ou (Qi kx b E).1 (gq b H)),λq S=>?_,λq S=>?_⟩,⟨QK h8 (show lk.length<=1099511627776 by omega) (λb E H=>ou (Qi h8 b E).1 (gq b H)),λq S=>?_,λq S=>?_⟩⟩
  ·obtain⟨j,G,rfl⟩:=LP S;exact(m7 j G (by have h5:j<lx.length:=G;omega) _ hM).l
  ·obtain⟨j,G,rfl⟩:=LP S;exact(m7 j G (by have h5:j<lx.length:=G;omega) _ hM).nm
  ·obtain⟨j,G,rfl⟩:=LP S;exact(gp j G (by have h5:j<lk.length:=G;omega) _ hM).l
  obtain⟨j,G,rfl⟩:=LP S;exact(gp j G (by have h5:j<lk.length:=G;omega) _ hM).nm
 exact(hC.st (h9.mono oe)).up (λb E=>.inl (Lj _ E))
section
variable {κ:Type}[DecidableEq κ](ky:α->κ)(vl:α->OY)
def zw (l:List α)(m:List (κ×OY)):List (κ×OY):=l.foldl (λm p=>O7 m (ky p) (vl p)) m
theorem y7 {k:κ}:∀(l:List α) (m:List (κ×OY)),(l.map ky).Nodup->(∀p∈l,O6 m (ky p)=none)->O6 (zw ky vl l m) k=match l.find? (λp=>decide (ky p=k))with
  | some p=>some (vl p)
  | none=>O6 m k
 | [],m,_,_=>rfl
 | p::l,m,I,J=>by
  obtain⟨H,O⟩:=M0.1 (show(ky p::l.map ky).Nodup from I);have ih:=y7 (k:=k) l (O7 m (ky p) (vl p)) O λq G=>by
   rw[Xl,OP λe=>H (by rw[e];exact LJ G)];exact J q (Lj _ G)
  have e0:zw ky vl (p::l) m=zw ky vl l (O7 m (ky p) (vl p)):=rfl;rw[e0,ih,List.find?_cons];by_cases E:ky p=k
  ·have S:l.find? (λp=>decide (ky p=k))=none:=List.find?_eq_none.2 λq G=>by
    have:ky q≠k:=λe=>H (by rw[E,<-e];exact LJ G);simpa using this
   rw[S,Xl,OQ E];simp[E]
  rw[Xl,OP E];simp[E]
end
theorem Qgz {κ:Type}[DecidableEq κ]{l:List κ}{s:κ}(h:s∉l):O7 (l.map λs=>(s,Value.bool true)) s (.bool true)=(l++[s]).map λs=>(s,Value.bool true):=by
 induction l with
 | nil=>rfl
 | cons a l ih =>
  have E:a≠s:=λe=>h (by subst e;exact Lq);show(if a=s then(a,Value.bool true)::(l.map λs=>(s,Value.bool true))else(a,Value.bool true)::O7 (l.map λs=>(s,Value.bool true)) s (.bool true))=_
  rw[OP E,ih (λG=>h (Lj _ G))];rfl
theorem QgA {κ:Type}[DecidableEq κ](l:List κ)(s:κ):O6 (l.map λs=>(s,Value.bool true)) s=if s∈l then some (.bool true)else none:=by
 induction l with
 | nil=>rfl
 | cons a l ih =>
  show(if a=s then some (Value.bool true)else O6 (l.map λs=>(s,Value.bool true)) s)=_
  rw[ih];by_cases h:a=s
  ·subst h;simp
  rw[OP h];have E:¬s=a:=λe=>h e.symm;simp[E]
section
variable {pS:String}{κ:Type}[DecidableEq κ]
theorem QeT [hm:Mp P t kt et (.bool false)]{enc:κ->OY}[hk:Key P kt enc]{x:OZ}{l:List κ}{s:κ}(h:Yi enc w.heap b (l.map λs=>(s,Value.bool true)))(hx:ev f x=.map (some b))(E:ev f y=enc s):
  (execOp (ev f) ⟨d,.lookup t x y false,ty,pS,af,gd⟩).run P w=.ok (.value (.bool (decide (s∈l)))) w:=by
 rw[Ji h hx E,QgA];by_cases G:s∈l <;> simp[G]
end
section
variable {pS:String}{κ:Type}[DecidableEq κ]
theorem Qj9 [hm:Mp P t kt et z]{enc:κ->OY}[hk:Key P kt enc]{x:OZ}{m:List (κ×OY)}{k:κ}(h:Yi enc w.heap b m)(hx:ev f x=.map (some b))(E:ev f y=enc k)
  {v:OY} (G:(match O6 m k with|some u=>Value.tuple #[u,.bool true]|none=>.tuple #[z,.bool false])=v):
  (execOp (ev f) ⟨d,.lookup t x y true,ty,pS,af,gd⟩).run P w=.ok (.value v) w:=by
 rw[<-G];exact KM h hx E
end
instance keyKy:Key prog 75 kKy:=QmN underlying75 og og U U underlying3 underlying9
abbrev z15:LV:=[oE oF 0,.string .empty,oE oF 0,nS,oE oF 0,nS,nS,nS,nS,nS,nS,nS,nS,nS,nS]
abbrev Ym:LV:=[nS,nS,nS]
abbrev paV (q:qz):OY:=.agg (ZR q).toArray
theorem qL {k:Int}:∀{l:LN}{i:Nat}{m:Ux},m∈Vm k i l->m.kd=k/\(i:Int)<=m.ix/\m.ix<((i+l.length:Nat):Int)
 | [],_,_,h=>by simp[Vm]at h
 | b::l,i,m,h=>by
  rw[Vm]at h;rcases Li.1 h with rfl|h
  ·exact⟨U,Ny _,by simp only[oU];omega⟩
  obtain⟨E,G,H⟩:=qL h;exact⟨E,oa,by simp only[oU];omega⟩
theorem Qkt {m:Ux}(h:m∈O5 c):0<=m.ix/\(m.kd=1\/m.kd=2\/m.kd=3)/\(m.kd=1->m.ix<(c.rq.length:Int))/\(m.kd=2->m.ix<(c.ex.length:Int))/\(m.kd=3->m.ix<(c.cs.length:Int)):=by
 have e1:(srR c).length=c.rq.length:=Lh _;have e2:(srX c).length=c.ex.length:=Lh _;have I:(srC c).length=c.cs.length:=Lh _;unfold O5 at h;rcases Lc.1 h with h|h
 ·obtain⟨E,G,H⟩:=qL h;exact⟨oa,.inl E,λ_=>oa,λh=>oa,λh=>oa⟩
 rcases Lc.1 h with h|h
 ·obtain⟨E,G,H⟩:=qL h;exact⟨oa,.inr (.inl E),λh=>oa,λ_=>oa,λh=>oa⟩
 obtain⟨E,G,H⟩:=qL h;exact⟨oa,.inr (.inr E),λh=>oa,λh=>oa,λ_=>oa⟩
theorem Qg3 {ps:List qz}(G:(ps.map (·.e.ky)).Nodup)(H:∀q∈ps,Zp (ZR q))(k:Ky):∃(us:LV) (is:Bool),(match O6 (zw (λq:qz=>q.e.ky) paV ps []) k with|some u=>Value.tuple #[u,.bool true]|none=>.tuple #[.agg z15.toArray,.bool false])=.tuple #[.agg us.toArray,.bool is]/\us.length=15/\Zp us /\
  (is=true->∃q∈ps,us=ZR q/\qn (ps.map (·.pt)) k=some q.pt)/\(is=false->qn (ps.map (·.pt)) k=none):=by
 rw[y7 (λq:qz=>q.e.ky) paV ps [] G (λ_ _=>rfl)];have I:qn (ps.map (·.pt)) k=(ps.find? λq=>decide (q.e.ky=k)).map (·.pt):=by
  unfold qn;rw[List.find?_map];rfl
 rw[I];cases J:ps.find? λq=>decide (q.e.ky=k)with
 | none=>exact⟨z15,false,U,U,⟨U,U,U,U,U,U,U,U,U,U,U,U,U,U,U,Z⟩,(λh=>by cases h),λ_=>rfl⟩
 | some q =>
  have E:=List.mem_of_find?_eq_some J;exact⟨ZR q,true,U,U,H q E,λ_=>⟨q,E,U,U⟩,(λh=>by cases h)⟩
theorem QfI {bf:List xF}{v:Int}{m:Ux}{p:xF}(E:y9 c m=0)(h:qn bf (ZY c m)=some p):JX c bf v m=if p.c=JC c m then(0,p,true)else(YS (JC c m),V6 c v m,false):=by
 unfold JX;rw[OP (not_not_intro E),h]
theorem QlA {bf:List xF}{v:Int}{m:Ux}(E:y9 c m=0)(h:qn bf (ZY c m)=none):JX c bf v m=(YS (JC c m),V6 c v m,false):=by
 unfold JX;rw[OP (not_not_intro E),h]
theorem QlB {bf:List xF}{v:Int}{m:Ux}(E:y9 c m≠0):(JX c bf v m).1=y9 c m:=by
 unfold JX;rw[OQ E]
structure BlS where
 k:Nat
 vo:OY
 qs:List qz
 vk:OY
 K:List Ky
 vm:OY
 M:List Ky
structure BlI (LL:LN)(B:Nat)(w':OX)(b15 b50:Nat)(ks:List Ky)(z:BlS):Prop where
 b:∃T,Q9 w'.heap b15 T [z.vk,z.vm,nS]
 n:Yi kKy w'.heap b50 (ks.map λs=>(s,Value.bool true))
 o:U2 ZR 15 149 qf (ob z.vk++(ob z.vm++LL)) B w' z.vo z.qs
 k:w'.ownsRow B 75 2 z.vk z.K.length (z.K.flatMap KR)
 m:w'.ownsRow B 75 2 z.vm z.M.length (z.M.flatMap KR)
 d1:∀b∈ob z.vo,b∉ob z.vk/\b∉ob z.vm
 d2:∀b∈ob z.vk,b∉ob z.vm
section
variable {LL:LN}{w8 w9:OX}{b15 b50:Nat}{ks ks':List Ky}{z:BlS}
theorem BlI.I (h:BlI LL B w b15 b50 ks z)(E:O1 [] w w8):BlI LL B w8 b15 b50 ks z:=by
 obtain⟨T,G⟩:=h.b;exact⟨⟨T,G.I E⟩,h.n.I E,h.o.I E,Qq h.k E,Qq h.m E,h.d1,h.d2⟩
theorem BlI.now (h:BlI LL B w b15 b50 ks z)(H:O1 [b50] w w8)(I:Yi kKy w8.heap b50 (ks'.map λs=>(s,Value.bool true)))(J:b15≠b50)(hB:b50<B)(O:b50∈LL):BlI LL B w8 b15 b50 ks' z:=by
 obtain⟨T,S⟩:=h.b;have g1:=Qi h.o.own;have V:=Qi h.k;have Y:=Qi h.m;refine⟨⟨T,S.J H (oy J)⟩,I,h.o.J H λb E=>?_,Qf h.k H λb E G=>?_,Qf h.m H λb E G=>?_,h.d1,h.d2⟩
 ·rw[Lb.1 E];exact⟨.inl (Lc.2 (.inr (Lc.2 (.inr O)))),λG=>ot (g1 _ G)⟩
 ·rw[Lb.1 G]at E;have:=V _ E;omega
 rw[Lb.1 G]at E;have:=Y _ E;omega
theorem BlI.part (h:BlI LL B w b15 b50 ks z){I:OY}{q:qz}(S:qf (ob z.vo++(ob z.vk++(ob z.vm++LL))) w.heap q)(V:w8.ownsRow B 149 15 I (z.qs.length+1) (z.qs.flatMap ZR++ZR q))(G:O1 (ob z.vo) w w8)
  (J:∀b∈ob I,b∈ob z.vo\/w.heap.size<=b) (ha:b15<B) (hc:b50<B):BlI LL B w8 b15 b50 ks { z with vo:=I,qs:=z.qs++[q] }:=by
 obtain⟨T,Y⟩:=h.b;have ge:=Qi h.o.own;have gk:=Qi h.k;have gm:=Qi h.m;refine⟨⟨T,Y.J G (λE=>ot (ge _ E))⟩,h.n.J G (λE=>ot (ge _ E)),h.o.app S V G J,Qf h.k G (λb H E=>(h.d1 b E).1 H),Qf h.m G (λb H E=>(h.d1 b E).2 H),λb H=>?_,h.d2⟩;rcases J b H with O|O
 ·exact h.d1 b O
 exact⟨λE=>ot (gk b E),λE=>ot (gm b E)⟩
theorem BlI.kept (h:BlI LL B w b15 b50 ks z){H:OY}{k:Ky}(Y:w8.ownsRow B 75 2 H (z.K.length+1) (z.K.flatMap KR++KR k))(S:O1 (ob z.vk) w w8)
  (hn:∀b∈ob H,b∈ob z.vk\/w.heap.size<=b) (J:O1 [b15] w8 w9) (ha:∃T,Q9 w9.heap b15 T [H,z.vm,nS]) (hf:b15<B) (hg:b50<B) (hc:b15≠b50) (hL:b15∈LL):BlI LL B w9 b15 b50 ks { z with vk:=H,K:=z.K++[k] }:=by
 have ge:=Qi h.o.own;have gk:=Qi h.k;have gm:=Qi h.m;have g8:=Qi Y;have hd:∀b∈ob H,b∉ob z.vo/\b∉ob z.vm:=λb E=>by
  rcases hn b E with O|O
  ·exact⟨λI=>(h.d1 b I).1 O,h.d2 b O⟩
  exact⟨λI=>ot (ge b I),λI=>ot (gm b I)⟩
 have he:w8.ownsRow B 75 2 H (z.K++[k]).length ((z.K++[k]).flatMap KR):=by
  rw[Ll,LB];simpa using Y
 refine⟨ha,(h.n.J S (λG=>ot (gk _ G))).J J (by simpa using λe=>hc e.symm),⟨?_,λq hq=>?_⟩,Qf he J (λb E G=>?_),Qf (Qf h.m S (λb E G=>h.d2 b G E)) J (λb E G=>?_),λb E=>⟨λG=>(hd b G).1 E,(h.d1 b E).2⟩,λb E=>(hd b E).2⟩
 ·exact Qf (Qf h.o.own S (λb E G=>(h.d1 b E).1 G)) J (λb E G=>by rw[Lb.1 G]at E;have:=ge _ E;omega)
 ·have O:qf (ob H++(ob z.vo++(ob z.vk++(ob z.vm++LL)))) w.heap q:=Mm.up (h.o.each q hq) λb E=>by
   rcases Lc.1 E with E|E
   ·exact(hn b E).imp (λV=>Lc.2 (.inr (Lc.2 (.inl V)))) id
   exact .inl E
  have I:=Mm.st O (S.mono λb E=>Lc.2 (.inr (Lc.2 (.inr (Lc.2 (.inl E))))));have V:=Mm.st I (J.mono λb E=>by rw[Lb.1 E];exact Lc.2 (.inr (Lc.2 (.inr (Lc.2 (.inr (Lc.2 (.inr hL))))))));refine Mm.mono V λb E=>?_;rcases Lc.1 E with E|E
  ·exact Lc.2 (.inr (Lc.2 (.inl E)))
  rcases Lc.1 E with E|E
  ·exact Lc.2 (.inl E)
  exact Lc.2 (.inr (Lc.2 (.inr (Lc.2 (.inr E)))))
 ·rw[Lb.1 G]at E;have:=g8 _ E;omega
 rw[Lb.1 G]at E;have:=gm _ E;omega
theorem BlI.mades (h:BlI LL B w b15 b50 ks z){I:OY}{k:Ky}(Y:w8.ownsRow B 75 2 I (z.M.length+1) (z.M.flatMap KR++KR k))(S:O1 (ob z.vm) w w8)
  (hn:∀b∈ob I,b∈ob z.vm\/w.heap.size<=b) (J:O1 [b15] w8 w9) (ha:∃T,Q9 w9.heap b15 T [z.vk,I,nS]) (hf:b15<B) (hg:b50<B) (hc:b15≠b50) (hL:b15∈LL):BlI LL B w9 b15 b50 ks { z with vm:=I,M:=z.M++[k] }:=by
 have ge:=Qi h.o.own;have gk:=Qi h.k;have gm:=Qi h.m;have g8:=Qi Y;have hd:∀b∈ob I,b∉ob z.vo/\b∉ob z.vk:=λb E=>by
  rcases hn b E with O|O
  ·exact⟨λH=>(h.d1 b H).2 O,λH=>h.d2 b H O⟩
  exact⟨λH=>ot (ge b H),λH=>ot (gk b H)⟩
 have he:w8.ownsRow B 75 2 I (z.M++[k]).length ((z.M++[k]).flatMap KR):=by
  rw[Ll,LB];simpa using Y
 refine⟨ha,(h.n.J S (λG=>ot (gm _ G))).J J (by simpa using λe=>hc e.symm),⟨?_,λq hq=>?_⟩,Qf (Qf h.k S (λb E G=>h.d2 b E G)) J (λb E G=>?_),Qf he J (λb E G=>?_),λb E=>⟨(h.d1 b E).1,λG=>(hd b G).1 E⟩,λb E G=>(hd b G).2 E⟩
 ·exact Qf (Qf h.o.own S (λb E G=>(h.d1 b E).2 G)) J (λb E G=>by rw[Lb.1 G]at E;have:=ge _ E;omega)
 ·have O:qf (ob I++(ob z.vo++(ob z.vk++(ob z.vm++LL)))) w.heap q:=Mm.up (h.o.each q hq) λb E=>by
   rcases Lc.1 E with E|E
   ·exact(hn b E).imp (λV=>Lc.2 (.inr (Lc.2 (.inr (Lc.2 (.inl V)))))) id
   exact .inl E
  have H:=Mm.st O (S.mono λb E=>Lc.2 (.inr (Lc.2 (.inr (Lc.2 (.inr (Lc.2 (.inl E))))))));have V:=Mm.st H (J.mono λb E=>by rw[Lb.1 E];exact Lc.2 (.inr (Lc.2 (.inr (Lc.2 (.inr (Lc.2 (.inr hL))))))));refine Mm.mono V λb E=>?_;rcases Lc.1 E with E|E
  ·exact Lc.2 (.inr (Lc.2 (.inl E)))
  rcases Lc.1 E with E|E
  ·exact Lc.2 (.inr (Lc.2 (.inr (Lc.2 (.inl E)))))
  rcases Lc.1 E with E|E
  ·exact Lc.2 (.inl E)
  exact Lc.2 (.inr (Lc.2 (.inr (Lc.2 (.inr (Lc.2 (.inr E)))))))
 ·rw[Lb.1 G]at E;have:=gk _ E;omega
 rw[Lb.1 G]at E;have:=g8 _ E;omega
end
theorem QeU {q:DV}(h0:XT L w.heap q):
  Q3 prog 148 [.agg (Qt q).toArray] w λr w'=>r=.bool (zj q.it)/\O1 [] w w':=by
 have h:=h0.up (L':=[]) oe;have hm:=h.a.al.le;have hn:=h.a.mr.le;have ho:=h.a.ed.le;have hp:=h.ls.arr.le;have hq:=h.ts.arr.le;have S:jC q.p.a=(decide (q.p.a.st=0) && decide ((q.p.a.al.length:Int)+(q.p.a.mr.length:Int)+(q.p.a.ed.length:Int)=0)):=rfl;have E:zj q.it=if q.kd=3 then jC q.p.a && decide ((q.ts.length:Int)=0) && decide (q.bd=0)else if q.kd=4 then jC q.p.a && decide ((q.ls.length:Int)=0)else decide ((q.ls.length:Int)+(q.ts.length:Int)=0) && decide (q.bd=0):=rfl
 refine Zo (jC q.p.a) λB hB=>?_;rw[hB]at S E;refine Zq func148 ?_;refine Qc<|Qe<|QW (us:=Qt q) U λb1 w1 hh hr hf=>Qb<|Qc<|Q7 U<|x (Zs (us:=[q.p.va,oE oF q.p.a.st,q.p.vm,q.p.ve]) hf U U U)<|Qe<|Qo (us:=X4) U λb3 w2 hi hj hk=>Qe<|Qj (us:=[q.p.va,oE oF q.p.a.st,q.p.vm,q.p.ve]) hk U U U U ⟨h.a.al.one,U,h.a.mr.one,h.a.ed.one,Z⟩ λw3 hl I=>xe ?_;have hg:O1 [] w1 w3:=hi.O hl hj;have J:=hh.D hg;have G:=hf.I hg;have H:=h.I J;refine Za (α:=Unit) [(4,4),(7,23)] (λ_=>[(4,.bool B)]) (λ_ w'=>w'=w3) ol ?_ ?_
 ·refine Qw<|Qs U I U U<|xb (QY U U) (λT=>?_) (λT=>?_)
  ·refine Qa<|Qs U I U U<|QI H.a.al U<|Qs U I U U<|x (Yv H.a.mr U) <|
    QS rfl rfl<|Qs U I U U<|QI H.a.ed U<|x (Xu U U ⟨oa,oa⟩) <|
    x (QY rfl U)<|QG U<|Qb<|⟨(),⟨OR Value.bool (by rw[S,OT (show q.p.a.st=0 from T),OH]),Z⟩,rfl⟩
  refine Qa<|Qp<|Qp<|Qp<|Qp<|Qp<|Qp<|Qp<|Qp<|Qp<|Qp<|Qp<|Qp<|QG U<|Qb<|⟨(),⟨OR Value.bool (by rw[S,OV (show ¬q.p.a.st=0 from T),Bool.false_and]),Z⟩,rfl⟩
 rintro _ g V rfl;refine Qd<|Qc<|Qs U G U U<|xe<|Qg<|Qc<|x (QY U U)<|Qb<|QX U (λY=>?_) (λY=>?_)
 ·rw[OQ Y]at E;refine Za (α:=Unit) [(2,2),(28,39)] (λ_=>[(2,.bool (zj q.it))]) (λ_ w'=>w'=V) ol ?_ ?_
  ·refine Qw<|xB Kh (λO=>?_) (λO=>?_)
   ·refine Qa<|Qs U G U U<|QI H.ts.arr U<|xb (QY U U) (λha=>?_) (λha=>?_)
    ·refine QG U<|Qa<|Qs U G U U<|x (QY U U)<|QG U<|Qb<|⟨(),⟨OR Value.bool (by rw[E,O,OT (show(q.ts.length:Int)=0 from ha)];rfl),Z⟩,U⟩
    refine QG U<|Qa<|Qp<|Qp<|Qp<|QG U<|Qb<|⟨(),⟨OR Value.bool (by rw[E,O,OV (show ¬(q.ts.length:Int)=0 from ha)];rfl),Z⟩,U⟩
   refine Qa<|Qp<|Qp<|Qp<|Qp<|QG U<|Qa<|Qp<|Qp<|Qp<|QG U<|Qb<|⟨(),⟨OR Value.bool (by rw[E,O];rfl),Z⟩,U⟩
  rintro _ g w5 rfl;exact Qk ⟨[_],La,U,J⟩
 rw[OP Y]at E;refine Qc<|x (QY U U)<|Qb<|QX U (λhb=>?_) (λhb=>?_)
 ·rw[OQ hb]at E;refine Za (α:=Unit) [(2,2),(42,48)] (λ_=>[(2,.bool (zj q.it))]) (λ_ w'=>w'=V) ol ?_ ?_
  ·refine Qw<|xB Kh (λhc=>?_) (λhc=>?_)
   ·refine Qa<|Qs U G U U<|QI H.ls.arr U<|x (QY U U)<|QG U<|Qb<|⟨(),⟨OR Value.bool (by rw[E,hc,OH]),Z⟩,rfl⟩
   refine Qa<|Qp<|Qp<|Qp<|Qp<|QG U<|Qb<|⟨(),⟨OR Value.bool (by rw[E,hc];rfl),Z⟩,U⟩
  rintro _ g w5 rfl;exact Qk ⟨[_],La,U,J⟩
 rw[OP hb]at E;refine Qh<|Za (α:=Unit) [(2,2),(49,61)] (λ_=>[(2,.bool (zj q.it))]) (λ_ w'=>w'=V) ol ?_ ?_
 ·refine Qw<|Qs U G U U<|QI H.ls.arr U<|Qs U G U U<|QI H.ts.arr U<|QS U U<|xb (QY U U) (λhe=>?_) (λhe=>?_)
  ·refine Qa<|Qs U G U U<|x (QY U U)<|QG U<|Qb<|⟨(),⟨OR Value.bool (by rw[E,OT (show(q.ls.length:Int)+(q.ts.length:Int)=0 from he),OH]),Z⟩,rfl⟩
  refine Qa<|Qp<|Qp<|Qp<|QG U<|Qb<|⟨(),⟨OR Value.bool (by rw[E,OV (show ¬(q.ls.length:Int)+(q.ts.length:Int)=0 from he),Bool.false_and]),Z⟩,rfl⟩
 rintro _ g w5 rfl;exact Qk ⟨[_],La,U,J⟩
theorem Qdw {v:OY}(h:XH L w.heap v qs)(i:Int):
  Q3 prog 145 [v,oE oF i] w λr w'=>(match qp (qs.map (·.it)) i with
   | none=>r=.tuple #[.string .empty,oE oF 2]
   | some n=>r=.tuple #[.string n,oE oF 0]/\J0 n)/\O1 [] w w':=by
 have E:qp (qs.map (·.it)) i=if i<0\/(qs.length:Int)<=i then none else some ((qs.map IV.it).getD i.toNat ⟨.empty,KB⟩).nm:=by unfold qp;rw[Lh]
 refine Zq func145 ?_;refine Qc<|x Ql<|Qb<|Qd<|Za (α:=Bool) [(6,13)] (λz=>[(13,.bool z)]) (λz w'=>w'=w/\(z=true↔(i<0\/(qs.length:Int)<=i))) ol ?_ ?_
 ·refine Qw<|Qa<|xb (YP U U) (λI=>?_) (λI=>?_)
  ·refine Qa<|Qp<|Qp<|Qp<|Qp<|QG U<|xe ?_;exact⟨true,La,U,⟨λ_=>.inl I,λ_=>U⟩⟩
  refine Qa<|Qa<|Qa<|QI h.arr U<|x (Yw U U)<|QG U<|xe ?_;exact⟨_,La,U,⟨λe=>.inr (OU e),λe=>OT (e.resolve_left I)⟩⟩
 rintro z g w1 ⟨rfl,J⟩;refine QQ rfl (λH=>?_) (λH=>?_)
 ·rw[OQ (J.1 H)]at E;refine Qc<|x Ql<|Qb<|Qk ⟨[_,_],oz,by rw[E];rfl,O1.Z _ _⟩
 have V:¬(i<0\/(qs.length:Int)<=i):=λe=>by rw[J.2 e]at H;cases H
 rw[OP V]at E;refine Qh<|exN (a:=i) oa λj O=>?_;have G:j<qs.length:=oa
 have Y:((qs.map IV.it).getD i.toNat ⟨.empty,KB⟩).nm=(qs[j]'G).nm:=by
  rw[O];simp[oP,G,IV.it]
 have S:=Lk G;rw[Y]at E;refine Qm<|Qa<|O4 (g:=QO) (i:=j) Ys h.arr U (show Go.Lg.ev _ _=_ from OR (Value.int .i64) O) G λha T=>?_;refine Zo (qs[j]'G) λq hq=>?_;rw[hq]at T E S;refine x (Zt U)<|x (QA (T.fld 0 (.string q.nm) U) U)<|x Ql<|Qb<|Qk ⟨[_,_],oz,by rw[E];exact⟨U,h.nm q S⟩,O1.Z _ _⟩
theorem QbA (co:List YU)(y:Int×Int)(l:xq):Ku co (y::l)=match qp co y.1 with
  | none=>none
  | some n=>(Ku co l).map ((n,y.2)::·):=rfl
theorem Qbz {y:Int×Int}{l:xq}{o:List (ByteArray×Int)}{X:Option (List (ByteArray×Int))}(h:X=(Ku co (y::l)).map (o++·))(E:qp co y.1=none):X=none:=by
 rw[h,QbA,E];rfl
theorem Qby {y:Int×Int}{l:xq}{o:List (ByteArray×Int)}{X:Option (List (ByteArray×Int))}(h:X=(Ku co (y::l)).map (o++·)){n:ByteArray}(E:qp co y.1=some n):X=(Ku co l).map ((o++[(n,y.2)])++·):=by
 rw[h,QbA,E];simp only[Option.map_map];congr 1;funext z;simp
abbrev Zl:OY:=nS
theorem Qkg (o:Option α):o=none\/∃n,o=some n:=by cases o with
 | none=>exact .inl U
 | some n=>exact .inr ⟨n,U⟩
instance:Bw prog 63 z9 [(0,1),(1,1),(2,4),(6,1),(7,1),(8,1)]:=⟨od,og⟩
theorem QhY {v:OY}{q:XV}(h0:XH L w.heap v qs)(hI:yz L w.heap q.v q.ls)(hJ:J0 q.nm)(gy:q.ls.length<=100000):
  Q3 prog 78 [v,.agg (Q8 q).toArray] w λr w'=>O1 [] w w'/\(match Ku (qs.map (·.it)) q.ls with
   | none=>r=.tuple #[.agg z9.toArray,oE oF 2]
   | some l=>∃d:DV,r=.tuple #[.agg (Qt d).toArray,oE oF 0]/\d.it=⟨3,q.nm,KB,l,[],0⟩/\∀L:LN,(∀b∈L,b<w.heap.size)->XT L w'.heap d):=by
 have h:=h0.up (L':=[]) oe;have hl:=hI.up (L':=[]) oe;refine Zo (Ku (qs.map (·.it)) q.ls) λR hR=>?_;rw[hR];have hK:R=(Ku (qs.map (·.it)) q.ls).map (([]:List (ByteArray×Int))++·):=by rw[hR];cases R <;> rfl
 refine Zq func78 ?_;refine Qc<|Qe<|QW (us:=Q8 q) U λb3 w1 hr gz hM=>Qe<|Qo (us:=z9) U λb4 w2 hs g0 ht=>Qb ?_;have hN:=hr.D hs;have hu:=hM.I hs;refine Qc<|Qs U hu U U<|x (Zc [(0,[oE oF 3]),(1,[.string q.nm])] ⟨U,U,U,U,Z⟩)<|Qe<|Qo (us:=z9) U λJ w3 hO hP hQ=>Qe<|Qj (us:=[oE oF 3,.string q.nm,Zl,oE oF 0,Zl,Zl,Zl,Zl,oE oF 0]) hQ U U U U ⟨U,U,U,U,U,U,U,U,U,Z⟩ λO hS hv=>xe ?_;have hg:O1 [] w2 O:=hO.O hS hP;have hw:=hN.D hg;have g2:=hr.size;have g3:=ht.lt;have g4:=hv.lt;have hT:=hu.I hg;have hU:=ht.I hg;refine Qd<|Qc<|Qs U hT U U<|QI (hl.I hw) U<|Qa<|xe<|Qg<|QD (α:=Nat×OY×List (ByteArray×Int)) [(5,5),(8,10),(17,41)] (λz=>[(17,oE oF z.1)]) (λz w'=>z.1<=q.ls.length/\O1 [J] O w'/\Q9 w'.heap J 63 [oE oF 3,.string q.nm,Zl,oE oF 0,Zl,Zl,z.2.1,Zl,oE oF 0]/\w'.ownsRow O.heap.size 143 2 z.2.1 z.2.2.length (z.2.2.flatMap ZF)/\z.2.2.length=z.1/\(∀p∈z.2.2,J0 p.1)/\R=(Ku (qs.map (·.it)) (q.ls.drop z.1)).map (z.2.2++·)) (λz=>q.ls.length - z.1) ol (0,Zl,[]) La
  ⟨Lo _,O1.Z _ _,hv,QJ _ _ _ _,U,oe,hK⟩ ?_
 rintro⟨k,vl,l⟩ g w5 ⟨hk,V,hh,G,hz,hi,hE⟩;simp only[]at hk hh G hz hi hE;have Y:O1 [] w w5:=hw.O V oa;have g5:=V.size;have h3:=hU.J V om;have h5:=h.I Y;have hV:=hl.I Y;refine Qc<|Q0 U U<|xe<|Qd<|QH U (λhj=>?_) (λhj=>?_)
 ·refine Qz ?_;have hW:q.ls.length<=k:=by have hX:¬(k:Int)<(q.ls.length:Int):=hj;omega
  rw[Lp hW]at hE;have hY:R=some l:=by rw[hE];simp[Ku]
  refine Qc<|Q6 hh U U<|Qe<|Qj (us:=[oE oF 3,.string q.nm,Zl,oE oF 0,Zl,Zl,vl,Zl,oE oF 0]) h3 U U U U ⟨U,U,U,U,U,U,Qu G,U,U,Z⟩ λw6 h4 hZ=>Qb<|Qk ⟨[.agg (Qt ⟨3,q.nm,⟨Zl,Zl,Zl,KB⟩,vl,l,Zl,[],0⟩).toArray,oE oF 0],⟨⟨_,U,Qn U (hZ.at (L:=[]) oe).cells⟩,rfl,Z⟩,Y.O h4 oa,?_⟩;rw[hY];refine⟨⟨3,q.nm,⟨Zl,Zl,Zl,KB⟩,vl,l,Zl,[],0⟩,U,U,λL hL=>?_⟩;have ga:Zm (b4::L) w5.heap vl l.length 2 (l.flatMap ZF):=QK G oa (λb E hbL=>by
   have:=(Qi G b E).1;simp only[oK]at hbL;rcases hbL with rfl|hbL
   ·omega
   have:=hL b hbL;omega)
  have gb:Vh L w6.heap vl l:=⟨(ga.st (h4.mono oe)).up (λb E=>.inl (by simp[E])),hi⟩;exact⟨hJ,⟨Zm.nil _ _ _,Zm.nil _ _ _,Zm.nil _ _ _⟩,gb,Vh.nil⟩
 have S:k<q.ls.length:=by have hX:(k:Int)<(q.ls.length:Int):=hj;omega
 have h6:q.ls.drop k=q.ls[k]'S::q.ls.drop (k+1):=LD S;refine Qh<|Qd<|Qg<|Qc<|O4 (g:=QN) (i:=k) Y7 hV U U S λg6 h7=>?_;refine Zo (q.ls[k]'S) λy hy=>?_;rw[hy]at h7 h6;rw[h6]at hE;refine x (Qx h7 U U)<|Qe<|Qo (us:=[oE oF 0,oE oF 0]) U λb8 w7 gc gg gh=>Qe<|Qj (us:=QN y) gh U U U U oz λw8 gi h8=>xe ?_;have h9:O1 [] w5 w8:=gc.O gi gg;refine Qm<|Qs U h8 U U<|QM<|(Qdw (h5.I h9) y.1).mono ?_;rintro r9 w9 ⟨ha,hA⟩;have he:=h9.D hA;have gj:=h8.I hA;refine Or.elim (Qkg (qp (qs.map (·.it)) y.1)) (λH=>?_) (λH=>?_)
 ·have gk:=Qbz hE H;rw[H]at ha;have hf:r9=.tuple #[.string .empty,oE oF 2]:=ha;subst hf;refine Qa<|QZ U U<|QZ U U<|x Ql<|Qb<|Qd<|Qm<|ZB U U<|xe<|QX U (λT=>?_) (λT=>OS (show(2:Int)≠0 by decide) T);refine Qc<|x (Zc [] Z)<|Qa<|Qe<|Qj (us:=z9) (h3.I he) U U U U ⟨U,U,U,U,U,U,U,U,U,Z⟩ λg7 gl gm=>Qb<|Qk ⟨[.agg z9.toArray,oE oF 2],⟨⟨_,U,Qn U (gm.at (L:=[]) oe).cells⟩,rfl,Z⟩,(Y.D he).O gl oa,?_⟩;rw[gk];rfl
 refine Exists.elim H λn H=>?_;have gn:=Qby hE H;rw[H]at ha;have hf:r9=.tuple #[.string n,oE oF 0]/\J0 n:=ha;have go:=hf.1;subst go;refine Qa<|QZ U U<|QZ U U<|x Ql<|Qb<|Qd<|Qm<|ZB U U<|xe<|QX rfl (λT=>OS U T) (λT=>?_);refine Qh ?_;have hB:=hh.I he;refine Qw<|Qs U hB U U<|Qa<|Qs U gj U U<|x (Qy ⟨U,U,Z⟩)<|Qe<|QB (us:=[ZF (n,y.2)]) U U og (show 1*2<=1000000 by decide) oz λg8 g9 hC ka gp=>?_;have ho:=he.D hC;have kb:=ho.size;have gq:=Qq G ho;refine Qe<|Zb (m:=1) (news:=ZF (n,y.2)) gq U U U (by have:=gp.at (L:=[]) oe;simpa using this) (by simp[Value.oneCell']) oa oa λhq gr hD hF gs=>?_;have hG:J∉ob vl:=λhm=>ot (Qi G J hm).1
 have gt:=(hB.I hC).J hF hG;refine Q7 rfl<|Qe<|QE (j:=6) (u:=hq) gt U U oe (Qu hD) λgu hH gv=>xe ?_;have gw:O1 [J] O gr:=(V.then ho oe).then hF λb E=>.inr (Qi G b E).1;have gx:gu.ownsRow O.heap.size 143 2 hq (l++[(n,y.2)]).length ((l++[(n,y.2)]).flatMap ZF):=by
  have h1:=Qf hD hH (λb E hc=>by
   simp only[oH]at hc;subst hc;rcases gs b E with h2|h2
   ·exact hG h2
   omega)
  rw[Ll,LB];simpa using h1
 refine Qw<|QS U U<|Qa<|xe<|⟨(k+1,hq,l++[(n,y.2)]),by show q.ls.length - (k+1)<q.ls.length - k;omega,La,S,gw.then hH (λb E=>.inl E),gv,gx,by simp[hz],λp I=>?_,gn⟩;rcases Lc.1 I with I|I
 ·exact hi p I
 simp only[oH]at I;subst I;exact hf.2
theorem Qir {v:OY}{q:KV}(h0:XH L w.heap v qs)(hI:yz L w.heap q.v q.ts)(hJ:J0 q.nm)(gy:q.ts.length<=100000):
  Q3 prog 79 [v,.agg (Q5 q).toArray] w λr w'=>O1 [] w w'/\(match Ku (qs.map (·.it)) q.ts with
   | none=>r=.tuple #[.agg z9.toArray,oE oF 2]
   | some l=>∃d:DV,r=.tuple #[.agg (Qt d).toArray,oE oF 0]/\d.it=⟨4,q.nm,KB,[],l,q.bd⟩/\∀L:LN,(∀b∈L,b<w.heap.size)->XT L w'.heap d):=by
 have h:=h0.up (L':=[]) oe;have hl:=hI.up (L':=[]) oe;refine Zo (Ku (qs.map (·.it)) q.ts) λR hR=>?_;rw[hR];have hK:R=(Ku (qs.map (·.it)) q.ts).map (([]:List (ByteArray×Int))++·):=by rw[hR];cases R <;> rfl
 refine Zq func79 ?_;refine Qc<|Qe<|QW (us:=Q5 q) U λb3 w1 hs gz hM=>Qe<|Qo (us:=z9) U λb4 w2 ht g0 hu=>Qb ?_;have hN:=hs.D ht;have hg:=hM.I ht;refine Qc<|Qs U hg U U<|Qs U hg U U<|x (Zc [(0,[oE oF 4]),(1,[.string q.nm]),(5,[oE oF q.bd])] ⟨U,U,U,U,U,U,Z⟩)<|Qe<|Qo (us:=z9) U λJ w3 hO hP hQ=>Qe<|Qj (us:=[oE oF 4,.string q.nm,Zl,oE oF 0,Zl,Zl,Zl,Zl,oE oF q.bd]) hQ U U U U ⟨U,U,U,U,U,U,U,U,U,Z⟩ λO hS hv=>xe ?_;have hh:O1 [] w2 O:=hO.O hS hP;have hw:=hN.D hh;have g2:=hs.size;have g3:=hu.lt;have g4:=hv.lt;have hT:=hg.I hh;have hU:=hu.I hh;refine Qd<|Qc<|Qs U hT U U<|QI (hl.I hw) U<|Qa<|xe<|Qg<|QD (α:=Nat×OY×List (ByteArray×Int)) [(5,5),(8,10),(19,43)] (λz=>[(19,oE oF z.1)]) (λz w'=>z.1<=q.ts.length/\O1 [J] O w'/\Q9 w'.heap J 63 [oE oF 4,.string q.nm,Zl,oE oF 0,Zl,Zl,Zl,z.2.1,oE oF q.bd]/\w'.ownsRow O.heap.size 145 2 z.2.1 z.2.2.length (z.2.2.flatMap ZF)/\z.2.2.length=z.1/\(∀p∈z.2.2,J0 p.1)/\R=(Ku (qs.map (·.it)) (q.ts.drop z.1)).map (z.2.2++·)) (λz=>q.ts.length - z.1) ol (0,Zl,[]) La
  ⟨Lo _,O1.Z _ _,hv,QJ _ _ _ _,U,oe,hK⟩ ?_
 rintro⟨k,vl,l⟩ g w5 ⟨hk,V,hi,G,hz,hj,hE⟩;simp only[]at hk hi G hz hj hE;have Y:O1 [] w w5:=hw.O V oa;have g5:=V.size;have h3:=hU.J V om;have h5:=h.I Y;have hV:=hl.I Y;refine Qc<|Q0 U U<|xe<|Qd<|QH U (λho=>?_) (λho=>?_)
 ·refine Qz ?_;have hW:q.ts.length<=k:=by have hX:¬(k:Int)<(q.ts.length:Int):=ho;omega
  rw[Lp hW]at hE;have hY:R=some l:=by rw[hE];simp[Ku]
  refine Qc<|Q6 hi U U<|Qe<|Qj (us:=[oE oF 4,.string q.nm,Zl,oE oF 0,Zl,Zl,Zl,vl,oE oF q.bd]) h3 U U U U ⟨U,U,U,U,U,U,U,Qu G,U,Z⟩ λw6 h4 hZ=>Qb<|Qk ⟨[.agg (Qt ⟨4,q.nm,⟨Zl,Zl,Zl,KB⟩,Zl,[],vl,l,q.bd⟩).toArray,oE oF 0],⟨⟨_,U,Qn U (hZ.at (L:=[]) oe).cells⟩,rfl,Z⟩,Y.O h4 oa,?_⟩;rw[hY];refine⟨⟨4,q.nm,⟨Zl,Zl,Zl,KB⟩,Zl,[],vl,l,q.bd⟩,U,U,λL hL=>?_⟩;have ga:Zm (b4::L) w5.heap vl l.length 2 (l.flatMap ZF):=QK G oa (λb E hbL=>by
   have:=(Qi G b E).1;simp only[oK]at hbL;rcases hbL with rfl|hbL
   ·omega
   have:=hL b hbL;omega)
  have gb:Vh L w6.heap vl l:=⟨(ga.st (h4.mono oe)).up (λb E=>.inl (by simp[E])),hj⟩;exact⟨hJ,⟨Zm.nil _ _ _,Zm.nil _ _ _,Zm.nil _ _ _⟩,Vh.nil,gb⟩
 have S:k<q.ts.length:=by have hX:(k:Int)<(q.ts.length:Int):=ho;omega
 have h6:q.ts.drop k=q.ts[k]'S::q.ts.drop (k+1):=LD S;refine Qh<|Qd<|Qg<|Qc<|O4 (g:=QN) (i:=k) Y7 hV U U S λg6 h7=>?_;refine Zo (q.ts[k]'S) λy hy=>?_;rw[hy]at h7 h6;rw[h6]at hE;refine x (Qx h7 U U)<|Qe<|Qo (us:=[oE oF 0,oE oF 0]) U λb8 w7 gc gg gh=>Qe<|Qj (us:=QN y) gh U U U U oz λw8 gi h8=>xe ?_;have h9:O1 [] w5 w8:=gc.O gi gg;refine Qm<|Qs U h8 U U<|QM<|(Qdw (h5.I h9) y.1).mono ?_;rintro r9 w9 ⟨ha,hA⟩;have he:=h9.D hA;have gj:=h8.I hA;refine Or.elim (Qkg (qp (qs.map (·.it)) y.1)) (λH=>?_) (λH=>?_)
 ·have gk:=Qbz hE H;rw[H]at ha;have hf:r9=.tuple #[.string .empty,oE oF 2]:=ha;subst hf;refine Qa<|QZ U U<|QZ U U<|x Ql<|Qb<|Qd<|Qm<|ZB U U<|xe<|QX U (λT=>?_) (λT=>OS (show(2:Int)≠0 by decide) T);refine Qc<|x (Zc [] Z)<|Qa<|Qe<|Qj (us:=z9) (h3.I he) U U U U ⟨U,U,U,U,U,U,U,U,U,Z⟩ λg7 gl gm=>Qb<|Qk ⟨[.agg z9.toArray,oE oF 2],⟨⟨_,U,Qn U (gm.at (L:=[]) oe).cells⟩,rfl,Z⟩,(Y.D he).O gl oa,?_⟩;rw[gk];rfl
 refine Exists.elim H λn H=>?_;have gn:=Qby hE H;rw[H]at ha;have hf:r9=.tuple #[.string n,oE oF 0]/\J0 n:=ha;have go:=hf.1;subst go;refine Qa<|QZ U U<|QZ U U<|x Ql<|Qb<|Qd<|Qm<|ZB U U<|xe<|QX rfl (λT=>OS U T) (λT=>?_);refine Qh ?_;have hB:=hi.I he;refine Qw<|Qs U hB U U<|Qa<|Qs U gj U U<|x (Qy ⟨U,U,Z⟩)<|Qe<|QB (us:=[ZF (n,y.2)]) U U og (show 1*2<=1000000 by decide) oz λg8 g9 hC ka gp=>?_;have hq:=he.D hC;have kb:=hq.size;have gq:=Qq G hq;refine Qe<|Zb (m:=1) (news:=ZF (n,y.2)) gq U U U (by have:=gp.at (L:=[]) oe;simpa using this) (by simp[Value.oneCell']) oa oa λhr gr hD hF gs=>?_;have hG:J∉ob vl:=λhm=>ot (Qi G J hm).1
 have gt:=(hB.I hC).J hF hG;refine Q7 rfl<|Qe<|QE (j:=7) (u:=hr) gt U U oe (Qu hD) λgu hH gv=>xe ?_;have gw:O1 [J] O gr:=(V.then hq oe).then hF λb E=>.inr (Qi G b E).1;have gx:gu.ownsRow O.heap.size 145 2 hr (l++[(n,y.2)]).length ((l++[(n,y.2)]).flatMap ZF):=by
  have h1:=Qf hD hH (λb E hc=>by
   simp only[oH]at hc;subst hc;rcases gs b E with h2|h2
   ·exact hG h2
   omega)
  rw[Ll,LB];simpa using h1
 refine Qw<|QS U U<|Qa<|xe<|⟨(k+1,hr,l++[(n,y.2)]),by show q.ts.length - (k+1)<q.ts.length - k;omega,La,S,gw.then hH (λb E=>.inl E),gv,gx,by simp[hz],λp I=>?_,gn⟩;rcases Lc.1 I with I|I
 ·exact hj p I
 simp only[oH]at I;subst I;exact hf.2
end Go.Lg
