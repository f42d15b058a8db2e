/- Merged out of 70 texts. -/
import Derived.Test.YtnlnkchlcpfehaaGreatDoorNjc
import Derived.Shelf.SortM.Plain
import Derived.Shelf.SortM.SortNone
import Derived.Shelf.SlicesE.Compact
import Derived.Shelf.SlicesE.DeleteFunc
import Derived.Ground.SlgmProg
import Derived.Ground.SlgnProg
import Derived.Ground.SlgfProg
import Derived.ChangeSame
import Derived.Carry
import Derived.OpenShut
import Derived.RowKit
import Derived.ChangeSlices
import Derived.WideShapes
import Derived.ProofKit
import Derived.ChangeArms
import Derived.Lib.LaidTab
import Derived.Stop.LaidErr
import Derived.MakeChecks
set_option maxHeartbeats 40000000
set_option maxRecDepth 100000
set_option linter.all false
open Go Go.Lg
open Go.Value renaming int->oG
open Go.IntKind renaming i64->oH
open _root_.List renaming mem_singleton->oJ,replicate->oK,not_mem_nil->oL,mem_cons->oM,length_append->oN,length_singleton->oP,getD->oQ,length->oR,range'->oS,range->oT,map_cons->oX,append_assoc->oY,length_map->o6,length_drop->Oa,length_take->Ob,size_toArray->Oc,flatMap_cons->Od,getElem?_eq_getElem->Of,nil_append->Oh,map_append->Oi,all_cons->Ok,append_nil->Ol,length_set->Oq,singleton_append->Ox,mem_map->OB,mem_range'_1->OC,map_nil->OD,getElem?_set_ne->OE,getElem_map->OG,getElem_range->OK,mem_filter->OL,take_zero->ON,take_append->OR,flatMap_nil->OS
open _root_.Bool renaming and_eq_true->oO,false_eq_true->OJ
open _root_.Nat renaming zero_add->oZ,add_mul->Ot,add_zero->OH,lt_or_ge->OO,sub_zero->OP,zero_mul->OV,sub_self->OW,le_refl->OX,zero_le->OY
open _root_.Decidable renaming byContradiction->Oe
open _root_.Array renaming getElem?_eq_getElem->Oj,getElem?_mapIdx->Oy
open _root_.Int renaming toNat_natCast->Ov
open _root_.Option renaming map_some->Oz,isSome_none->OI
open Go renaming World->O8,Value->O9,Operand->xd,Program->xh
open Go.Proofs Go.Proofs.Tryz
open Go.Proofs.Tryz renaming prog->sV
variable {w w' W':O8}{L L' ds ns av:LN}{n t i sz b T j N E g ty id cap b1 B kt lo hi b2 bp M gp:Nat}{a:QU}{cs us news capt:LV}{α:Type}{y:xd}{c:Zy}{z va ve vm vt v' vl vs vx vb vk vu:O9}{l ul u al fb out rs:LI}{f:Fr}{P:xh}{lf:Lf}{fn:Func}{s rk:Int}{o:Oper}{d:xL}{af:xJ}{gd:xC}{K:xG}{co:List Y0}{D:xE}{k':IntKind}{qs:List IV}{ops:xK}{qx:List XV}{ks:List KV}
namespace Go.Lg
theorem QbS (H:Zo a)(O:a.st=(n:Int))(S:lf.length=n):∀x∈nxs a ul lf,0<=x/\x<(n:Int):=λx hx=>by
 have E:=Qe9 x hx;have T:x.toNat<n:=by
  refine Oe λh=>?_;unfold lft at E;simp[oQ,List.getElem?_eq_none (show lf.length<=x.toNat by omega)]at E
 unfold nxs at hx;split at hx
 .obtain⟨p,I,rfl⟩:=Ly.1 hx;obtain⟨_,e,J,V,_⟩:=(QbZ a ul lf).1 p I;have:=H.ed e J;omega
 have:=((Vk lf (dsts a lf) 0).1 x hx).2;omega
abbrev Q4:=Int×Int×Int×Int
abbrev KM (x:Q4):LV:=[sS x.1,sS x.2.1,sS x.2.2.1,sS x.2.2.2]
theorem JX (x:Q4):(KM x).length=4:=rfl
def QcQ (x:Q4):Rz:=if h:0<=x.1/\x.1<4096 then⟨x,h⟩else default
theorem QcP:∀l:List Rz,(l.map (·.1)).map QcQ=l
 | []=>rfl
 | x::l=>by
  rw[LO,LO,QcP l];congr 1;unfold QcQ;rw[dif_pos x.2]
theorem QoA (l:List Rz):(l.map (·.1)).flatMap KM=l.flatMap zJ:=by rw[List.flatMap_map]
def rmR (rk:Int)(r:Int×xF):List Q4:=r.2.map λp=>(p.1,rk,r.1,p.2)
def rmL (a:QU)(ul:LI):Nat->Int->Lf->List Q4
 | 0,_,_=>[]
 | f+1,rk,lf=>if(nxs a ul lf).length=0 then[]else rmR rk (nxR a ul lf)++rmL a ul f (rk+1) ((nxs a ul lf).foldl cut lf)
theorem yH {f:Nat}(h:(nxs a ul lf).length=0):rmL a ul f rk lf=[]:=by
 cases f with
 | zero=>rfl
 | succ f=>rw[rmL,O1 h]
theorem yG {f:Nat}(h:(nxs a ul lf).length≠0):rmL a ul (f+1) rk lf=rmR rk (nxR a ul lf)++rmL a ul f (rk+1) ((nxs a ul lf).foldl cut lf):=by rw[rmL,O0 h]
def rmF (fb:LI):List Q4:=fb.map λy=>(y,1,1,-1)
def rmA (a:QU)(fb ul:LI):List Q4:=rmF fb++rmL a ul (a.st.toNat+1) 2 (lf0 a.st.toNat fb)
def rmS (a:QU)(fb ul:LI):List Q4:=(zH ((rmA a fb ul).map QcQ)).map (·.1)
def kpI (lf:Lf)(n:Nat):LN:=(oT n).filter λi=>lf.getD i false
def j2 (lf:Lf)(n:Nat):LI:=(kpI lf n).map λi:Nat=>(i:Int)
def kpD (lf:Lf)(D:LI)(n:Nat):LI:=(kpI lf n).map λi=>xo D i
theorem QsG (h:lf.getD n false=true):kpI lf (n+1)=kpI lf n++[n]:=by
 unfold kpI;rw[Nl,Mc,Mg,O1 h];rfl
theorem QsH (h:lf.getD n false=false):kpI lf (n+1)=kpI lf n:=by
 unfold kpI;rw[Nl,Mc,Mg,O0 (by rw[h];decide)];exact LT _
structure Qae (L:LN)(H:xI)(c0 c1 c2:O9)(a:QU)(fb ul:LI):Prop where
 k:QG L H c0 (j2 (Xq a fb ul) a.st.toNat)
 d:QG L H c1 (kpD (Xq a fb ul) (dsts a (Xq a fb ul)) a.st.toNat)
 r:Zk L H c2 (rmS a fb ul).length 4 ((rmS a fb ul).flatMap KM)
theorem Qae.st {L:LN}{w w':O8}{c0 c1 c2:O9}{a:QU}{fb ul:LI}(h:Qae L ↑w c0 c1 c2 a fb ul)(E:xj L w w'):Qae L ↑w' c0 c1 c2 a fb ul:=⟨h.k.st E,h.d.st E,h.r.st E⟩
theorem Qae.up {L L':LN}{H:xI}{c0 c1 c2:O9}{a:QU}{fb ul:LI}(h:Qae L H c0 c1 c2 a fb ul)(E:∀b∈L',b∈L\/H.size<=b):Qae L' H c0 c1 c2 a fb ul:=⟨h.k.up E,h.d.up E,h.r.up E⟩
theorem QpL {rk rs:Int}:∀(l:xF),(∀x∈l.map (·.1),0<=x/\x<4096)->∃lz:List Rz,lz.flatMap zJ=l.flatMap (rmC rk rs)/\lz.length=l.length/\lz.map (·.1)=rmR rk (rs,l)
 | [],_=>⟨[],U,U,U⟩
 | x::l,h=>by
  obtain⟨lz,E,H,I⟩:=QpL (rk:=rk) (rs:=rs) l (λy J=>h y (Ll _ J));exact⟨⟨(x.1,rk,rs,x.2),h x.1 Lr⟩::lz,by rw[LQ,LQ,E],by simp[H],by rw[LO,I];rfl⟩
theorem Qgv:∀l:List Rz,∀u∈l.flatMap zJ,u.oneCell'=true
 | [],u,h=>by cases h
 | x::l,u,h=>by
  rw[LQ,Lh]at h;rcases h with h|h
  .simp only[zJ,oM,oL,or_false]at h;rcases h with rfl|rfl|rfl|rfl <;> rfl
  exact Qgv l u h
theorem RzO.snoc {base:Nat}{v:O9}{l m:List Rz}(h:w.ownsRow base 261 4 v (l.length+m.length) (l.flatMap zJ++m.flatMap zJ)):RzO base w v (l++m):=by
 unfold RzO;rw[Ln,LC];exact h
abbrev Vn (k d r:O9)(n:Int):LV:=[k,d,r,sS n,nS,sS 0,nS,nS,nS]
structure ReI (b10:Nat)(q:Pz)(wB:O8)(lf:Lf)(rn:Int)(vr:O9)(lz:List Rz)(w:O8):Prop where
 st:xj [b10,q.bl] wB w
 B10:QP ↑w b10 216 (Vn (nS) (nS) vr rn)
 R:RzO ↑wB w vr lz
 F:QP ↑w q.bl 4 (lf.map Value.bool)
 n:lf.length=q.n
section
variable {b10:Nat}{q:Pz}{wB w'':O8}{rn:Int}{vr:O9}{lz:List Rz}
theorem ReI.J (h:ReI b10 q wB lf rn vr lz w)(E:sW w w'):ReI b10 q wB lf rn vr lz w':=⟨h.st.I E,h.B10.J E,Ql h.R E,h.F.J E,h.n⟩
theorem ReI.cut (h:ReI b10 q wB lf rn vr lz w)(l:q.bl<↑wB)(ne:b10≠q.bl)(H:xj [q.bl] w w'){I:Lf}(hF:QP ↑w' q.bl 4 (I.map Value.bool))(J:I.length=q.n):ReI b10 q wB I rn vr lz w' :=
 ⟨h.st.G H (λb E=>.inl (by simp only[oJ]at E;simp[E])),h.B10.O H (oA ne),Qf h.R H (λb E=>by have:=(Qg h.R b E).1;simp only[oJ];omega),hF,J⟩
theorem ReI.app (h:ReI b10 q wB lf rn vr lz w)(l:q.bl<↑wB)(V:b10<wB.heap.size)(ne:b10≠q.bl){H:O9}{J:List Rz}{O:Int}(S:xj (ob vr) w w')(hR:RzO ↑wB w' H J)(I:xj [b10] w' w'')
  (T:QP ↑w'' b10 216 (Vn (nS) (nS) H O)):ReI b10 q wB lf O H J w'':=by
 have hge:=Qg h.R;exact⟨(h.st.G S (λb E=>.inr (hge b E).1)).G I (λb E=>.inl (by simp only[oJ]at E;simp[E])),T,Qf hR I (λb E=>by have:=(Qg hR b E).1;simp only[oJ];omega),
  (h.F.O S (λE=>ov (hge _ E).1)).O I (oA ne.symm),h.n⟩
theorem ReI.rounds (h:ReI b10 q wB lf rn vr lz w)(O:b10<wB.heap.size)(ne:b10≠q.bl){I:Int}(H:xj [b10] w w')(J:QP ↑w' b10 216 (Vn (nS) (nS) vr I)):ReI b10 q wB lf I vr lz w' :=
 ⟨h.st.G H (λb E=>.inl (by simp only[oJ]at E;simp[E])),J,Qf h.R H (λb E=>by have:=(Qg h.R b E).1;simp only[oJ];omega),h.F.O H (oA ne.symm),h.n⟩
end
theorem QhW {vf:O9}{forb unc:LI}(h:ZE [] ↑w va vm ve a)(h6:Zo a)(hf:QG [] ↑w vf forb)(kc:∀x∈forb,0<=x/\x<a.st)(hfl:forb.length<=4096)(hu:QG [] ↑w vu unc):
  QZ sV 156 [.agg #[va,sS a.st,vm,ve],vf,vu,.bool true] w λr w'=>sW w w'/\∃c0 c1 c2 c3 sa sm se o,r=.agg #[c0,c1,c2,c3,sa,sS (Qbr a forb unc).st,sm,se,o] /\
   Zj [c0,c1,c2,c3,o]/\∀L:LN,(∀b∈L,b<↑w)->ZE L ↑w' sa sm se (Qbr a forb unc)/\Qae L ↑w' c0 c1 c2 a forb unc:=by
 have hst0:=h6.st0;have hst1:=h6.st1;obtain⟨n,hn⟩:∃n:Nat,a.st=n:=⟨a.st.toNat,oa⟩;have h7:a.st.toNat=n:=oa
 have hR:Qbr a forb unc=QeL a (VB a unc (n+1) (lf0 n forb)):=by unfold Qbr Xq;rw[h7]
 have mt:rmA a forb unc=rmF forb++rmL a unc (n+1) 2 (lf0 n forb):=by unfold rmA;rw[h7]
 have gl:Xq a forb unc=VB a unc (n+1) (lf0 n forb):=by unfold Xq;rw[h7]
 refine Zd (Qbr a forb unc) λSA mu=>?_;rw[mu]at hR ⊢;refine Zt func156 ?_;refine Qc<|Zg [va,sS a.st,vm,ve] λb4 w1 ke hb4 mv=>QL (Vn (nS) (nS) (nS) 0) λb8 w2 kf hb8 kg=>xe ?_;have hS:=ke.I kf;have hl8:=kg.lt;have hz1:=ke.size;refine Qc<|QV (mv.J kf) U U<|Qa<|Qa<|Qx<|(QjC (h.J hS) h6 hn (hf.J hS) kc (hu.J hS)).S ?_;rintro r3 w3 ⟨kh,bp,q,rfl,mw,my,mz,hbl,hP,hF⟩;refine Qb ?_;subst mw my mz;have hq:PzQ q:=⟨h6,hn⟩;have m2:=hS.I kh;have hlF:=hF.lt;refine Qc<|QL (Vn (nS) (nS) (nS) 0) λb10 S h8 m3 ki=>xe ?_;have gm:=m2.I h8;have hz4:=h8.size;have hT:=ki.lt;have hr:b10≠q.bl:=oa
 have gn:q.bl<S.heap.size:=oa
 have m4:PzA [b10,q.bl] ↑S bp q:=(hP.up (λb E=>by
  simp only[oM,oL,or_false]at E;rcases E with rfl|rfl
  .exact .inr m3
  exact .inl oe)).J h8
 have m5:=U1 q.n forb;have h9:∀{w'},xj [b10,q.bl] S w'->PzA [] ↑w' bp q:=λhs=>(m4.st hs).up oe;refine Qd<|Qj<|QE (hf.J gm) U<|Qa<|xe<|Q2 (α:=Nat×Int×O9×List Rz) [(12,12),(25,39)] (λz=>[(25,sS z.1)]) (λz w'=>z.1<=forb.length/\ReI b10 q S (lf0 q.n forb) z.2.1 z.2.2.1 z.2.2.2 w'/\z.2.2.2.length=z.1/\(z.2.1=0\/z.2.1=1)/\z.2.2.2.map (·.1)=rmF (forb.take z.1)) (λz=>forb.length - z.1) (0,0,nS,[]) Lb
  ⟨Lp _,⟨xj.Y _ _,ki,QI _ _ _ _,hF.J h8,m5⟩,U,.inl U,U⟩ ?_
 rintro⟨k,rn,vr,lz⟩ g w5 ⟨hk,J,go,hU,hV⟩;simp only[]at hk J go hU hV;have m6:QG [] ↑w5 vf forb:=((hf.up (L':=[b10,q.bl]) (λb E=>by
  simp only[oM,oL,or_false]at E;exact .inr oa)).J gm |>.st J.st).up oe
 refine Zi rfl U (λgp=>?_) (λgp=>?_)
 .refine Qt ?_;have hcl:=Qct (lf0 q.n forb);have m7:forb.length<=k:=by have hW:¬(k:Int)<(forb.length:Int):=gp;omega
  rw[Lt m7]at hV;refine Qd<|Qc<|Qb<|Q2 (α:=Nat×Nat×Int×O9×List Rz×Lf) [(13,14),(16,16),(40,71)] (λz=>[(13,sS z.2.1)])
   (λz w'=>ReI b10 q S z.2.2.2.2.2 z.2.2.1 z.2.2.2.1 z.2.2.2.2.1 w'/\z.2.1+z.1=q.n+3/\z.2.2.2.2.1.length<=4096+z.2.1*1000000/\VB q.a q.unc z.1 z.2.2.2.2.2=VB q.a q.unc (q.n+1) (lf0 q.n forb)/\VP z.2.2.2.2.2+1<=z.1/\z.2.2.2.2.1.map (·.1)++rmL q.a q.unc z.1 (z.2.1:Int) z.2.2.2.2.2=rmA q.a forb q.unc) (λz=>z.1) (q.n+1,2,rn,vr,lz,lf0 q.n forb) Lb ⟨J,og,og,U,og,by rw[mt];simp only[hV];rfl⟩ ?_
  rintro⟨f,rank,rn,vr,lz,lf⟩ g w6 ⟨J,m8,go,hA,m9,hB⟩;simp only[]at J m8 go hA m9 hB;refine Qd<|Qn<|Qj<|Qa<|Qa<|Qx<|(Qj9 (h9 J.st) hq J.F J.n rank).S ?_;rintro r7 w7 ⟨hX,hC,kj⟩;have hh:=Qgz q.a q.unc lf;have kk:=λ(f:Nat) (h:(nxs q.a q.unc lf).length≠0)=>yG (a:=q.a) (ul:=q.unc) (f:=f) (rk:=(rank:Int)) (lf:=lf) h;refine Zd (nxR q.a q.unc lf) λNR pa=>?_;rw[pa]at hC kj hh kk;obtain⟨rs,l⟩:=NR;simp only[]at hC kj hh;refine Qb ?_;have V:=J.J hX;have kn:Zk [] ↑w7 r7 l.length 4 (l.flatMap (rmC rank rs)):=QC hC oa oe;have gq:(nxs q.a q.unc lf).length=l.length:=by rw[<-hh,Lj]
  have gr:=QbS (ul:=q.unc) h6 hn J.n;rw[<-hh]at gr;refine Qd<|Qj<|QE kn U<|x (QW U U)<|xe<|QY U (λgs=>?_) (λgs=>?_)
  .refine Qt ?_;have hE:l.length=0:=by have h49:(l.length:Int)=0:=gs;omega
   rw[Qaw (by rw[gq];exact hE)]at hA;rw[yH (by rw[gq];exact hE),LT]at hB;rw[<-hA]at hR gl;refine Qc<|QN U<|Qm U V.B10 U U<|Qx<|(QhO V.R oa).S ?_;rintro r8 Y ⟨he,gt⟩;have pc:rmS q.a forb q.unc=(zH lz).map (·.1):=by unfold rmS;rw[<-hB,QcP]
   refine xe ?_;have hge:=Qg V.R;have gu:xj [b10,q.bl] S Y:=V.st.G he (λb E=>.inr (hge b E).1);have gv:QP ↑Y b10 216 (Vn (nS) (nS) vr rn):=V.B10.O he (λE=>ov (hge _ E).1);have ko:QP ↑Y q.bl 4 (lf.map Value.bool):=V.F.O he (λE=>ov (hge _ E).1);have kq:=Qr gt;have hz8:=gu.size;refine Qd<|Qj<|Qx<|(qe (h9 gu) hq ko V.n).S ?_;rintro r9 I ⟨Z,bD,rfl,hbD,kr,hY⟩;refine Zd (dsts q.a lf) λD hD=>?_;rw[hD]at kr hY;have kt:QG [b10] ↑I (sL bD q.n q.n) D:=by
    have T:=kr.arr (L:=[b10]) ol (n:=q.n) (cap:=q.n) (sz:=1) (by simp[hY]) oa (Lu _);unfold QG;rw[hY];exact T
   have pd:=gu.I Z;have hz9:=Z.size;have pf:=ko.J Z;refine QE kt U<|Qa<|xe<|Q2 (α:=Nat×O9×O9×LI×LI) [(17,18),(79,107)] (λz=>[(79,sS z.1)])
    (λz w'=>z.1<=D.length/\xj [b10] I w'/\QP ↑w' b10 216 (Vn z.2.1 z.2.2.1 vr rn)/\Qp 3 ↑I w' z.2.1 z.2.2.2.1/\Qp 3 ↑I w' z.2.2.1 z.2.2.2.2/\Dj z.2.1 z.2.2.1/\z.2.2.2.1.length<=z.1/\z.2.2.2.2.length<=z.1/\z.2.2.2.1=j2 lf z.1/\z.2.2.2.2=kpD lf D z.1) (λz=>D.length - z.1) (0,nS,nS,[],[]) Lb
    ⟨Lp _,xj.Y _ _,gv.J Z,QI _ _ _ _,QI _ _ _ _,Dj.nil' _,Lu _,Lu _,U,U⟩ ?_
   rintro⟨i,vk,vd,lk,ld⟩ g hG ⟨hi,ha,hH,hK,hl,hZ,pg,ph,ga,gb⟩;simp only[]at hi hH hK hl hZ pg ph ga gb;have hz10:=ha.size;have gc:xj [b10,q.bl] S hG:=pd.G ha (λb E=>.inl (by simp only[oJ]at E;simp[E]));have ku:QP ↑hG q.bl 4 (lf.map Value.bool):=pf.O ha (oA hr.symm);refine Zi U U (λgw=>?_) (λgw=>?_)
   .refine Qt<|Qj<|Qx<|(yR (h9 gc) hq ku V.n).S ?_;rintro r11 pj ⟨hp,_,o,rfl,⟨sa,sm,se,rfl,gx⟩,gy⟩;rw[<-hR]at gx;have ht:=gx [] oe;refine Qa<|QS U U<|QS U U<|QN U<|Qo<|Yy (us:=[sa,sS SA.st,sm,se]) (hH.J hp) U (by rw[<-hR];rfl) U oe ⟨ht.al.one,rfl,ht.mr.one,ht.ed.one,La⟩ rfl λw12 gg pm =>
     QN rfl<|Qo<|Qw (j:=8) (u:=o) pm U U oe gy λw13 gh pn=>xe ?_
    have po:b8∉[b10,q.bl]:=ot
    have kv:b8∉[b10]:=ol
    have pp:=(((((kg.J (kh.I h8)).O gc po).J hp).O gg kv).O gh kv);refine Qc<|QV pn U U<|QJ [vk,vd,vr,sS rn,sa,sS SA.st,sm,se,o] pp ⟨Qr hK,Qr hl,kq,U,ht.al.one,U,ht.mr.one,ht.ed.one,gy,La⟩ λpu gz pw=>xe ?_;have pz:∀b∈[b10,q.bl],↑w<=b:=λb E=>by simp only[oM,oL,or_false]at E;omega
    have p0:sW w pu:=((((gm.G gc (λb E=>.inr (pz b E))).I hp).Q gg oa).Q gh oa).Q gz oa;refine Qi ⟨[.agg #[vk,vd,vr,sS rn,sa,sS SA.st,sm,se,o]],⟨YO pw,La⟩,p0,vk,vd,vr,sS rn,sa,sm,se,o,U,⟨Qr hK,Qr hl,kq,U,gy,La⟩,λL hL=>?_⟩;have gi:∀N,↑S<=N->∀b∈b10::b8::L,b<N:=λN hN b E=>by
     simp only[oM]at E;rcases E with rfl|rfl|E
     .omega
     .omega
     have:=hL b E;omega
    have T:=gx (b10::b8::L) (gi _ oa);have h2:=((T.st (gg.S oe)).st (gh.S oe)).st (gz.S oe);have p1:i=q.n:=by have p2:¬(i:Int)<(D.length:Int):=gw;omega
    subst p1;have hrl:(zH lz).length=lz.length:=yA lz;have h3:Qae (b10::b8::L) ↑hG vk vd vr q.a forb q.unc:=by
     refine⟨?_,?_,?_⟩
     .rw[gl,h7,<-ga];exact Qp.ints hK oa (gi _ oa)
     .rw[gl,h7,hD,<-gb];exact Qp.ints hl oa (gi _ oa)
     rw[pc,Lj,QoA];have p3:=Qg gt;refine(((QC gt oa (λb E hbL=>oy (p3 b E).1 (gi _ (Lu _) b hbL)):Zk (b10::b8::L) ↑Y vr (zH lz).length 4 ((zH lz).flatMap zJ)).J Z).st (ha.S oe))
    have h4:=((((h3.st (hp.any)).st (gg.S oe)).st (gh.S oe)).st (gz.S oe)).up (L':=L) (λb E=>.inl (by simp[E]));exact⟨h2.up (λb E=>.inl (by simp[E])),h4⟩
   refine Qe ?_;have hv:i<D.length:=by have p2:(i:Int)<(D.length:Int):=gw;omega
   have g0:i<lf.length:=by rw[V.n,<-hY];exact hv
   have p4:lf[i]'g0=lf.getD i false:=by simp[oQ,g0]
   refine Qd<|Qn<|Qj<|xii (i:=i) (kt.st ha) U U hv λa82 kw=>?_;refine Zd (D[i]'hv) λd hd=>?_;rw[hd]at kw;refine x (Qy kw U)<|x Qh<|Qb<|Qj<|Z7 U<|Qm U (h9 gc).B U U<|Qa<|x (QO (i:=i) U U oa)<|x (v:=.bool (lf.getD i false)) ((Kp (i:=i) ku U g0).I (by rw[p4]))<|xe<|Q6 U (λg2=>?_) (λg2=>?_)
   .have hJ:∀{v:O9} {l:LI} {w':O8},Qp 3 ↑I w' v l->b10∉ob v:=λho H=>ov (Qg ho b10 H).1
    refine Qc<|QN U<|Qm U hH U U<|Qa<|Qo<|Zb [[sS i]] λb95 y1 hw hb95 p5=>Qo<|Q9 (m:=1) (news:=[sS i]) (L:=[]) (Ql hK hw) U U U (p5.at oe) oq oa (ov hw.size) λhM y2 kx gj p6 =>
     QN rfl<|QN U<|Qo<|Qw (j:=0) (u:=hM) ((hH.J hw).O gj (hJ hK)) U U oe (Qr kx) λy3 g3 kz=>xe ?_
    have p7:Qp 3 ↑I y2 hM (lk++[(i:Int)]):=Qp.snoc kx;have hzy1:=hw.size;have hzy2:=gj.size;have hzy3:=g3.size;have p8:Qp 3 ↑I y2 vd ld:=Qf (Ql hl hw) gj (λb E H=>hZ b H E);have k0:Dj hM vd:=λb E H=>by
     rcases p6 b E with T|T
     .exact hZ b T H
     have:=Q3 hl b H;omega
    have k4:∀{v:O9} {l:LI},Qp 3 ↑I y2 v l->Qp 3 ↑I y3 v l:=λho=>Qf ho g3 (λb E H=>by simp only[oJ]at H;subst H;exact hJ ho E);have k5:=k4 p7;have hD3:=k4 p8;have p9:xj [b10] I y3:=(((ha.I hw).G gj (λb E=>.inr (Qg hK b E).1))).V g3;refine Qq<|QN U<|Qm U kz U U<|Qa<|Qo<|Zb [[sS d]] λb103 y4 hz hb103 qc=>Qo<|Q9 (m:=1) (news:=[sS d]) (L:=[]) (Ql hD3 hz) U U U (qc.at oe) oq oa (ov hz.size) λg4 y5 k6 g5 qf =>
     QN rfl<|QN U<|Qo<|Qw (j:=1) (u:=g4) ((kz.J hz).O g5 (hJ hD3)) U U oe (Qr k6) λy6 g6 ql=>xe ?_
    have k7:Qp 3 ↑I y5 g4 (ld++[d]):=Qp.snoc k6;have k8:=QsG (lf:=lf) (n:=i) g2;have qo:xo D i=d:=by unfold xo;simp[oQ,hv,hd]
    have k9:Qp 3 ↑I y5 hM (lk++[(i:Int)]):=Qf (Ql k5 hz) g5 (λb E H=>k0 b E H);have hzy4:=hz.size;refine Qq<|QH U U<|Qa<|xe<|⟨(i+1,hM,g4,_,_),og,Lb,hv,(((p9.I hz).G g5 (λb E=>.inr (Qg hD3 b E).1))).V g6,ql,Qf k9 g6 (λb E H=>by simp only[oJ]at H;subst H;exact hJ k9 E),Qf k7 g6 (λb E H=>by simp only[oJ]at H;subst H;exact hJ k7 E),λb E H=>?_,by simp only[oN,oP];omega,by simp only[oN,oP];omega,by simp only[];unfold j2;rw[k8,Ls,ga];rfl,by simp only[];unfold kpD;rw[k8,Ls,gb,<-qo];rfl⟩;rcases qf b H with T|T
    .exact k0 b E T
    have:=Q3 k5 b E;omega
   refine Qe<|Qq<|QH U U<|Qa<|xe ?_;have ma:=QsH (lf:=lf) (n:=i) g2;exact⟨(i+1,vk,vd,lk,ld),og,Lb,hv,ha,hH,hK,hl,hZ,og,og,by unfold j2;rw[ma];exact ga,by unfold kpD;rw[ma];exact gb⟩
  refine Qe ?_;have hE:¬l.length=0:=λe=>gs (by show(l.length:Int)=0;omega);have g7:(nxs q.a q.unc lf).length≠0:=by rw[gq];exact hE
  have qr:=yU g7;refine Exists.elim (Nat.exists_eq_succ_of_ne_zero (show f≠0 by omega)) λf' q0=>?_;subst q0;rw[qF g7,<-hh]at hA;rw[kk f' g7,<-hh]at hB;rw[<-hh]at qr;refine Exists.elim (QpL (rk:=(rank:Int)) (rs:=rs) l (λx hx=>ov (gr x hx))) λln h5=>?_;refine Qd<|Qj<|QE kn U<|Qa<|xe<|Q2 (α:=Nat) [(16,16),(51,62)] (λz=>[(51,sS z)]) (λz w'=>z<=l.length/\xj [q.bl] w7 w'/\ReI b10 q S (((l.take z).map (·.1)).foldl cut lf) rn vr lz w') (λz=>l.length - z) 0 Lb ⟨Lp _,xj.Y _ _,V⟩ ?_;rintro j g Y ⟨hj,he,O⟩;have hU:∀b∈ob r7,b≠q.bl:=λb E e=>oy (Qg hC b E).1 J.st.size
  have q1:RmO ↑w6 Y r7 rank rs l:=Qf hC he (λb E H=>hU b E (oA H));have mf:Zk [q.bl] ↑Y r7 l.length 4 (l.flatMap (rmC rank rs)):=QC q1 oa (λb E H=>hU b E (oA H));refine Zi U U (λg8=>?_) (λg8=>?_)
  .refine Qt ?_;have q2:l.length<=j:=by have gk:¬(j:Int)<(l.length:Int):=g8;omega
   rw[Lt q2]at O;obtain⟨ad,cap7,q3,_,q4⟩:∃ad cap,r7=.slice (some ad) l.length cap/\l.length<=cap/\At [q.bl] ↑Y ad (l.flatMap (rmC rank rs)):=by
    rcases mf.2.2 with⟨_,h0⟩|T
    .exact O3 h0 hE
    exact T
   refine Qc<|QN U<|Qm U O.B10 U U<|Qa<|Qo<|Q9 (m:=l.length) (news:=l.flatMap (rmC rank rs)) (L:=[q.bl]) O.R U q3 (by rw[<-h5.1,QbC,h5.2.1]) q4 (by rw[<-h5.1];exact Qgv ln) oa O.st.size λg9 q5 mg mh hn22 =>
    QN rfl<|QN U<|Qo<|Qw (j:=2) (u:=g9) (O.B10.O mh (λE=>ov (Qg O.R _ E).1)) U U oe (Qr mg) λw23 za zb=>xe ?_
   have zv:RzO ↑S q5 g9 (lz++ln):=RzO.snoc (by rw[h5.1,h5.2.1];exact mg);have mj:=O.app gn hT hr mh zv za zb;refine Qq<|Qa<|QN U<|Qo<|Qw (j:=3) (u:=sS rank) mj.B10 U U oe rfl λw24 z1 z2=>xe ?_;have z3:=mj.rounds hT hr z1 z2;have z5:(-9223372036854775808:Int)<=(rank:Int)+1:=oa
   have hrb:(rank:Int)+1<=9223372036854775807:=oa
   refine Qq<|Qa<|x (X2 U U ⟨z5,hrb⟩)<|Qb<|⟨(f',rank+1,(rank:Int),g9,lz++ln,(l.map (·.1)).foldl cut lf),og,Lb,z3,og,by simp only[oN];omega,hA,og,by simp only[Oi,h5.2.2];rw[LD];exact hB⟩
  refine Qe ?_;have hg:j<l.length:=by have gk:(j:Int)<(l.length:Int):=g8;omega
  have htk:l.take (j+1)=l.take j++[l[j]'hg]:=Lo hg;have mo:((l.take (j+1)).map (·.1)).foldl cut lf=cut (((l.take j).map (·.1)).foldl cut lf) (l[j]'hg).1:=by rw[htk,Ls,Mk];rfl
  have hxr:=gr (l[j]'hg).1 (LK (Lm hg));refine Zd (l[j]'hg) λy hy=>?_;rw[hy]at mo hxr;have hyn:y.1=(y.1.toNat:Int):=oa
  refine Qd<|Qn<|Qc<|xp (g:=rmC rank rs) (i:=j) (Qgm rank rs) mf U U hg λa53 gk=>?_;rw[hy]at gk;refine x (Qu gk U U)<|QL [sS 0,sS 0,sS 0,sS 0] λb16 I Z hb16 ka=>QJ (rmC rank rs y) ka oD λhG ha ka=>xe ?_;have mq:sW Y hG:=Z.Q ha hb16;have kb:=O.J mq;have hnn:=O.n;refine ZH [] (Xf 0 8 [7])<|p QA<|p (Xj U)<|p (QF U)<|pq (λ_ hc=>Qk ((h9 kb.st).B.J hc) U U)<|p (QF U)<|pq (λ_ hc=>Qk (ka.J hc) U U) <|
   p (λ_=>QO (i:=y.1.toNat) U (O2 sS hyn) oa)<|pkk<|Xk (i:=y.1.toNat) (kb.F.J (xj.X _ _)) U U oa λpj hp hF11=>pe ?_
  refine Qq<|QH U U<|Qa<|xe<|⟨j+1,oa,Lb,hg,((he.I mq).I (xj.X _ _)).V hp,?_⟩;rw[mo];exact(kb.J (xj.X _ _)).cut gn hr hp hF11 (by rw[Qhf];exact hnn)
 refine Qe ?_;have hO:k<forb.length:=by have hW:(k:Int)<(forb.length:Int):=gp;omega
 have hxk:=kc _ (Lm hO);refine Zd (forb[k]'hO) λy hy=>?_;rw[hy]at hxk;refine Qd<|Qn<|Qc<|xii (i:=k) m6 U U hO λa27 hW=>?_;rw[hy]at hW;refine x (Qy hW U)<|Qb<|Qc<|QN U<|Qm U J.B10 U U<|Qa<|x (Qv ⟨U,U,U,U,La⟩)<|Qo<|Zb [[sS y,sS 1,sS 1,sS (-1)]] λb34 w6 hs6 hb34 hB34=>?_;have hQ:=J.J hs6;refine Qo<|Q9 (m:=1) (news:=[sS y,sS 1,sS 1,sS (-1)]) (L:=[]) hQ.R U U U (hB34.at oe) oq oa hQ.st.size λv7 w7 ms hX hn7 =>
  QN rfl<|QN U<|Qo<|Qw (j:=2) (u:=v7) (hQ.B10.O hX (λE=>ov (Qg hQ.R _ E).1)) U U oe (Qr ms) λY he gv=>xe ?_
 have hR7:RzO ↑S w7 v7 (lz++[⟨(y,1,1,-1),og⟩]):=RzO.snoc ms;have hfk:rmF (forb.take (k+1))=rmF (forb.take k)++[(y,1,1,-1)]:=by unfold rmF;rw[Lo hO,Ls,hy];rfl
 have O:=hQ.app gn hT hr hX hR7 he gv;refine Qq<|QN U<|Qo<|Qw (j:=3) (u:=sS 1) O.B10 U U oe rfl λI Z hB9=>xe ?_;have hI9:=O.rounds hT hr Z hB9;refine Qq<|QH U U<|Qa<|xe ?_;exact⟨(k+1,1,v7,_),og,Lb,hO,hI9,by simp only[oN,oP];omega,.inr U,by simp only[Oi,hV,hfk];rfl⟩
instance:Bw sV 216 (Vn (nS) (nS) (nS) 0) [(0,3),(3,1),(4,4),(8,1)]:={}
theorem Qqm {pl:QU}{ps:List (LI)}{l:List (LI)}:∀r∈spF c pl ps l,0<=r.st/\r.st<(l.length:Int):=λr H=>by
 unfold spF at H;obtain⟨⟨t,i⟩,I,E⟩:=M6.1 H;have hi:=List.snd_lt_add_of_mem_zipIdx I;simp only[oZ]at hi;have J:r.st=(i:Int):=by
  unfold rsn at E;split at E
  .cases E;rfl
  split at E
  .cases E;rfl
  cases E
 omega
theorem Qbv (h:Yo c=0):Zo (spc c).a/\(∀x∈fbs (spc c),0<=x/\x<(spc c).a.st)/\(fbs (spc c)).length<=4096/\(spc c).fb.length<=4096/\KG c.ev=0:=by
 unfold Yo at h;by_cases H:Zf c≠0
 .rw[O1 H]at h;exact O3 h H
 rw[O0 H]at h;have Y:Zf c=0:=Lq.1 H;have I:=ZO Y;by_cases J:UK (auts c.co)≠0
 .rw[O1 J]at h;exact O3 h J
 rw[O0 J]at h;cases O:xz (auts c.co)with
 | none=>rw[O]at h;cases h
 | some z =>
  rw[O]at h;by_cases S:UK (auts c.co++auts c.rq)≠0
  .rw[O1 S]at h;exact O3 h S
  rw[O0 S]at h;cases T:xz (auts c.co++auts c.rq)with
  | none=>rw[T]at h;cases h
  | some y =>
   have V:∀a∈auts c.co++auts c.rq,Zo a:=λa E=>by
    rcases Lh.1 E with E|E
    .exact Y3 I.co a E
    exact Y3 I.rq a E
   have hsp:=(JM V (A:=y.1) (Q:=y.2) T).1;have hl:=Qgd c z.1 z.2 y.2;have hb:=hsp.le;rw[(Qbw (c:=c) (pl:=z.1) (ps:=z.2) (sa:=y.1) (ts:=y.2) O T)];unfold fbs;refine⟨hsp.okay V,λx hx=>?_,by rw[Lj];simp only[];omega,og,I.e0⟩;obtain⟨r,Z,rfl⟩:=Ly.1 hx;have:=Qqm r Z;rw[hsp.st];exact this
theorem st4 (r:Rsn):(ZV r).length=4:=rfl
theorem yw {c:CL}(h0:ZG L ↑w c)(hO:Kb w 4096):
  QZ sV 88 [c.val] w λr w'=>sW w w'/\∃us c0 c1 c2 c3 sa sm se o,r=.tuple #[sT us,.agg #[c0,c1,c2,c3,sa,sS (if Yo c.Z=0 then(suA c.Z).st else 0),sm,se,o],sS (Yo c.Z)]/\us.length=8/\Zj us/\Zj [c0,c1,c2,c3,sa,sm,se,o] /\
   (Yo c.Z≠0->sa=nS/\sm=nS/\se=nS)/\(Yo c.Z=0->∀L:LN,(∀b∈L,b<↑w)->ZE L ↑w' sa sm se (suA c.Z)/\Qae L ↑w' c0 c1 c2 (spc c.Z).a (fbs (spc c.Z)) (unc c.Z.ev)):=by
 have h:=h0.up (L':=[]) oe;have hl:suA c.Z=Qbr (spc c.Z).a (fbs (spc c.Z)) (unc c.Z.ev):=rfl;have hP:c.Z.ev=c.ev:=rfl;have hm:=Qbv (c:=c.Z);refine Zd (suA c.Z) λSA hQ=>?_;rw[hQ]at hl ⊢;refine Zd (Yo c.Z) λE hE=>?_;rw[hE]at hm ⊢;refine Zd (spc c.Z) λS hS=>?_;rw[hS]at hm hl ⊢;rw[hP]at hm hl ⊢;refine Zt func88 ?_;refine Qc<|Zg c.cells λb1 w1 hA gv hB=>QL [nS,sS 0,nS,nS,nS,nS,nS,nS] λb2 w2 hz gw hn=>QL (Vn (nS) (nS) (nS) 0) λb3 w3 ho gx hp=>Qb ?_;have h2:=(hA.I hz).I ho;have gy:=hA.size;have gz:=hn.lt;have g0:=hp.lt;have hsp:=UG (h.J h2) (hO.J h2);rw[hE,hS]at hsp;refine Qc<|QV ((hB.J hz).J ho) U U<|Qx<|hsp.S ?_;rintro r4 w4 ⟨he,v,rfl,⟨us,rfl,h3,h4⟩,hF⟩;have g2:=he.size;refine Qa<|QS U U<|QS U U<|QL [nS,sS 0,nS,nS,nS,nS,nS,nS] λb5 w5 hR hT hg=>Qo<|ZA (us:=us) hg U U h3 U h4 λw6 hV hg=>Qb ?_;have V:sW w4 w6:=hR.Q hV hT;have h5:=(h2.I he).I V;have hC:=(hn.J (ho.I he)).J V;have hD:=(hp.J he).J V;have g3:=hg.lt;refine Qd<|Qj<|Zu U U<|xe<|QY rfl (λhq=>?_) (λhq=>?_)
 .refine Qc<|x (Q8 [] La)<|x (Q8 [] La)<|Qa<|QJ [nS,sS 0,nS,nS,nS,nS,nS,nS] hC ⟨U,U,U,U,U,U,U,U,La⟩ λw7 H hW =>
   QJ (Vn (nS) (nS) (nS) 0) (hD.O H ol) ⟨U,U,U,U,U,U,U,U,U,La⟩ λw8 hs hX=>Qb<|Qi ⟨[.agg #[nS,sS 0,nS,nS,nS,nS,nS,nS],.agg (Vn (nS) (nS) (nS) 0).toArray,sS E],⟨YO (hW.O hs ol),YO hX,U,La⟩,(h5.Q H oa).Q hs oa,[nS,sS 0,nS,nS,nS,nS,nS,nS],nS,nS,nS,sS 0,nS,nS,nS,nS,by rw[O0 hq];rfl,U,⟨U,U,U,U,U,U,U,U,La⟩,⟨U,U,U,U,U,U,U,U,La⟩,λ_=>⟨U,U,U⟩,λe=>O3 e hq⟩
 have ht:E=0:=Lq.1 hq;obtain⟨hY,hZ,ga,g4,hG⟩:=hm ht;obtain⟨va,vm,ve,v1,v2,v3,v4,cos,rqs,gb,_,_,gc⟩:=hF ht;have gg:us=[va,sS S.a.st,vm,ve,v1,v2,v3,v4]:=by
  have h1:=O2 (λv=>match v with|Value.agg a=>a.toList|_=>[]) gb
  simpa using h1
 subst gg;have hH:=(gc [] oe);have gh:=hH.1.J V;have hI:=hH.2.2.2.2.J V;refine Qe<|Qc<|Qb<|Qd<|Qc<|Qm U hg U U<|QE hI U<|Qa<|xe<|Q2 (α:=Nat×O9) [(7,7),(9,9),(24,33)] (λz=>[(7,z.2),(24,sS z.1)]) (λz w'=>z.1<=S.fb.length/\sW w6 w'/\Qp 3 ↑w6 w' z.2 ((S.fb.take z.1).map (·.st))) (λz=>S.fb.length - z.1) (0,nS) oB ⟨Lp _,xj.Y _ _,QI _ _ _ _⟩ ?_;rintro⟨k,vf⟩ g w7 ⟨hk,H,O⟩;simp only[]at hk O;refine Zi rfl U (λh6=>?_) (λh6=>?_)
 .refine Qt ?_;have gi:S.fb.length<=k:=by have hv:¬(k:Int)<(S.fb.length:Int):=h6;omega
  rw[Lt gi]at O;have O:Qp 3 ↑w6 w7 vf (fbs S):=O;have gj:=h5.I H;have gk:=H.size;refine Qc<|QN U<|x (Qk ((hB.J (hz.I ho)).J ((he.I V).I H)) U U)<|Qx<|(QiZ (h.ev.J gj)).S ?_;rintro g5 T ⟨Y,vu,rfl,hU⟩;rw[O1 hG]at hU;refine Qa<|QS U U<|QS U U<|x Qh<|Qb<|Qd<|Qj<|Zu U U<|xe<|QY U (λgl=>O3 hG gl) (λ_=>?_);refine Qe ?_;have h3:(unc c.ev).length<=1099511627776:=LJ (U3 _ c.ev 0) h.ev.arr.le;have Z:=H.I Y;have gm:=gh.J Z;have hw:sW T { T with drawn:=T.drawn+1 }:=xj.X _ _
  have hJ:=hg.J Z;have hK:b5∉[b2]:=ol
  have g6:=Z.size;refine Qd<|ZH [b2] (Xf 0 9 [5,6,7])<|pq (λ_ hc=>ZN (hJ.O hc hK) U U)<|p (QF U)<|pq (λ_ hc=>Q7 (us:=[va,sS S.a.st,vm,ve]) (hJ.O hc hK) U U U) <|
   p QA<|p QA<|pk<|xg<|(QhW (gm.J hw) hY (((Qp.ints (L:=[]) O oa oe).J Y).J hw) hZ ga ((Qp.ints (L:=[]) hU h3 oe).J hw)).S ?_
  rintro g7 g8 ⟨gn,c0,c1,c2,c3,sa,sm,se,o,rfl,I,h7⟩;have hh:=hw.I gn;refine⟨hh.any,?_⟩;have hM:Qbr S.a (fbs S) (unc c.ev)=SA:=hl.symm;rw[hM]at h7;have ha:=(h7 [] oe).1;refine pk<|Ux [va,sS S.a.st,vm,ve,v1,v2,v3,v4] ((hC.J Z).J hh) h4 λg9 hi hn=>⟨hh.any.V hi,?_⟩;refine pkk<|ZA (us:=[c0,c1,c2,c3,sa,sS SA.st,sm,se,o]) (((hD.J Z).J hh).O hi ol) U (by rw[<-hM];rfl) U U ⟨I.1,I.2.1,I.2.2.1,I.2.2.2.1,ha.al.one,U,ha.mr.one,ha.ed.one,I.2.2.2.2.1,La⟩ λka hy hp=>p ZL<|pe ?_;have go:b2∉[b3]:=ol
  refine Qi ⟨[.agg #[va,sS S.a.st,vm,ve,v1,v2,v3,v4],.agg #[c0,c1,c2,c3,sa,sS SA.st,sm,se,o],sS 0],⟨YO (hn.O hy go),YO hp,U,La⟩,
   (((h5.I Z).I hh).Q hi oa).Q hy oa,_,c0,c1,c2,c3,sa,sm,se,o,by rw[ht,O1 rfl];rfl,U,h4,⟨I.1,I.2.1,I.2.2.1,I.2.2.2.1,ha.al.one,ha.mr.one,ha.ed.one,I.2.2.2.2.1,La⟩,λe=>O3 ht e,λ_ L hL=>?_⟩
  have h1:=h7 (b2::b3::L) (λb J=>by
   have kb:({ T with drawn:=T.drawn+1 }:O8).heap.size=T.heap.size:=rfl
   simp only[oM]at J;rcases J with rfl|rfl|J
   .omega
   .omega
   have:=hL b J;omega)
  exact⟨((h1.1.st (hi.S oe)).st (hy.S oe)).up (λb J=>.inl (by simp[J])),((h1.2.st (hi.S oe)).st (hy.S oe)).up (λb J=>.inl (by simp[J]))⟩
 refine Qe ?_;have hj:k<S.fb.length:=by have hv:(k:Int)<(S.fb.length:Int):=h6;omega
 have hN:S.fb.take (k+1)=S.fb.take k++[S.fb[k]'hj]:=Lo hj;have kc:((S.fb.take k).map (·.st)).length=k:=by rw[Lj,LB];omega
 refine Zd (S.fb[k]'hj) λr hr=>?_;rw[hr]at hN;refine Qd<|Qn<|Qc<|xp (g:=ZV) (i:=k) st4 (hI.J H) U U hj λke hv=>?_;rw[hr]at hv;refine x (Qu hv U U)<|QL [sS 0,sS 0,sS 0,sS 0] λb9 w8 hs gp h8=>QJ (ZV r) h8 oD λw9 gq h8=>xe ?_;have h9:sW w7 w9:=hs.Q gq gp;have kf:=h9.size;have gk:=H.size;refine Qq<|Qa<|Qm U h8 U U<|Qo<|Zb [[sS r.st]] λkg T Y kh gr =>
  Qo<|Q9 (m:=1) (news:=[sS r.st]) (L:=[]) (Ql O (h9.I Y)) U U U (gr.at oe) oq oa (ov Y.size) λgs ki gt gu kj=>Qb<|Qq<|QH U U<|Qa<|xe ?_
 refine⟨(k+1,gs),og,oB,hj,((H.I h9).I Y).G gu (λb J=>.inr (Qg O b J).1),?_⟩;simp only[];rw[hN,Ls];exact Qp.snoc gt
theorem j9 {c:CL}(h0:ZG L ↑w c)(he:Kb w 4096):
  QZ sV 176 [c.val] w λr w'=>sW w w'/\∃sa sm se,r=.tuple #[.agg #[sa,sS (if Yo c.Z=0 then(suA c.Z).st else 0),sm,se],sS (suE c.Z)]/\Zj [sa,sm,se] /\
   (suE c.Z≠0->sa=nS/\sm=nS/\se=nS)/\(suE c.Z=0->∀L:LN,(∀b∈L,b<↑w)->ZE L ↑w' sa sm se (suA c.Z)):=by
 have hg:suE c.Z=Yo c.Z:=rfl;rw[hg];refine Zt func176 ?_;refine Qc<|Zg c.cells λb1 w1 T hr hh=>QL [nS,sS 0,nS,nS] λb2 w2 V hs I=>Qb ?_;have J:=T.I V;have ht:=T.size;have hv:=I.lt;refine Qc<|QV (hh.J V) U U<|Qx<|(yw ((h0.up (L':=[]) oe).J J) (he.J J)).S ?_;rintro r3 w3 ⟨Y,us,c0,c1,c2,c3,sa,sm,se,o,rfl,hi,hj,E,hl,hm⟩;refine Zd (if Yo c.Z=0 then(suA c.Z).st else 0) λN hN=>?_
 rw[hN];refine Qa<|QS U U<|QS U U<|QS U U<|QL [nS,sS 0,nS,nS,nS,nS,nS,nS] λb4 w4 hn hw O=>QL (Vn (nS) (nS) (nS) 0) λb5 w5 Z hy ho =>
  Qo<|ZA (us:=us) (O.J Z) U U hi U hj λw6 ha hz=>QJ [c0,c1,c2,c3,sa,sS N,sm,se,o] (ho.O ha (by have:=O.lt;simp only[oJ];omega)) ⟨E.1,E.2.1,E.2.2.1,E.2.2.2.1,E.2.2.2.2.1,U,E.2.2.2.2.2.1,E.2.2.2.2.2.2.1,E.2.2.2.2.2.2.2.1,La⟩ λw7 hp hq=>Qb ?_
 have h2:=O.lt;have S:sW w3 w7:=((hn.I Z).Q ha oa).Q hp oa;refine Qc<|QN U<|x (Q7 (us:=[sa,sS N,sm,se]) hq U U U)<|Qa<|QJ [sa,sS N,sm,se] ((I.J Y).J S) ⟨E.2.2.2.2.1,U,E.2.2.2.2.2.1,E.2.2.2.2.2.2.1,La⟩ λw8 hc I=>Qb<|Qi ⟨[.agg #[sa,sS N,sm,se],sS (Yo c.Z)],⟨YO I,U,La⟩,((J.I Y).I S).Q hc oa,sa,sm,se,U,⟨E.2.2.2.2.1,E.2.2.2.2.2.1,E.2.2.2.2.2.2.1,La⟩,hl,λe L hL=>?_⟩;have h1:=hm e (b2::L) (λb H=>by
  simp only[oM]at H;rcases H with rfl|H
  .omega
  have:=hL b H;omega)
 exact((h1.1.J S).st (hc.S oe)).up (λb H=>.inl (by simp[H]))
theorem Qn3 {H:xI}{n:Int}(h:QP H b T [sS n])(E:b∉L):QG L H (sL b 1 1) [n]:=
 h.arr E (n:=1) (cap:=1) (sz:=1) U oa (Lu _)
theorem Qdx {c:CL}{q:MV}(h0:ZG L ↑w c)(h9:QG L ↑w q.v q.co):
  QZ sV 86 [c.val,.agg #[sS q.kd,sS q.ix,q.v]] w λr w'=>sW w w'/\∃us,r=.tuple #[sT us,sS (qR c.Z q.m)]/\us.length=5/\Zj us/\(qR c.Z q.m≠0->us=Z3)/\(qR c.Z q.m=0->Qf3 ↑w ↑w' (sT us) (Jr c.Z q.m)):=by
 have h:=h0.up (L':=[]) oe;have Z:=h9.up (L':=[]) oe;have S:qR c.Z q.m=if mdE c.Z q.m≠0 then mdE c.Z q.m else Qbz c.Z (prt q.m):=rfl
 have hA:Jr c.Z q.m=QhR c.Z (prt q.m):=rfl;rw[hA];refine Zd (qR c.Z q.m) λE hE=>?_;rw[hE]at S ⊢;refine Zt func86 ?_;refine Qc<|Zg c.cells λb2 w1 hw hT hi=>Zg (YN q) λb3 w2 ha hU hy=>QL Z3 λb4 w3 T hV hz=>Qb ?_;have hj:=(hw.I ha).I T;have hW:=hw.size;have hX:=ha.size;have hY:=hz.lt;refine Qd<|Qc<|QV ((hi.J ha).J T) U U<|QV (hy.J T) U U<|Qx<|(Qif (h.J hj) (Z.J hj)).S ?_;rintro r4 w4 ⟨rfl,V⟩;refine Qb ?_;have h2:=hj.I V;have hZ:=V.size;have hl:=(hy.J T).J V;have h3:=hz.J V;refine Qj<|Zu U U<|xe<|QY rfl (λhc=>?_) (λhc=>?_)
 .rw[O1 hc]at S;subst S;refine Qc<|x (Qv La)<|Qa<|QJ Z3 h3 ⟨U,U,U,U,U,La⟩ λw5 hB hC=>Qb<|Qi ⟨[sT Z3,sS (mdE c.Z q.m)],⟨YO hC,U,La⟩,h2.Q hB oa,Z3,U,U,⟨U,U,U,U,U,La⟩,λ_=>U,λh0=>O3 h0 hc⟩
 rw[O0 hc]at S;subst S;refine Qe<|Qc<|Qm U hl U U<|x (Qv ⟨Z.cells,La⟩)<|QL [nS,nS,nS,nS] λb7 w6 hD hF hG=>QJ [q.v,nS,nS,nS] hG ⟨Z.one,U,U,U,La⟩ λw7 hH h4 =>
  xe ?_
 have h5:sW w4 w7:=hD.Q hH hF;have ga:=h4.lt;refine Qc<|Qm U (hl.J h5) U U<|Qo<|Zb [[sS q.ix]] λI w8 hn gb hI =>
  Qb ?_
 have he:=h5.I hn;have gc:=hn.size;have ho:=h4.J hn;have hJ:↑w<=b7:=oa
 refine QX (α:=O9×O9×O9) [(22,33)] (λ_=>[]) (λz w'=>xj [b7] w8 w'/\QP ↑w' b7 293 [q.v,z.1,z.2.1,z.2.2]/\QG [] ↑w' z.1 (prt q.m).rq/\QG [] ↑w' z.2.1 (prt q.m).ex/\QG [] ↑w' z.2.2 (prt q.m).cs) om ?_ ?_
 .have hp:∀{w':O8},xj [b7] w8 w'->QG [] ↑w' (sL I 1 1) [q.ix]:=λhs=>Qn3 (hI.O hs ol) oe;refine Qc<|Qm U (hl.J he) U U<|xe<|Qn<|Qc<|x (QW U U)<|Qb<|QY U (λhq=>?_) (λhq=>?_)
  .have hk1:q.kd=1:=hq;refine Qq<|Qa<|QN U<|Qo<|Qw (j:=1) (u:=sL I 1 1) ho U U oe rfl λO H J=>xe ?_;refine⟨(sL I 1 1,nS,nS),La,H,J,?_,?_,?_⟩
   .show QG _ _ _ (if q.kd=1 then[q.ix]else[]);rw[O1 hk1];exact hp H
   .show QG _ _ _ (if q.kd=2 then[q.ix]else[]);rw[O0 oa];exact K8 _ _
   show QG _ _ _ (if q.kd≠1/\q.kd≠2 then[q.ix]else[]);rw[O0 oa];exact K8 _ _
  have hk1:¬q.kd=1:=hq;refine Qc<|x (QW U U)<|Qb<|QY U (λht=>?_) (λht=>?_)
  .have hg:q.kd=2:=ht;refine Qq<|Qa<|QN U<|Qo<|Qw (j:=2) (u:=sL I 1 1) ho U U oe rfl λO H J=>xe ?_;refine⟨(nS,sL I 1 1,nS),La,H,J,?_,?_,?_⟩
   .show QG _ _ _ (if q.kd=1 then[q.ix]else[]);rw[O0 hk1];exact K8 _ _
   .show QG _ _ _ (if q.kd=2 then[q.ix]else[]);rw[O1 hg];exact hp H
   show QG _ _ _ (if q.kd≠1/\q.kd≠2 then[q.ix]else[]);rw[O0 oa];exact K8 _ _
  have hg:¬q.kd=2:=ht;refine Qq<|Qa<|QN U<|Qo<|Qw (j:=3) (u:=sL I 1 1) ho U U oe rfl λO H J=>xe ?_;refine⟨(nS,nS,sL I 1 1),La,H,J,?_,?_,?_⟩
  .show QG _ _ _ (if q.kd=1 then[q.ix]else[]);rw[O0 hk1];exact K8 _ _
  .show QG _ _ _ (if q.kd=2 then[q.ix]else[]);rw[O0 hg];exact K8 _ _
  show QG _ _ _ (if q.kd≠1/\q.kd≠2 then[q.ix]else[]);rw[O1 ⟨hk1,hg⟩];exact hp H
 rintro⟨v1,v2,v3⟩ g O ⟨H,J,hK,hM,hN⟩;have hh:sW w O:=(h2.I he).Q H hJ;have gg:=H.size;have hO:QP ↑O b2 45 c.cells:=((((hi.J ha).J T).J V).J he).O H (by have:=hi.lt;simp only[oJ];omega);have hP:QP ↑O b4 45 Z3:=(h3.J he).O H ol;refine Qc<|QV hO U U<|QV J U U<|Qx<|(QfL (p:=prt q.m) (h.J hh) (Z.J hh) hK hM hN).S ?_;rintro gh gi ⟨h6,us,rfl,hv,h7,hQ,hR⟩;refine QS rfl U<|QS U U<|Qo<|ZA (us:=us) (hP.J h6) U U hv U h7 λgj h8 hS=>Qb<|Qi ⟨[sT us,sS (Qbz c.Z (prt q.m))],⟨⟨_,U,ZR hv (hS.at (L:=[]) oe).cells⟩,rfl,La⟩,(hh.I h6).Q h8 oa,us,rfl,hv,h7,hQ,λe=>?_⟩;obtain⟨cl,e1,e2,e3⟩:=hR e;refine⟨cl,e1,e2,λL hL=>?_⟩;have h1:=e3 (b4::L) (λb Y=>by
  rcases Lk.1 Y with rfl|Y
  .omega
  have:=hL b Y;have:=hh.size;omega)
 exact(h1.st (h8.S oe)).up (λb Y=>.inl (by simp[Y]))
theorem QnZ {c:CL}{q:MV}(Y:ZG L ↑w c)(ho:QG L ↑w q.v q.co)(hp:Kb w 4096):
  QZ sV 103 [c.val,.agg #[sS q.kd,sS q.ix,q.v]] w λr w'=>sW w w'/\∃sa st sm se,r=.tuple #[.agg #[sa,sS st,sm,se],sS (msE c.Z q.m)]/\Zj [sa,sm,se] /\
   (msE c.Z q.m=0->st=(msA c.Z q.m).st/\∀L:LN,(∀b∈L,b<↑w)->ZE L ↑w' sa sm se (msA c.Z q.m))/\(msE c.Z q.m≠0->st=0/\sa=nS/\sm=nS/\se=nS):=by
 have H:msE c.Z q.m=if qR c.Z q.m≠0 then qR c.Z q.m else suE (Jr c.Z q.m):=rfl
 have hq:msA c.Z q.m=suA (Jr c.Z q.m):=rfl;rw[hq];refine Zd (msE c.Z q.m) λE hE=>?_;rw[hE]at H ⊢;refine Zt func103 ?_;refine Qc<|Zg c.cells λb2 w1 hg hG hs=>Zg (YN q) λb3 w2 Z hH ht=>QL [nS,sS 0,nS,nS] λb4 w3 ha hI hh=>Qb ?_;have hc:=(hg.I Z).I ha;have hJ:=hg.size;have hK:=Z.size;have hM:=hh.lt;refine Qc<|QV ((hs.J Z).J ha) U U<|QV (ht.J ha) U U<|Qx<|(Qdx ((Y.up (L':=[]) oe).J hc) ((ho.up (L':=[]) oe).J hc)).S ?_;rintro r4 w4 ⟨he,us,rfl,hi,hw,hO,hy⟩;have hP:=he.size;refine Qa<|QS U U<|QS U U<|QL Z3 λb6 w5 hz h2 h3=>Qo<|ZA (us:=us) h3 U U hi U hw λO h4 h5 =>
  Qb ?_
 have S:sW w4 O:=hz.Q h4 h2;have T:=(hc.I he).I S;have hQ:=S.size;have hj:=(hh.J he).J S;refine Qd<|Qj<|Zu U U<|xe<|QY rfl (λI=>?_) (λI=>?_)
 .rw[O1 I]at H;subst H;refine Qc<|x (Qv La)<|Qa<|QJ [nS,sS 0,nS,nS] hj oD λw7 h6 h7=>Qb<|Qi ⟨[.agg #[nS,sS 0,nS,nS],sS (qR c.Z q.m)],⟨YO h7,U,La⟩,T.Q h6 oa,nS,0,nS,nS,U,oC,λY=>O3 Y I,λ_=>⟨U,U,U,U⟩⟩
 rw[O0 I]at H;subst H;obtain⟨cl,hv,h8,h9⟩:=hy (Lq.1 I);have hA:ZG [] ↑O cl:=(h9 [] oe).J S;have hl:=j9 hA (hp.J T);rw[h8]at hl;have hB:∀R,QZ sV 176 [cl.val] O R->QZ sV 176 [sT us] O R:=λR hR=>by rw[hv];exact hR
 refine Qe<|Qc<|QV h5 U hi<|Qx<|(hB _ hl).S ?_;rintro r8 w8 ⟨hm,sa,sm,se,rfl,V,hC,hD⟩;refine Zd (if Yo (Jr c.Z q.m)=0 then(suA (Jr c.Z q.m)).st else 0) λN hN=>?_
 rw[hN];refine QS rfl U<|QS U U<|QJ [sa,sS N,sm,se] (hj.J hm) ⟨V.1,U,V.2.1,V.2.2.1,La⟩ λw9 hn hF=>Qb<|Qi ⟨[.agg #[sa,sS N,sm,se],sS (suE (Jr c.Z q.m))],⟨YO hF,U,La⟩,(T.I hm).Q hn oa,sa,N,sm,se,U,V,λe=>⟨?_,λL hL=>?_⟩,λe=>?_⟩
 .have e':Yo (Jr c.Z q.m)=0:=e;rw[O1 e']at hN;exact hN.symm
 .have h1:=hD e (b4::L) (λb J=>by
   rcases Lk.1 J with rfl|J
   .omega
   have:=hL b J;have:=T.size;omega)
  exact(h1.st (hn.S oe)).up (λb J=>.inl (by simp[J]))
 have e':¬Yo (Jr c.Z q.m)=0:=e;rw[O0 e']at hN;exact⟨hN.symm,hC e⟩
theorem Jq.app3 {g:α->LV}{ps:α->List (O9×Nat×Nat×LV)}{base:Nat}{E H:O8}{v I:O9}{l:List α}{q:α}(h:Jq g sz T ps base E v l)
  (V:∀t∈ps q,Yl base (ob v) ↑E t.1 t.2.1 t.2.2.1 t.2.2.2)
  (Y:H.ownsRow base T sz I (l.length+1) (l.flatMap g++g q)) (J:xj (ob v) E H) (O:∀b∈ob I,b∈ob v\/↑E<=b):Jq g sz T ps base H I (l++[q]):=by
 refine⟨?_,λd hd t S=>?_⟩
 .rw[Ln,LC];simpa using Y
 rcases Lh.1 hd with hd|hd
 .exact(h.each d hd t S).app J O
 simp only[oJ]at hd;subst hd;exact(V t S).app J O
abbrev Qtb (p:AV):List (O9×Nat×Nat×LV):=[(p.va,p.a.al.length,1,p.a.al.map (.int .i64)),(p.vm,p.a.mr.length,1,p.a.mr.map (.int .i64)),(p.ve,p.a.ed.length,3,p.a.ed.flatMap Qz)]
abbrev AvP (base:Nat)(w:O8)(v:O9)(l:List AV):Prop:=Jq Zq 4 66 Qtb base w v l
theorem AvP.auts {base:Nat}{v:O9}{l:List AV}(h:AvP base w v l)(J:l.length<=1099511627776)(H:∀b∈L,b<base):JL L ↑w v l :=
 ⟨QC h.own J (λb E hbL=>oy (Qg h.own b E).1 (H b hbL)),λp I=>⟨h.each p I (p.va,p.a.al.length,1,p.a.al.map (.int .i64)) oe L (λb E=>.inl (H b E)),h.each p I (p.vm,p.a.mr.length,1,p.a.mr.map (.int .i64)) oe L (λb E=>.inl (H b E)),h.each p I (p.ve,p.a.ed.length,3,p.a.ed.flatMap Qz) oe L (λb E=>.inl (H b E))⟩⟩
def Qto (N:Nat)(H:xI)(v:O9)(l:List QU):Prop:=∃ps:List AV,ps.map (·.a)=l/\∀L:LN,(∀b∈L,b<N)->JL L H v ps
theorem Qmn {p:AV}(E:p.va.oneCell'=true)(H:p.vm.oneCell'=true)(I:p.ve.oneCell'=true):∀u∈Zq p,u.oneCell'=true:=by
 intro u hu;simp only[Zq,oM,oL,or_false]at hu;rcases hu with rfl|rfl|rfl|rfl
 .exact E
 .rfl
 .exact H
 exact I
theorem ZE.parts {base:Nat}{H:xI}{p:AV}(h:∀L:LN,(∀b∈L,b<N)->ZE L H p.va p.vm p.ve p.a)(I:base<=N)(J:∀b∈av,b<N):∀t∈Qtb p,Yl base av H t.1 t.2.1 t.2.2.1 t.2.2.2:=by
 intro t O;simp only[oM,oL,or_false]at O;rcases O with rfl|rfl|rfl
 .exact Yl.of_lt (λL E=>(h L E).al) I J
 .exact Yl.of_lt (λL E=>(h L E).mr) I J
 exact Yl.of_lt (λL E=>(h L E).ed) I J
theorem UZ (h:zk c):(xq c).length<=96:=by have:=QbY h 3 oa;rw[Qdw]at this;omega
theorem Qgn:∀(l:LN) (b:Nat),l.foldl (λl b=>l &&& (65535 ^^^ b)) b<=b
 | [],_=>Lu _
 | _::l,_=>LJ (Qgn l _) Nat.and_le_left
theorem yK :∀i∈rem c,0<=i/\i<(c.co.length:Int):=by
 intro i hi;unfold rem setK at hi;obtain⟨j,H,rfl⟩:=Ly.1 hi;have I:=(LY.1 H).2;have E:=O5 I;refine⟨oa,?_⟩;refine Oe λS=>?_;have J:c.co.length<=j:=oa
 have T:Qe0 c<=2 ^ c.co.length - 1:=Qgn _ _;have V:0<2 ^ c.co.length:=Nat.pow_pos oh;have Y:2 ^ c.co.length<=2 ^ j:=Nat.pow_le_pow_right oh J;have O:Qe0 c / 2 ^ j=0:=Nat.div_eq_of_lt oa;rw[O]at E;cases E
theorem QjA (c:Zy):UO c=if Zf c≠0 then Zf c else msL c (xq c):=rfl
theorem Qdt (c:Zy)(m:Vw)(l:List Vw):msL c (m::l)=if msE c m≠0 then msE c m else msL c l:=rfl
abbrev coA (c:Zy)(i:Int):QU:=(c.co.getD i.toNat ⟨.empty,⟨[],0,[],[]⟩⟩).a
theorem jG {c:CL}(O:ZG L ↑w c)(g9:Kb w 4096):
  QZ sV 50 [c.val] w λr w'=>sW w w'/\∃v,r=.tuple #[v,sS (UO c.Z)]/\(UO c.Z≠0->v=nS)/\(UO c.Z=0->v.oneCell'=true/\Qto ↑w ↑w' v (zG c.Z)):=by
 have h:=O.up (L':=[]) oe;have hr:=QjA c.Z;have ka:zG c.Z=(xq c.Z).map (msA c.Z)++(rem c.Z).map (coA c.Z):=rfl;refine Zd (UO c.Z) λE hE=>?_;rw[hE]at hr ⊢;refine Zt func50 ?_;refine Qc<|Zg c.cells λb1 w1 hJ mv gh=>x Qh<|Qb<|Qc<|QV gh U U<|Qx<|(jI (h.J hJ)).S ?_;rintro r2 Y ⟨hK,vM,lM,rfl,hM,mw,kb⟩;have gi:=hJ.I hK;have my:=hJ.size;have mz:=hK.size;refine Qa<|QS U U<|QS U U<|x Qh<|Qb<|Qd<|Qj<|Zu U U<|xe<|QY rfl (λhs=>?_) (λhs=>?_)
 .rw[O1 hs]at hr;subst hr;refine Qj<|x Qh<|Qb<|Qi ⟨[nS,sS (Zf c.Z)],oB,gi,nS,U,λ_=>U,λO=>O3 O hs⟩
 rw[O0 hs]at hr;have h8:=Lq.1 hs;have kc:zk c.Z:=(ZO h8).sr;have hB:=kb h8;have m2:lM.length<=96:=by have:=UZ kc;rw[<-hB,Lj]at this;exact this
 have gj:Zk [] ↑Y vM lM.length 3 (lM.flatMap YN):=hM.arr oa oe;have m3:(rem c.Z).length<=8:=XH _ _;have gk:=gh.J hK;refine Qe<|Qc<|Qb<|Qd<|Qj<|QE gj U<|Qa<|xe<|Q2 (α:=Nat×O9×List AV) [(2,3),(6,6),(8,10),(25,42)] (λz=>[(6,z.2.1),(25,sS z.1)]) (λz w'=>z.1<=lM.length/\sW Y w'/\AvP ↑Y w' z.2.1 z.2.2/\z.2.2.map (·.a)=(lM.take z.1).map (λq=>msA c.Z q.m)/\msL c.Z ((lM.drop z.1).map MV.m)=E) (λz=>lM.length - z.1) (0,nS,[]) oB
  ⟨Lp _,xj.Y _ _,Jq.nil,U,by rw[List.drop_zero,hB];exact hr.symm⟩ ?_
 rintro⟨k,v,l⟩ g w3 ⟨hk,Z,ha,hv,I⟩;simp only[]at hk ha hv I;have hC:=gi.I Z;have m4:=Z.size;have m5:l.length=k:=by have:=O2 oR hv;rw[Lj,Lj,LB]at this;omega
 have hN:=gk.J Z;have h3:=h.J hC;refine Zi rfl U (λhO=>?_) (λhO=>?_)
 .refine Qt ?_;have gl:lM.length<=k:=by have hP:¬(k:Int)<(lM.length:Int):=hO;omega
  rw[Lt gl]at hv;rw[Lx gl]at I;have gm:E=0:=I.symm;have ke:l.map (·.a)=(xq c.Z).map (msA c.Z):=by rw[hv,<-hB,L4];rfl
  refine Qc<|QV hN U U<|Qx<|(qu h3).S ?_;rintro r4 w4 ⟨hD,vR,rfl,_,kf⟩;have hR:=kf h8;have kg:=hC.I hD;have m6:=hD.size;refine Qa<|QS U U<|QS U U<|x Qh<|Qb<|Qd<|Qj<|Zu U U<|xe<|QY U (λgn=>?_) (λgn=>?_)
  .exact O3 h8 gn
  refine Qe ?_;have kh:QG [] ↑w4 vR (rem c.Z):=Qp.ints hR oa oe;refine Qd<|Qj<|QE kh U<|Qa<|xe<|Q2 (α:=Nat×O9×List AV) [(6,6),(13,14),(53,78)] (λz=>[(6,z.2.1),(53,sS z.1)]) (λz w'=>z.1<=(rem c.Z).length/\xj (ob v) w4 w'/\AvP ↑Y w' z.2.1 z.2.2/\z.2.2.map (·.a)=(xq c.Z).map (msA c.Z)++((rem c.Z).take z.1).map (coA c.Z)/\∀b∈ob z.2.1,b∈ob v\/↑w4<=b) (λz=>(rem c.Z).length - z.1) (0,v,l) oB
   ⟨Lp _,xj.Y _ _,Jq.J ha hD,by simp only[ON,OD,Ol];exact ke,λb H=>.inl H⟩ ?_
  rintro⟨j,vj,lj⟩ g w5 ⟨hj,hw,he,hy,hQ⟩;simp only[]at hj he hy hQ;have hS:=Qg ha.own;have go:=Qg he.own;have gp:sW w w5:=kg.G hw (λb H=>.inr (ov (hS b H).1));have h5:=h.J gp;have m7:=hw.size;have m8:lj.length<=200:=by
   have e1:=O2 oR hy;rw[Lj,Ln,Lj,Lj,LB,<-hB,Lj]at e1;omega
  have ki:QP ↑w5 b1 45 c.cells:=(hN.J hD).O hw (λH=>oy (hS b1 H).1 gk.lt);have kj:QG [] ↑w5 vR (rem c.Z):=(((Qp.ints hR oa (L:=ob v) (λb H=>(hS b H).2)).st hw)).up oe;refine Zi U U (λhT=>?_) (λhT=>?_)
  .refine Qt ?_;have kk:(rem c.Z).length<=j:=by have hP:¬(j:Int)<((rem c.Z).length:Int):=hT;omega
   rw[Lt kk,<-ka]at hy;refine Qj<|x Qh<|Qb<|Qi ⟨[vj,sS 0],oB,gp,vj,by rw[gm];rfl,λO=>O3 gm O,λ_=>⟨Qr he.own,lj,hy,λL hL=>AvP.auts he oa (λb H=>ov (hL b H))⟩⟩
  have hg:j<(rem c.Z).length:=by have hP:(j:Int)<((rem c.Z).length:Int):=hT;omega
  have gq:(rem c.Z).take (j+1)=(rem c.Z).take j++[(rem c.Z)[j]'hg]:=Lo hg;have gr:=yK _ (Lm hg);refine Qe<|Qd<|Qn<|Qc<|xii (i:=j) kj U U hg λm9 gs=>?_;refine Zd ((rem c.Z)[j]'hg) λi hi=>?_;rw[hi]at gs gq gr;have kn:c.Z.co.length=c.co.length:=Lj ..;rw[kn]at gr;have ko:i=(i.toNat:Int):=oa
  have hz:i.toNat<c.co.length:=oa
  have h1:=Lm hz;have gt:coA c.Z i=(c.co[i.toNat]'hz).p.a:=by
   show((c.co.map IV.it).getD i.toNat _).a=_;simp[oQ,hz,IV.it]
  refine x (Qy gs U)<|Qb<|Qc<|Qm U ki U U<|Qa<|xp (g:=QK) (i:=i.toNat) Yj h5.co.arr U (O2 sS ko) hz λpa gu=>?_;refine Zd (c.co[i.toNat]'hz) λq hq=>?_;rw[hq]at gu h1 gt;have S:=h5.co.each q h1;refine x (Zp U)<|x (Qu (us:=[q.p.va,sS q.p.a.st,q.p.vm,q.p.ve]) (gu.from 1) U U)<|QL [nS,sS 0,nS,nS] λgv w6 kq kr hh =>
   QJ [q.p.va,sS q.p.a.st,q.p.vm,q.p.ve] hh ⟨S.al.one,U,S.mr.one,S.ed.one,La⟩ λJ kt hh=>xe ?_
  have hU:sW w5 J:=kq.Q kt kr;have hl:sW J { J with drawn:=J.drawn+1 }:=xj.X _ _
  have pc:=hU.size;have hF:gv∉ob vj:=λhm=>ov (go gv hm).2
  have hV:=S.J hU;refine ZH (ob vj) [oE 0,oE 1,oE 2,oE 4,oE 5,oE 6,oE 7,oE 9,oE 10,oF 3,oF 8,oF 11,oE 12,oF 13,oF 14,oE 15]<|p QA<|p (QF U)<|pq (λ_ T=>Qk (hh.O T hF) U U)<|p (QF U)<|pq (λ_ T=>Qk (hh.O T hF) U U) <|
   p (QF rfl)<|pq (λ_ T=>Qk (hh.O T hF) U U)<|p (QF U)<|pq (λ_ T=>Qk (hh.O T hF) U U) <|
   pk<|xg<|(ZU (hV.al.J hl)).S ?_
  rintro r8 w8 ⟨hn,hW⟩;refine⟨(hl.I hn).any,?_⟩;refine pk<|xg<|(ZU ((hV.mr.J hl).J hn)).S ?_;rintro r9 w9 ⟨h2,hX⟩;refine⟨((hl.I hn).I h2).any,?_⟩;refine pk<|xg<|(Ka (((hV.ed.J hl).J hn).J h2)).S ?_;rintro h4 pd ⟨hY,hZ⟩;have hG:=((hl.I hn).I h2).I hY;refine⟨hG.any,?_⟩;refine p (λ_=>Qv ⟨xS hW,U,xS hX,xS hZ,La⟩)<|pk<|Zb [Zq ⟨r8,r9,h4,q.p.a⟩] λpf pg ho ph ku=>⟨(hG.I ho).any,?_⟩;have hH:=(hU.I hG).I ho;have pj:=hH.size;have pm:=hn.size;have pn:=h2.size;have po:({ J with drawn:=J.drawn+1 }:O8).heap.size=J.heap.size:=rfl
  refine pk<|Q9 (news:=Zq ⟨r8,r9,h4,q.p.a⟩) (L:=[]) (Ql he.own hH) U U U (ku.at oe) (Qmn (p:=⟨r8,r9,h4,q.p.a⟩) (Qr hW) (Qr hX) (Qr hZ)) oa oa λgw kv kw ga gx=>⟨(hG.I ho).any.V ga,?_⟩;refine p ZL<|pe ?_;have gb:∀b∈ob vj,b<J.heap.size:=λb H=>ov (go b H).2
  have kx:AvP ↑Y kv gw (lj++[⟨r8,r9,h4,q.p.a⟩]):=Jq.app3 (Jq.J he hH) (λt ht=>by
   simp only[oM,oL,or_false]at ht;rcases ht with rfl|rfl|rfl
   .exact Yl.of_own (Ql (Ql (Ql hW h2) hY) ho) S.al.le oa (λb H=>ov (gb b H))
   .exact Yl.of_own (Ql (Ql hX hY) ho) S.mr.le oa (λb H=>ov (gb b H))
   exact Yl.of_own (Ql hZ ho) S.ed.le oa (λb H=>ov (gb b H))) kw ga gx
  refine Qq<|QH U U<|Qa<|xe<|⟨(j+1,gw,lj++[⟨r8,r9,h4,q.p.a⟩]),og,oB,hg,(hw.I hH).G ga hQ,kx,?_,λb H=>?_⟩
  .simp only[];rw[gq,Ls,hy,Ls,LD,M2,M2,gt]
  rcases gx b H with h9|h9
  .exact hQ b h9
  exact .inr oa
 have V:k<lM.length:=by have hP:(k:Int)<(lM.length:Int):=hO;omega
 have gy:lM.take (k+1)=lM.take k++[lM[k]'V]:=Lo V;have h1:=Lm V;rw[LH V,LO,Qdt]at I;have kz:=YH.J hM Z;have k0:=gj.J Z;refine Qe<|Qd<|Qn<|Qc<|xp (g:=YN) (i:=k) Qkq k0 U U V λpp gz=>?_;refine Zd (lM[k]'V) λq hq=>?_;rw[hq]at gz gy h1 I;have g0:QG [] ↑w3 q.v q.co:=kz.each q h1 [] oe;refine x (Qu gz U U)<|QL [sS 0,sS 0,nS] λb8 pu k4 k5 gc=>QJ (YN q) gc ⟨U,U,g0.one,La⟩ λg2 k6 gc =>
  xe ?_
 have h6:sW w3 g2:=k4.Q k6 k5;have g3:=hC.I h6;have pw:=h6.size;refine Qc<|QV (hN.J h6) U U<|QV gc U U<|Qx<|(QnZ (q:=q) (h.J g3) (g0.J h6) (g9.J g3)).S ?_;rintro pz k7 ⟨k8,sa,st,sm,se,rfl,hp,k9,_⟩;refine Qa<|QS U U<|QS U U<|QL [nS,sS 0,nS,nS] λb9 p0 ma mf gg=>QJ [sa,sS st,sm,se] gg ⟨hp.1,U,hp.2.1,hp.2.2.1,La⟩ λmg mh gg =>
  Qb ?_
 have g4:sW k7 mg:=ma.Q mh mf;have g5:=(h6.I k8).I g4;refine Qd<|Qj<|Zu U U<|xe<|QY rfl (λh7=>?_) (λh7=>?_)
 .rw[O1 h7]at I;subst I;refine Qj<|x Qh<|Qb<|Qi ⟨[nS,sS (msE c.Z q.m)],oB,hC.I g5,nS,U,λ_=>U,λO=>O3 O h7⟩
 rw[O0 h7]at I;obtain⟨mj,hA⟩:=k9 (Lq.1 h7);subst mj;have hge:=Qg ha.own;refine Qe<|Qq<|Qa<|QV gg U U<|Qo<|Zb [Zq ⟨sa,sm,se,msA c.Z q.m⟩] λp1 p2 g6 p3 mo=>?_;have hI:=g5.I g6;have p4:=hI.size;refine Qo<|Q9 (news:=Zq ⟨sa,sm,se,msA c.Z q.m⟩) (L:=[]) (Ql ha.own hI) U U U (mo.at oe) (Qmn (p:=⟨sa,sm,se,msA c.Z q.m⟩) hp.1 hp.2.1 hp.2.2.1) oa oa λg7 mq ms g8 mt =>
  Qb ?_
 have mu:AvP ↑Y mq g7 (l++[⟨sa,sm,se,msA c.Z q.m⟩]):=Jq.app3 (Jq.J ha hI) (ZE.parts (N:=↑g2) (p:=⟨sa,sm,se,msA c.Z q.m⟩) (λL hL=>((hA L hL).J g4).J g6) oa (λb H=>ov (hge b H).2)) ms g8 mt;refine Qq<|QH U U<|Qa<|xe<|⟨(k+1,g7,l++[⟨sa,sm,se,msA c.Z q.m⟩]),og,oB,V,(Z.I hI).G g8 (λb H=>.inr (hge b H).1),mu,?_,I⟩;simp only[];rw[gy,Ls,hv,Ls];rfl
instance ayZi1:Ay sV 29 3 28 27:=⟨od,od⟩
theorem Qgt (p:Int×Int):∀u∈QD p,u.oneCell'=true:=by
 intro y E;simp only[QD,oM,oL,or_false]at E;rcases E with rfl|rfl <;> rfl
instance ayAv1:Ay sV 23 5 5 1:=⟨underlying23,od⟩
def nm1 (c k:Nat):ByteArray:=⟨#[UInt8.ofNat (c+k)]⟩
def Vd (k n:Nat):Kf:=if 48<=n/\n<52 then⟨nm1 97 k,false,false,false,(n:Int) - 47⟩else
 ⟨nm1 97 k,decide (((n &&& 1:Nat):Int)=1),decide (((n &&& 2:Nat):Int)=2),decide (((n &&& 4:Nat):Int)=4),0⟩
def J5 (ns:LN)(i:Nat):List Kf:=(oT i).map λk=>Vd k (ns.getD k 0)
theorem Qfx (ns:LN)(i:Nat):J5 ns (i+1)=J5 ns i++[Vd i (ns.getD i 0)]:=by
 unfold J5;rw[Nl,Ls];rfl
theorem V3 (ns:LN)(i:Nat):(J5 ns i).length=i:=by unfold J5;simp
theorem Qew (hn:ns.length=5)(hb:∀n∈ns,n<256):
  QZ sV 22 [sT (bys ns)] w λr w'=>sW w w'/\w'.ownsRow ↑w 169 5 r (J5 ns 5).length ((J5 ns 5).flatMap Zs):=by
 refine Zt func22 ?_;refine Qc<|Zg (bys ns) λb1 w1 hl hI hm=>Qb<|Qc<|Qb<|Qd<|Qc<|Qb<|Q2 (α:=Nat×O9) [(3,53)] (λz=>[(3,z.2),(4,sS z.1)]) (λz w'=>z.1<=5/\sW w1 w'/\w'.ownsRow ↑w1 169 5 z.2 (J5 ns z.1).length ((J5 ns z.1).flatMap Zs)) (λz=>5 - z.1) (0,ZD) oB
  ⟨Lp _,xj.Y _ _,QI _ _ _ _⟩ ?_
 rintro⟨k,v⟩ g w2 ⟨hk,V,O⟩;simp only[]at hk O;refine Qd<|Qj<|Ye U U<|xe<|ZI rfl (λh7=>?_) (λh7=>?_)
 .refine Qt ?_;have hs:k=5:=by have h8:¬(k:Int)<5:=h7;omega
  rw[hs]at O;refine Qj<|Qb<|Qi ⟨[v],Lb,hl.I V,Zv O hl.size⟩
 have H:k<5:=by have h8:(k:Int)<5:=h7;omega
 have q:=zf (ns:=ns) (j:=0+k*1) oa;have ql:=JG hb (0+k*1);have ht:ns.getD (0+k*1) 0=ns.getD k 0:=by rw[show 0+k*1=k by omega]
 rw[ht]at q ql;have ho:=Qfx ns k;have hJ:=V3 ns k;refine Zd (ns.getD k 0) λn hv=>?_;rw[hv]at q ql ho;have hw:=hm.J V;refine Qe<|Qd<|Qn<|Qj<|x (Z8 (k':=.u8) U ⟨oa,oa⟩)<|QH U U<|Qo<|Zb [[.int .u8 ((97:Int)+(k:Int))]] λb13 w3 ha hK hy=>?_;have h0:((97:Int)+(k:Int))=((97+k:Nat):Int):=oa
 have h1:QP ↑w3 b13 5 [.int .u8 ((97+k:Nat):Int)]:=by rw[<-h0];exact hy
 refine x (Qqy (n:=97+k) h1 oa U)<|x (Qv ⟨U,La⟩)<|Qo<|Jh (us:=[.string ⟨#[]⟩,.bool false,.bool false,.bool false,sS 0]) U λI w4 h2 hL h3=>QJ (Zs ⟨nm1 97 k,false,false,false,0⟩) h3 ⟨U,U,U,U,U,La⟩ λw5 h4 hp =>
  xe ?_
 have he:sW w2 w5:=(ha.I h2).Q h4 (ov ha.size);have J:=hw.J he;have hM:=he.size;have hN:=ha.size;have hO:=hm.lt;have hP:=V.size;have hg:b1∉[I]:=ol
 refine QX (α:=Unit) [(16,49)] (λ_=>[]) (λ_ w'=>xj [I] w5 w'/\QP ↑w' I 169 (Zs (Vd k n))) om ?_ ?_
 .refine QX (α:=Bool) [(16,25)] (λz=>[(25,.bool z)]) (λz w'=>w'=w5/\(z=true↔48<=n/\n<52)) om ?_ ?_
  .refine Qq<|Qa<|x (Yf (i:=k) U U H)<|Xe J U q<|xb (YI U U) (λhh=>?_) (λhh=>?_)
   .have hq:(48:Int)<=(n:Int):=hh;refine Qa<|Qa<|x (Yf (i:=k) U U H)<|Xe J U q<|Ye U U<|QB U<|xe<|⟨decide ((n:Int)<52),Lb,U,?_⟩;rw[decide_eq_true_eq];omega
   have hq:¬(48:Int)<=(n:Int):=hh;refine Qa<|Zm<|K4<|QB U<|xe ?_;exact⟨false,Lb,U,⟨λh=>(by cases h),λh=>O3 oa hq⟩⟩
  rintro z g6 S ⟨rfl,hz⟩;refine Q6 U (λY=>?_) (λY=>?_)
  .have E:=hz.1 Y;refine Qq<|Qa<|x (Yf (i:=k) U U H)<|Xe J U q<|x (Z8 (k':=.i64) U ⟨oa,oa⟩)<|x (X1 U U ⟨oa,oa⟩)<|QN U<|Qo<|Qw hp U U oe rfl λw7 T hi =>
    xe ?_
   refine⟨(),La,T,?_⟩;unfold Vd;rw[O1 E];exact hi
  have E:¬(48<=n/\n<52):=λh=>by have:=hz.2 h;rw[this]at Y;cases Y
  have Z:sW S { S with drawn:=S.drawn+1 }:=xj.X _ _
  refine ZH [I] (Xf 0 21 [16,18,20])<|p QA<|p (λ_=>Yf (i:=k) U U H)<|pq (λ_ E=>Qk (J.O E hg) U q)<|p (λ_=>yN (a:=n) (b:=1) U U ql oh)<|p (λ_=>QW U U) <|
   p QA<|p (λ_=>Yf (i:=k) U U H)<|pq (λ_ E=>Qk (J.O E hg) U q)<|p (λ_=>yN (a:=n) (b:=2) U U ql oh)<|p (λ_=>QW U U) <|
   p QA<|p (λ_=>Yf (i:=k) U U H)<|pq (λ_ E=>Qk (J.O E hg) U q)<|p (λ_=>yN (a:=n) (b:=4) U U ql oh)<|p (λ_=>QW U U)<|?_
  refine p (QF U)<|pk<|Qw (hp.J Z) U U oe rfl λw7 T hi=>⟨(Z.any (L:=[I])).V T,?_⟩;refine p (QF U)<|pk<|Qw hi U U oe rfl λw8 hr h5=>⟨((Z.any (L:=[I])).V T).V hr,?_⟩;refine p (QF U)<|pkk<|Qw h5 U U oe rfl λw9 h6 h9=>pe ?_;refine⟨(),La,(((Z.any (L:=[I])).V T).V hr).V h6,?_⟩;unfold Vd;rw[O0 E];exact h9
 rintro _ g6 S ⟨hA,hB⟩;have hC:sW w2 S:=he.Q hA oa;refine Qq<|Qa<|QV hB U U<|Qo<|Zb [Zs (Vd k n)] λhQ hR hD hS hE=>?_;have hj:=hC.I hD;have hT:=hj.size;refine Qo<|Q9 (news:=Zs (Vd k n)) (L:=[]) (Ql O hj) U U U (hE.at oe) (QdM _) oa oa λhF hU hG hH hV =>
  Qb<|Qq<|Qa<|QH U U<|Qb<|⟨(k+1,hF),og,oB,H,(V.I hj).G hH (λc E=>.inr (Qg O c E).1),?_⟩
 simp only[];rw[ho,Ln,LC];simpa using hG
def Jm (n m:Nat):LI:=(oT n).map λk:Nat=>if k<m then(k:Int)else -1
theorem QaS {m k:Nat}(h:k<m):Yb (Jn m) (k:Int)=k:=by
 unfold Yb Jn;simp[oQ,h]
theorem QsO {fd R:LI}{t:Int}(H:fd=out++R)(E:t∈out):jb fd t=(out.idxOf t:Nat):=by
 subst H;unfold jb;rw[O1 (L7 _ E),MJ,O1 E]
theorem Qq6 {fd R:LI}{t:Int}(E:fd=out++[t]++R)(H:t∉out):jb fd t=(out.length:Nat):=by
 subst E;unfold jb;rw[O1 oe,LD,MJ,O0 H];simp
theorem QaR {m k:Nat}(h:k<n):Yb (Jm n m) (k:Int)=if k<m then(k:Int)else -1:=by
 unfold Yb Jm;simp[oQ,h]
theorem Qkl {m:Nat}:(Jm n m).set m (m:Int)=Jm n (m+1):=by
 apply Mh
 .simp[Jm]
 intro k I H;have hk:k<n:=by simpa[Jm]using H
 rw[Nf];by_cases e:m=k
 .subst e;simp[Jm]
 rw[O0 e];simp only[Jm,OG,OK];by_cases E:k<m
 .rw[O1 E,O1 oa]
 rw[O0 E,O0 oa]
theorem Qaz {R:Nat->List Ed}(hR:∀i,∀e∈R i,e.1=(i:Int))(j:Nat):∀n,Z2 ((oS 0 n).flatMap R) j=if j<n then R j else[]
 | 0=>by simp[Z2]
 | n+1=>by
  have E:Z2 (R n) j=if n=j then R n else[]:=by
   unfold Z2;by_cases e:n=j
   .rw[O1 e];exact NJ.2 λx hx=>O4 (by rw[hR n x hx,e])
   rw[O0 e];exact Nx.2 λx hx=>by rw[decide_eq_true_eq,hR n x hx];omega
  rw[MI,LC,LS];unfold Z2 at E ⊢;rw[Mc];have ih:=Qaz hR j n;unfold Z2 at ih;rw[ih];simp only[Od,OS,Ol];rw[E];by_cases H:j<n
  .rw[O1 H,O0 oa,O1 oa,LT]
  rw[O0 H];by_cases I:n=j
  .subst I;rw[O1 rfl,O1 oa,Md]
  rw[O0 I,O0 oa];rfl
theorem yl {s:Int}:∀(vs:LI) (out:LI),∃r,vs.foldl (UJ a s) out=out++r
 | [],out=>⟨[],oe⟩
 | v::vs,out=>by
  rw[LZ];obtain⟨r,E⟩:=yl vs (UJ a s out v);rw[E];unfold UJ;split
  .exact⟨[xw a.ed s v]++r,by rw[LD]⟩
  exact⟨r,U⟩
theorem yk:∀(f i:Nat) (out:LI),∃r,fdL a f i out=out++r
 | 0,i,out=>⟨[],by simp[fdL]⟩
 | f+1,i,out=>by
  rw[fdL];split
  .obtain⟨r,E⟩:=yk f (i+1) (fdR a out (xo out i));obtain⟨H,I⟩:=yl (a:=a) (s:=xo out i) a.al out;refine⟨H++r,?_⟩;rw[E];unfold fdR;rw[I,LD]
  exact⟨[],oe⟩
theorem z0 {fd:LI}{i:Nat}:∀(vs out:LI) (c:Cs),(∃r,fd=vs.foldl (UJ a (xo fd i)) out++r)->c.ord=Jn out.length->c.num=Jm fd.length out.length ->
  (vs.filterMap (Vi a fd i)).foldl (ZB i) c=⟨Jn (vs.foldl (UJ a (xo fd i)) out).length,Jm fd.length (vs.foldl (UJ a (xo fd i)) out).length,c.mk',c.ed++vs.filterMap (Vi a fd i)⟩
 | [],out,c,_,J,H=>by
  obtain⟨o,n,m,e⟩:=c;subst J H;simp
 | v::vs,out,c,E,J,H=>by
  rw[LZ]at E ⊢;obtain⟨r,E⟩:=E;obtain⟨r2,ha⟩:=yl (a:=a) (s:=xo fd i) vs (UJ a (xo fd i) out v);have I:fd=UJ a (xo fd i) out v++(r2++r):=by rw[<-LD,<-ha];exact E
  by_cases T:0<=xw a.ed (xo fd i) v
  .have V:Vi a fd i v=some ((i:Int),v,jb fd (xw a.ed (xo fd i) v)):=by unfold Vi;rw[O1 T]
   rw[Mz,V];simp only[];rw[LZ];by_cases O:xw a.ed (xo fd i) v∈out
   .have S:UJ a (xo fd i) out v=out:=by unfold UJ;rw[O0 (λh=>h.2 O)]
    rw[S]at E I ⊢;have hix:jb fd (xw a.ed (xo fd i) v)=(out.idxOf (xw a.ed (xo fd i) v):Nat):=QsO I O;have hb:=MR O;have Z:out.length<=fd.length:=by rw[I];simp
    have Y:ZB i c ((i:Int),v,jb fd (xw a.ed (xo fd i) v))=⟨c.ord,c.num,c.mk',c.ed++[((i:Int),v,jb fd (xw a.ed (xo fd i) v))]⟩:=by
     unfold ZB;simp only[];rw[H,hix,QaR oa,O1 hb,O0 oa]
    rw[Y,z0 vs out ⟨c.ord,c.num,c.mk',c.ed++[((i:Int),v,jb fd (xw a.ed (xo fd i) v))]⟩ ⟨r,E⟩ J H];simp only[oY,Ox]
   have S:UJ a (xo fd i) out v=out++[xw a.ed (xo fd i) v]:=by unfold UJ;rw[O1 ⟨T,O⟩]
   rw[S]at E I ⊢;have hix:jb fd (xw a.ed (xo fd i) v)=(out.length:Nat):=Qq6 I O;have Z:out.length<fd.length:=by rw[I];simp
   have Y:ZB i c ((i:Int),v,jb fd (xw a.ed (xo fd i) v))=⟨Jn (out.length+1),Jm fd.length (out.length+1),c.mk',c.ed++[((i:Int),v,jb fd (xw a.ed (xo fd i) v))]⟩:=by
    unfold ZB;simp only[];rw[J,H,hix,QaR Z,O0 (Nat.lt_irrefl _),O1 oa,yX,QaG];simp only[Ov];rw[Qkl]
   rw[Y,z0 vs (out++[xw a.ed (xo fd i) v]) _ ⟨r,E⟩ oe oe];simp only[oY,Ox]
  have V:Vi a fd i v=none:=by unfold Vi;rw[O0 T]
  have S:UJ a (xo fd i) out v=out:=by unfold UJ;rw[O0 (λh=>T h.1)]
  rw[S]at E ⊢;rw[Mz,V];exact z0 vs out c ⟨r,E⟩ J H
theorem Ql9 (fd:LI)(i:Nat):Xc a fd (i+1)=Xc a fd i++(if xo fd i∈a.mr then[(i:Int)]else[]):=by
 unfold Xc;rw[MI,Mc,Ls,LS];by_cases h:xo fd i∈a.mr <;> simp[h]
theorem Qmb (fd:LI)(i:Nat):Xt a fd (i+1)=Xt a fd i++a.al.filterMap (Vi a fd i):=by
 unfold Xt;rw[MI,LC,LS];simp
theorem Qej {fd:LI}(h:i<n):(i:Int)∈Xc a fd n↔xo fd i∈a.mr:=by
 unfold Xc;simp only[OB,OL,OC,decide_eq_true_eq];constructor
 .rintro⟨k,⟨_,E⟩,H⟩;have:k=i:=oa
  subst this;exact E
 intro E;exact⟨i,⟨oa,E⟩,U⟩
theorem Qma {fd:LI}(V:fd=xA a)(hp:fd.length<=a.st.toNat):∀(f g i:Nat) (out:LI),i<=out.length->fdL a g i out=fd->i+g=a.st.toNat->fd.length<=i+f ->
  Jd (Xg a) f i ⟨Jn out.length,Jm fd.length out.length,Xc a fd i,Xt a fd i⟩=⟨Jn fd.length,Jm fd.length fd.length,Xc a fd fd.length,Xt a fd fd.length⟩:=by
 have ha:(Xg a).ed=Xt a fd fd.length:=by rw[V];rfl
 have hb:(Xg a).mr=Xc a fd fd.length:=by rw[V];rfl
 have done:∀(i:Nat) (out:LI),i<=out.length->out=fd->¬i<out.length->(⟨Jn out.length,Jm fd.length out.length,Xc a fd i,Xt a fd i⟩:Cs)=⟨Jn fd.length,Jm fd.length fd.length,Xc a fd fd.length,Xt a fd fd.length⟩:=by
  intro i out I E Y;have:i=fd.length:=by rw[<-E];omega
  rw[this,E]
 intro f;induction f with
 | zero =>
  intro g i out I E Y h4;obtain⟨r,H⟩:=yk (a:=a) g i out;rw[E]at H;have hl:fd.length=out.length+r.length:=by rw[H,Ln]
  have hg:r=[]:=LA oa;rw[Jd];exact done i out I (by rw[H,hg,LT]) oa
 | succ f ih =>
  intro g i out I E Y h4;obtain⟨r,H⟩:=yk (a:=a) g i out;rw[E]at H;have hl:fd.length=out.length+r.length:=by rw[H,Ln]
  rw[Jd];simp only[yX];by_cases hi:i<out.length
  .rw[O1 hi];obtain⟨J,rfl⟩:∃J,g=J+1:=⟨g - 1,oa⟩;rw[fdL,O1 hi]at E;have hh:xo out i=xo fd i:=by
    rw[H];unfold xo;simp[oQ,List.getElem?_append_left hi]
   rw[hh]at E;have T:i<fd.length:=oa
   have hj:Z2 (Xg a).ed (i:Int)=a.al.filterMap (Vi a fd i):=by
    rw[ha];unfold Xt;rw[Qaz (λj e he=>by
     obtain⟨v,_,O⟩:=M6.1 he;unfold Vi at O;split at O
     .cases O;rfl
     cases O),O1 T]
   have hm:Ym (Xg a) i ⟨Jn out.length,Jm fd.length out.length,Xc a fd i,Xt a fd i⟩=⟨Jn out.length,Jm fd.length out.length,Xc a fd (i+1),Xt a fd i⟩:=by
    unfold Ym;simp only[];rw[QaS hi,hb,Ql9];by_cases S:xo fd i∈a.mr
    .rw[O1 ((Qej T).2 S),O1 S]
    rw[O0 (λh=>S ((Qej T).1 h)),O0 S];simp
   have hn:zM (Xg a) i ⟨Jn out.length,Jm fd.length out.length,Xc a fd i,Xt a fd i⟩=⟨Jn (fdR a out (xo fd i)).length,Jm fd.length (fdR a out (xo fd i)).length,Xc a fd (i+1),Xt a fd (i+1)⟩:=by
    unfold zM;rw[hm];simp only[];rw[QaS hi,hj];obtain⟨r3,Z⟩:=yk (a:=a) J (i+1) (fdR a out (xo fd i));rw[E]at Z;rw[z0 a.al out ⟨Jn out.length,Jm fd.length out.length,Xc a fd (i+1),Xt a fd i⟩ ⟨r3,Z⟩ rfl rfl,Qmb];rfl
   rw[hn];obtain⟨r4,ho⟩:=yl (a:=a) (s:=xo fd i) a.al out;exact ih J (i+1) _ (by unfold fdR;rw[ho,Ln];omega) E oa oa
  rw[O0 hi];have h5:fdL a g i out=out:=by
   cases g with
   | zero=>rfl
   | succ g=>rw[fdL,O0 hi]
  exact done i out I (h5.symm.I E) hi
theorem Ql8 (E:Zo a)(H:0<a.st):Yg (Xg a)=Xg a:=by
 have T:=Qei E H;have V:(Xg a).st=((xA a).length:Int):=rfl;have I:(Xg a).st.toNat=(xA a).length:=oa
 have h:=Qma (a:=a) U ((ji E).1.len E.st0) (xA a).length a.st.toNat 0 (fd0 a) (Lp _) U oa oa;have J:fd0 a=[0]:=by unfold fd0;rw[O1 H]
 rw[J]at h;have O:YX (Xg a)=⟨Jn 1,Jm (xA a).length 1,Xc a (xA a) 0,Xt a (xA a) 0⟩:=by
  unfold YX;rw[I];have e:(oK (xA a).length (-1:Int)).set 0 0=Jm (xA a).length 1:=by
   apply Mh
   .simp[Jm]
   intro k Y Z;rw[Nf];simp only[Jm,OG,OK,List.getElem_replicate];by_cases e:k=0
   .subst e;simp
   rw[O0 oa,O0 oa]
  rw[e];simp[Jn,Xc,Xt]
 unfold Yg;rw[O0 oa];simp only[];rw[O,I];have S:Jd (Xg a) (xA a).length 0 ⟨Jn 1,Jm (xA a).length 1,Xc a (xA a) 0,Xt a (xA a) 0⟩=⟨Jn (xA a).length,Jm (xA a).length (xA a).length,Xc a (xA a) (xA a).length,Xt a (xA a) (xA a).length⟩:=h;rw[S];simp only[yX];rfl
theorem Qfo (E:Zo a)(H:0<a.st):VL (Xg a)=true:=by
 unfold VL;rw[Ql8 E H];simp[(Z0 _).2 (Qcv E).1]
theorem GdA.can (h:GdA a):VL a=true:=by
 obtain⟨I,E,H,rfl⟩:=h.c;exact Qfo E H
structure D25 (c:Zy):Prop where
 ev:c.ev.length=5/\KG c.ev=0
 c0:c.co.length≠0
 c3:c.co.length<=3
 r2:c.rq.length<=2
 co:∀x∈c.co,YE x.nm=true/\GdA x.a/\∀e∈x.a.al,e<5
 rq:∀x∈c.rq,YE x.nm=true/\GdA x.a/\∀e∈x.a.al,∃y∈c.co,e∈y.a.al
 nd:(c.co.map (·.nm)++c.rq.map (·.nm)).Nodup
 x2:c.ex.length<=2
 ex:∀x∈c.ex,YE x.nm=true/\x.ls≠[]/\X3 (szs c.co) none x.ls=0
 xn:(c.ex.map (·.nm)).Nodup
 k1:c.cs.length<=1
 cs:∀x∈c.cs,YE x.nm=true/\Xd (szs c.co) x=0
theorem Qnb (n:Nat)(x:Int):x∈Vs n↔0<=x/\x<(n:Int):=Qdo n x
theorem Qnc (n:Nat):Yp (Vs n):=Qkp n
theorem QnY {a b:LI}(ia:Yp a)(ib:Yp b)(h:∀e∈a,e∈b):(mns a b).length=0:=by
 refine Nat.eq_zero_of_not_pos λH=>?_;obtain⟨x,hx⟩:=List.exists_mem_of_length_pos H;have:=(ye ia ib x).1 hx;by_cases E:x∈a
 .simp[E,h x E]at this
 simp[E]at this
theorem Qhr {nev:Nat}{amg:LI}{seen:List ByteArray}{x:Y0}(H:YE x.nm=true)(I:x.nm∉seen)(E:GdA x.a)(J:∀e∈x.a.al,e<(nev:Int))(hi:Yp amg)(O:∀e∈x.a.al,e∈amg):Z1 nev amg seen x=0:=by
 have V:=E.p;unfold Z1;rw[O0 (by rw[H];decide),O0 I,O0 (by simpa using(Z0 _).2 E.ok),O0 (by rw[E.can];decide),O0 oa,O0,O0 (oA (QnY E.ok.ali hi O))];intro h;obtain⟨e,S,T⟩:=NK.1 h;have:=J e S;have:=O5 T;omega
theorem Qhs {nev:Nat}{al:LI}(V:Yp al):∀(l:List Y0) (s:List ByteArray) (u:LI),Yp u->(∀x∈l,YE x.nm=true/\GdA x.a/\∀e∈x.a.al,e<(nev:Int)/\e∈al)->(s++l.map (·.nm)).Nodup ->
  ∃I,Yr nev al s u l=(0,s++l.map (·.nm),I)/\Yp I/\∀e,e∈I↔e∈u\/∃y∈l,e∈y.a.al
 | [],s,u,hu,_,_=>⟨u,by simp[Yr],hu,oe⟩
 | x::l,s,u,hu,hx,O=>by
  obtain⟨Z,S,Y⟩:=hx x Lr;have ha:x.nm∉s:=by
   intro hm;rw[LO,Mi]at O;exact O.2.2 _ hm _ Lr U
  obtain⟨I,k1,k2,k3⟩:=Qhs V l (s++[x.nm]) (mrg (· || ·) u x.a.al) (QgG _ _ _ _ (Lu _) hu S.ok.ali) (λy E=>hx y (Ll _ E)) (oA O);refine⟨I,?_,k2,λe=>?_⟩
  .rw[Yr,O0 (by simpa using(Qhr Z ha S (λe T=>(Y e T).1) V (λe T=>(Y e T).2))),k1];simp
  rw[k3,ye hu S.ok.ali];constructor
  .rintro(⟨H|H,_⟩|⟨y,E,J⟩)
   .exact .inl H
   .exact .inr ⟨x,Lr,H⟩
   exact .inr ⟨y,Ll _ E,J⟩
  rintro(H|⟨y,E,J⟩)
  .exact .inl ⟨.inl H,by simp[H]⟩
  rcases Lk.1 E with rfl|E
  .exact .inl ⟨.inr J,by simp[J]⟩
  exact .inr ⟨y,E,J⟩
theorem Qhn {nev:Nat}{u:LI}(hu:Yp u):∀(l:List Y0) (s:List ByteArray),(∀x∈l,YE x.nm=true/\GdA x.a/\∀e∈x.a.al,e<(nev:Int)/\e∈u)->(s++l.map (·.nm)).Nodup->Jv nev u s l=0
 | [],s,_,_=>rfl
 | x::l,s,hx,E=>by
  obtain⟨J,O,I⟩:=hx x Lr;have S:x.nm∉s:=by
   intro T;rw[LO,Mi]at E;exact E.2.2 _ T _ Lr U
  rw[Jv,O0 (by simpa using(Qhr J S O (λe H=>(I e H).1) hu (λe H=>(I e H).2)))];exact Qhn hu l (s++[x.nm]) (λy V=>hx y (Ll _ V)) (oA E)
theorem Qa4 {sz:LI}:∀(l:List Uf) (s:List ByteArray),(∀x∈l,YE x.nm=true/\x.ls≠[]/\X3 sz none x.ls=0)->(s++l.map (·.nm)).Nodup->Yc sz s l=0
 | [],s,_,_=>rfl
 | x::l,s,hx,E=>by
  obtain⟨H,I,J⟩:=hx x Lr;have O:x.nm∉s:=by
   intro S;rw[LO,Mi]at E;exact E.2.2 _ S _ Lr U
  have T:Js s x.nm=0:=by unfold Js;rw[O0 (by rw[H];decide),O0 O]
  have V:x.ls.length≠0:=λh=>I (LA h);have Y:XR sz x.ls=0:=by unfold XR;rw[O0 V];exact J
  rw[Yc,O0 (oA T),O0 (oA Y)];exact Qa4 l (s++[x.nm]) (λy Z=>hx y (Ll _ Z)) (oA E)
theorem Qkn:∀{k:Nat},k<5->YE (nm1 97 k)=true
 | 0,_=>oh
 | 1,_=>oh
 | 2,_=>oh
 | 3,_=>oh
 | 4,_=>oh
theorem qb {seen:List ByteArray}{k:Nat}(hk:k<5)(E:nm1 97 k∉seen):Jw seen (Vd k n)=0:=by
 have H:(Vd k n).nm=nm1 97 k:=by unfold Vd;split <;> rfl
 unfold Jw;rw[H,O0 (by rw[Qkn hk];decide),O0 E];unfold Vd;by_cases h:48<=n/\n<52
 .rw[O1 h];simp only[];rw[O0 oa,O0 oe]
 rw[O0 h];simp only[];rw[O0 oa,O0 oe]
theorem Qlu (ns:LN):KG (J5 ns 5)=0:=by
 have e:J5 ns 5=[Vd 0 (ns.getD 0 0),Vd 1 (ns.getD 1 0),Vd 2 (ns.getD 2 0),Vd 3 (ns.getD 3 0),Vd 4 (ns.getD 4 0)]:=rfl;have E:∀k n,(Vd k n).nm=nm1 97 k:=λk n=>by unfold Vd;split <;> rfl
 unfold KG;rw[O0 (by rw[V3];decide),e];simp only[zw,E];rw[qb oh oh,qb oh oh,qb oh oh,qb oh oh,qb oh oh];simp
theorem D25.ck (h:D25 c):Zf c=0:=by
 have ha:=h.c3;have hc:=h.r2;have V:c.ev.length=5:=h.ev.1;obtain⟨u',k1,k2,k3⟩:=Qhs (nev:=c.ev.length) (al:=Vs c.ev.length) (Qnc _) c.co [] [] List.Pairwise.nil (λx hx=>by
  obtain⟨H,E,I⟩:=h.co x hx;refine⟨H,E,λe J=>?_⟩;have:=I e J;have:=(E.ok.al e J).1;rw[V,Qnb];exact⟨oa,oa,oa⟩) (by
  have:=h.nd;rw[Mi]at this;simpa using this.1)
 have Y:=Qhn (nev:=c.ev.length) k2 c.rq (c.co.map (·.nm)) (λx hx=>by
  obtain⟨H,E,I⟩:=h.rq x hx;refine⟨H,E,λe J=>?_⟩;obtain⟨y,S,O⟩:=I e J;have:=(h.co y S).2.2 e O;exact⟨oa,(k3 e).2 (.inr ⟨y,S,O⟩)⟩) h.nd
 unfold Zf;rw[O0 (not_not_intro h.ev.2),O0 h.c0,O0 oa,k1];simp only[Oh];rw[O0 oe,O0 (oA Y)];unfold Ys;have hg:(szs c.co).length=c.co.length:=by unfold szs;simp
 have hh:=h.x2;have hk1:=h.k1;have Z:¬(szs c.co).any KY=true:=by
  intro hb;obtain⟨n,H,E⟩:=NK.1 hb;unfold szs at H;obtain⟨x,hx,rfl⟩:=Ly.1 H;have:=(h.co x hx).2.1;have I:=this.p;have O:=this.s;unfold KY at E;simp at E;omega
 rw[O0 oa,O0 Z,O0 oa,O0 (by simpa using Qa4 c.ex [] h.ex (oA h.xn))];rcases T:c.cs with _|⟨x,l⟩
 .rfl
 have hl:l=[]:=LA (by rw[T,LX]at hk1;omega);obtain⟨H,E⟩:=h.cs x (by rw[T];exact Lr);have hz:Js [] x.nm=0:=by unfold Js;rw[O0 (by rw[H];decide),O0 oe]
 rw[hl,YQ,O0 (oA hz),O0 (oA E)];rfl
end Go.Lg
namespace Go.Proofs
open Go.Proofs.Tryz
open Go.Shelf
def Tryz.sortI_ren:Go.Shelf.Ren:=⟨λ|5=>63|8=>123|7=>122|19=>208|20=>209|10=>199|11=>200|12=>201|13=>202|14=>203|15=>204|16=>205|17=>206|18=>207|30=>264|31=>265|32=>266|33=>267|34=>268|35=>269|40=>310|n=>n,λ|23=>63|25=>3|3=>3|32=>269|22=>63|0=>0|44=>362|46=>364|4=>4|36=>356|35=>355|41=>275|5=>5|9=>9|53=>418|57=>422|63=>449|64=>408|n=>n,λ|n=>n⟩
theorem Tryz.sortI:Go.Proofs.SlLaysM.n5 sV Tryz.sortI_ren:=lyS
def Tryz.cmpI_ren:Go.Shelf.Ren:=⟨λ|43=>64|n=>n,λ|22=>63|23=>3|3=>3|4=>4|0=>0|n=>n,λ|n=>n⟩
theorem Tryz.cmpI:Go.Proofs.SlLaysE.n43 sV Tryz.cmpI_ren:=lyS
def Tryz.delI_ren:Go.Shelf.Ren:=⟨λ|10=>26|6=>66|n=>n,λ|22=>63|23=>3|25=>101|3=>3|4=>4|0=>0|n=>n,λ|n=>n⟩
theorem Tryz.delI:Go.Proofs.SlLaysH.n10 sV Tryz.delI_ren:=lyS
end Go.Proofs
namespace Go.Lg
open Go.Lg Go.Sort Go.Lib
abbrev iC:Int->O9:=Value.int .i64
theorem qM {e:Nat}{cur:Array O9}(H:w.heap[g]?=some (.cells cur e (0,0)))(J:cur.toList.take (l.length*1)=l.map iC):Holds iC w g 0 l.toArray:=by
 intro j E;rw[LU]at E;have O:cur.toList[j]?=some (iC l[j]):=by
  have I:(cur.toList.take (l.length*1))[j]?=(l.map iC)[j]?:=by rw[J]
  rw[L3,O1 oa,Nr,LE E]at I;exact I
 have S:l.toArray[j]! = l[j]:=by simp[E]
 constructor
 .show(match w.heap[g]? with|some (.cells c _ _)=>if(none:Option _).isSome then none else c[0+j]?|_=>none)=_
  rw[H,S];simp only[oZ,OI,OJ,if_false];rw[<-Mx,O]
 show(match w.heap[g]? with|some (.cells _ _ (lo,hi))=>decide (lo<=0+j) && decide (0+j<hi)|_=>false)=false
 rw[H];simp
theorem QbK {e base:Nat}{k:Nat}{cur:Array O9}{os:xI}{d:Array Int}(O:base<=g)(I:w.heap[g]?=some (.cells cur e (0,0)))(hb:d.size<=cap)(S:cap<=maxLen)(T:cur.size=cap*1)(hk:k<=d.size):
  xj [g] w (grow (putRow iC (Sort.ahead w n) g 0 d) os)/\Qp e base (grow (putRow iC (Sort.ahead w n) g 0 d) os) (sL g k cap) (d.toList.take k):=by
 have V:g<w.heap.size:=(LP.1 I).1;have E:(grow (putRow iC (Sort.ahead w n) g 0 d) os).heap=w.heap.modify g (onCells (putCells iC 0 d))++os:=rfl;have Y:(d.toList.take k).length=k:=by simp;omega
 refine⟨⟨U,U,U,?_,λi hi Z=>?_⟩,?_⟩
 .rw[E,M5,Mn];omega
 .rw[E,Ms,Mn,O1 hi,MD,O0 (λe=>Z (by simp[e]))]
 unfold Qp;rw[Y];refine⟨by simp;omega,.inr ⟨g,cap,putCells iC 0 d cur,U,O,?_,oa,S,by simp[putCells,T],?_⟩⟩
 .rw[E,Ms,Mn,O1 V,MD,O1 rfl,I];rfl
 apply Nh;intro j;rw[L3,Nr,L3];by_cases J:j<k
 .rw[O1 oa,O1 J];have ha:j<cur.size:=oa
  have H:j<d.size:=oa
  rw[Mx,Mx,MG H];simp only[putCells,Oy,Oj ha,Oz,OY,oZ,true_and,O1 H,OP];rw[getElem!_pos d j H]
 rw[O0 oa,O0 J];rfl
theorem Qap {base:Nat}{v:O9}(h:Qp 3 base w v l)(hl:l.length<=1099511627776):
  QZ sV 63 [v] w λ_ w'=>xj (ob v) w w'/\Qp 3 base w' v (l.mergeSort λx y=>decide (x<=y)):=by
 unfold QZ;rcases h.2 with⟨rfl,S⟩|⟨g,cap,cur,rfl,T,I,hh,V,Y,Z⟩
 .have ha:l=[]:=LA S;subst ha;have E:=AnyM.slices_Sort_int_none Tryz.sortI none 0 w;change Calls sV 63 _ _ _ at E;refine Calls.mono E λe w' J=>?_;obtain⟨rfl,rfl⟩:=J;exact⟨xj.Y _ _,by rw[List.mergeSort_nil];exact h⟩
 have hb:g<w.heap.size:=(LP.1 I).1;have E:=AnyM.slices_Sort_int Tryz.sortI g 0 cap l w (qM I Z) hb oa;change Calls sV 63 _ _ _ at E;refine Calls.mono E λe w' J=>?_;obtain⟨rfl,n,os,rfl⟩:=J;have O:=(NI l (λx y=>decide (x<=y))).length_eq;have:=QbK (e:=3) (n:=n) (k:=l.length) (os:=os) (d:=(l.mergeSort λx y=>decide (x<=y)).toArray) T I (by simp;omega) V Y oe;refine⟨this.1,?_⟩;have H:=this.2;simp only[List.take_of_length_le (Nat.le_of_eq O)]at H;unfold Qp at H ⊢;rw[O]at H ⊢;exact H
theorem QjK {base:Nat}{v:O9}(h:Qp 3 base w v l)(E:l.length<=1099511627776):
  QZ sV 63 [v] w λ_ w'=>xj (ob v) w w'/\∃l',l'.length=l.length/\(∀x,x∈l'↔x∈l)/\Qp 3 base w' v l' :=
 (Qap h E).S λ_ _ ⟨H,I⟩=>⟨H,_,(NI l _).length_eq,λ_=>(NI l _).mem_iff,I⟩
theorem Qhk (l:LI):∀m,m<=l.length->∀x,x∈compactUpTo l.toArray m↔x∈l.take m
 | 0,_,x=>by simp[compactUpTo]
 | m+1,h,x=>by
  have E:m<l.length:=oa
  have hx:l.toArray[m]! = l[m]:=by simp[E]
  rw[compactUpTo_succ,Lh,(Qhk l m oa x),Lo E,Lh,hx,Lc];by_cases hk:keeps l.toArray m=true
  .rw[O1 hk,Lc]
  rw[O0 hk];refine⟨λh=>.inl (h.resolve_right oe),λh=>.inl (h.elim id λe=>?_)⟩;simp only[keeps,decide_eq_true_eq,not_or]at hk;have J:m≠0:=by simpa using hk.1
  have H:l.toArray[m]! = l.toArray[m - 1]!:=by simpa using hk.2
  have I:l.toArray[m - 1]! = l[m - 1]:=by simp[show m - 1<l.length by omega]
  rw[e,<-hx,H,I];rw[List.mem_take_iff_getElem];exact⟨m - 1,oa,U⟩
theorem Qpf {base:Nat}{v:O9}(h:Qp 3 base w v l)(hl:l.length<=1099511627776):
  QZ sV 64 [v] w λr w'=>xj (ob v) w w'/\∃l',l'.length<=l.length/\(∀x,x∈l'↔x∈l)/\Qp 3 base w' r l':=by
 rcases h.2 with⟨rfl,O⟩|⟨g,cap,cur,rfl,S,H,T,V,Y,Z⟩
 .have ha:l=[]:=LA O;subst ha;refine Zt func64 ?_;refine Qc<|Qb<|Qd<|Qj<|x (Un U)<|Ye U U<|xe<|QY U (λ_=>?_) (λh8=>O3 oh h8);refine Qj<|Qb<|Qi ⟨[nS],Lb,xj.Y _ _,[],Lu _,λx=>Iff.rfl,h⟩
 unfold QZ;have E:=AnyE.slices_Compact Tryz.cmpI iC (λ_=>U) (.intD _ _ .i64) (.intD _ _ .i64) 0 (λw=>od) g 0 cap l.toArray w (qM H Z) (by simp;omega) (oA T);change Calls sV 64 _ _ _ at E;rw[LU]at E;refine Calls.mono E λe w' he=>?_;obtain⟨rfl,q,rfl⟩:=he;have I:=Qhk l l.length (Lu _);rw[Nd]at I;have hb:(compactUpTo l.toArray l.length).length<=l.length:=by
  unfold compactUpTo;rw[Lj];exact LJ (Mt _ _) oe
 generalize compactUpTo l.toArray l.length=u at *;have:=QbK (e:=3) (n:=q) (k:=u.length) (os:=#[]) (d:=(u++oK (l.length - u.length) 0).toArray) S H (by simp;omega) V Y oe;rw[grow_empty]at this;refine⟨this.1,u,hb,I,?_⟩;have J:=this.2;have h3:(u++oK (l.length - u.length) 0).toArray.toList.take u.length=u:=oe
 rw[h3]at J;exact J
theorem QeJ {a b:LI}(T:QG [] ↑w va a)(V:QG [] ↑w vb b)(hl:a.length+b.length<=1000):
  QZ sV 24 [va,vb] w λr w'=>sW w w'/\∃l,l.length<=a.length+b.length/\(∀x,x∈l↔x∈a\/x∈b)/\Qp 3 ↑w w' r l:=by
 refine Zt func24 ?_;refine Qc<|Qb<|Qj<|Qx<|(ZU T).S ?_;rintro v1 w1 ⟨H,I⟩;have ho:=H.size;refine Qa<|Qo<|QbQ I U (V.J H) U (UW b) oa oa λv2 J Y Z hp=>Qb ?_;have O:Qp 3 ↑w J v2 (a++b):=by
  unfold Qp;rw[Ln,Ls];exact Y
 have he:sW w J:=H.G Z (λc E=>.inr (Qg I c E).1);have hq:(a++b).length=a.length+b.length:=Ln;refine Qj<|Qx<|(QjK O oa).S ?_;rintro r3 w3 ⟨hg,l3,hr,hh,S⟩;have hi:sW w w3:=he.G hg (λc E=>.inr (Qg O c E).1);refine xe<|Qj<|Qx<|(Qpf S oa).S ?_;rintro r4 w4 ⟨hj,l4,hs,hm,hn⟩;refine Qb<|Qi ⟨[_],Lb,hi.G hj (λc E=>.inr (Qg S c E).1),l4,oa,λx=>by rw[hm,hh,Lh],hn⟩
theorem jf {v:O9}(h:QG [] ↑w v al)(hb:∀e∈al,0<=e/\e<32)(hi:Yp al)(hn:ns.length=27)(O:∀n∈ns,n<256):
  QZ sV 25 [v,sT (bys ns),sS 3] w λr w'=>sW w w'/\∃a:QU,Xi ↑w ↑w' r a/\GdA a/\a.al=al:=by
 refine Zt func25 ?_;refine Qc<|Zg (bys ns) λb4 w1 hh hj E=>QL [nS,sS 0,nS,nS] λb6 w2 H hr S=>xe ?_;obtain⟨s0,hl⟩:∃s0,ns.getD 0 0=s0:=⟨_,U⟩;have T:ns[0]?=some s0:=by
  rw[<-hl,LR,LE oa];rfl
 have hs:s0<256:=O s0 (MA T);have q0:(bys ns)[0]?=some (.int .u8 (s0:Int)):=by
  unfold bys;rw[Nr,T];rfl
 have ht:=E.lt;have hw:=S.lt;refine Qc<|Qm U (E.J H) U q0<|Qa<|x (Z8 (k':=.u8) U ⟨oa,oa⟩)<|x (JV (a:=(s0:Int)) (b:=3) U U oa oa)<|QN U<|Qo<|Qw (u:=.int .u8 ((s0 % 3:Nat):Int)) (E.J H) U (O2 (Value.int .u8) (by omega:(s0:Int) % 3=((s0 % 3:Nat):Int))) (by rw[XW];omega) U λw3 I V =>
  xe ?_
 have J:sW w w3:=(hh.I H).Q I hj;rw[Qmd]at V;have Y:(ns.set 0 (s0 % 3)).length=27:=by rw[L9];exact hn
 have Z:(ns.set 0 (s0 % 3)).getD 0 0=s0 % 3:=QjN oa;refine Qj<|QV V U (by rw[XW];exact Y)<|Qx<|(Qid (h.J J) hb hi Y (Qnp O oa)).S ?_;rintro r4 w4 ⟨ha,a,hA,hy,_,hm,hc⟩;obtain⟨a0,k0,k1,k2,k3⟩:=hc (by rw[Z];omega);rw[Z]at k2;obtain⟨us,hv,he,ho⟩:=Xw hA;have hp:QP ↑w4 b6 66 [nS,sS 0,nS,nS]:=(S.O I ol).J ha;have hz:=I.size;refine Qo<|ZA (us:=us) hp U (show Go.Lg.ev _ _=_ from hv) he U ho λw5 hg hq=>xe ?_;refine Qi ⟨[sT us],⟨⟨_,U,ZR he (hq.at (L:=[]) oe).cells⟩,La⟩,(J.I ha).Q hg oa,a,?_,GdA.of k0 k1 k2 k3 (NF _ oh),hm⟩;show Xi _ _ (sT us) _;rw[<-hv];exact(XY hA oa hg).S J.size
section
variable {pS:String}
theorem qI {k:IntKind}[h:Ik P t k][h':St P E]{x:xd}{H:IntKind}(hx:ev f x=.int H n)(I:n<128):
  sR P f w d (.convert t E x) ty pS af gd (.string ⟨#[UInt8.ofNat n]⟩):=by
 unfold sR
 refine ya hx ?_;rw[run_convert_int_string w t E H n (by rw[h.u];rfl) h'.u];have J:Utf8.valid (n:Int)=true:=by
  unfold Utf8.valid;simp;omega
 unfold Utf8.encode;simp only[J,if_true,Ov,I]
theorem QjX {x:xd}{k:IntKind}{a b:Int}(hx:ev f x=.int k a)(H:ev f y=.int k b)(I:b≠0):
  sR P f w d (.binOp .rem t x y E) ty pS af gd (.int k (a.tmod b)):=by
 unfold sR
 refine Jk hx H ?_;simp[binOp,Op.intDiv,I]
end
open Go.Lg Go.Sort
theorem QqR (e:Int)(w:O8)(E:QP ↑w b T [va])(hA:QG L ↑w va al):
  QZ sV 27 ([sS e]++[sP b]) w λr w'=>r=.bool (decide (e∉al))/\w'=w:=by
 refine Zt func27 ?_;refine Qc<|Qb<|Qc<|Xe E U U<|Qa<|Qx<|(Yn hA e).S ?_;rintro r1 H ⟨rfl,rfl⟩;refine x (Zr U)<|Qb<|Qi ⟨[_],Lb,?_,U⟩;show Value.bool (!decide (e∈al))=_;rw[decide_not]
theorem QaI (e:Int)(w:O8)(H:QP ↑w b T [va])(hA:QG L ↑w va al):
  FnGives sV 27 #[sP b] #[iC e] (.bool (decide (e∉al))) w:=by
 have h:=QqR e w H hA;unfold QZ at h;unfold FnGives;refine Calls.mono h λI w' E=>?_;cases I with
 | returned v =>
  obtain⟨rfl,rfl⟩:=E;exact⟨U,0,U⟩
 | _=>exact E.elim
theorem QqC {os:xI}{d:Array Int}:xj [g] w (grow (putRow iC (Sort.ahead w n) g 0 d) os):=by
 have E:(grow (putRow iC (Sort.ahead w n) g 0 d) os).heap=w.heap.modify g (onCells (putCells iC 0 d))++os:=rfl;refine⟨U,U,U,?_,λi hi H=>?_⟩
 .rw[E,M5,Mn];omega
 rw[E,Ms,Mn,O1 hi,MD,O0 (λe=>H (by simp[e]))]
theorem QoW {base:Nat}{v:O9}(h:Qp 3 base w v l)(hl:l.length<=1099511627776)(J:QP ↑w b T [va])(hb:b∉ob v)(hA:QG (ob v) ↑w va al):
  QZ sV 26 [v,.func (.func 27) #[] #[sP b]] w λr w'=>xj (ob v) w w'/\Qp 3 base w' r (l.filter λx=>decide (x∈al)):=by
 have eg:∀args w,(callFunc 27 args).run sV w=.ok (.enter 27 args) w:=enters_of func27 od U;rcases h.2 with⟨rfl,h0⟩|⟨g,cap,cur,rfl,ha,O,hh,hi,hj,hm⟩
 .have hn:l=[]:=LA h0;subst hn;refine Zt func26 ?_;refine Qc<|Qb<|Qj<|Qa<|Qx<|(QkV (cap:=[sP b]) (q:=λ_=>true) (QG.fl (K8 [] ↑w)) (λe H=>by cases H)).S ?_;rintro r1 w1 ⟨rfl,S⟩;refine Qb<|Qd<|Qj<|x (QW U U)<|xe<|QY U (λ_=>?_) (λh8=>O3 U h8);refine Qj<|Qb<|Qi ⟨[nS],Lb,S,Ql h S⟩
 unfold QZ;have V:=λ(n:Nat) (os:xI) (d:Array Int)=>QqC (w:=w) (g:=g) (n:=n) (os:=os) (d:=d);have ho:b∉[g]:=hb;have hp:QG [g] ↑w va al:=hA;have I:=AnyE.slices_DeleteFunc Tryz.delI iC (λ_=>U) (λx=>decide (x∉al)) 27 #[sP b] eg 0 (λw=>od) g 0 cap l.toArray w
  (λW x E=>by
   have Y:sW w W:=⟨E.os,E.tape,E.output,E.size,λk hk _=>E.block k hk⟩;exact QaI x W (J.J Y) (hA.J Y))
  (λn os dk x _=>QaI x _ (J.O (V n os dk) ho) (hp.st (V n os dk)))
  (qM O hm) (by simp;omega) (oA hh)
 change Calls sV 26 _ _ _ at I;rw[LU]at I;refine Calls.mono I λe w' H=>?_;obtain⟨rfl,q,rfl⟩:=H;have hf:(l.toArray.toList.filter λx=>!decide (x∉al))=l.filter λx=>decide (x∈al):=by
  refine List.filter_congr λx _=>?_;by_cases hx:x∈al <;> simp[hx]
 rw[hf];have hq:=Mt (λx=>decide (x∈al)) l;generalize (l.filter λx=>decide (x∈al))=u at *;have:=QbK (e:=3) (n:=q) (k:=u.length) (os:=#[]) (d:=(u++oK (l.length - u.length) 0).toArray) ha O (by simp;omega) hi hj oe;rw[grow_empty]at this;refine⟨this.1,?_⟩;have Z:=this.2;have h3:(u++oK (l.length - u.length) 0).toArray.toList.take u.length=u:=oe
 rw[h3]at Z;exact Z
section
variable {pS:String}
theorem Qgx {e bys:Nat}[h:Sl P t e sz bys z](Y:∀u∈z.cells,u.oneCell'=true){s:xd}{o m c:Nat}(J:QP ↑w b T cs)(H:∃E,ev f s=.slice (some ⟨b,E,none⟩) m c/\(0<m->E=o/\o+m*sz<=cs.length))
  (hK:∀w' cs',xj [b] w w'->QP ↑w' b T cs'->cs'.length=cs.length->cs'.take o=cs.take o->K (QT f d (.tuple #[])) w'):XO P ⟨d,.call ⟨.builtin .clear,#[s],#[t]⟩,ty,pS,af,gd⟩ f w K:=by
 obtain⟨E,H,Z⟩:=H;obtain⟨i,hi,hz,hc,_⟩:=Sl.info h;have ha:=h.zs;rcases Nat.eq_zero_or_pos m with rfl|hmp
 .have O:sR P f w d (.call ⟨.builtin .clear,#[s],#[t]⟩) ty pS af gd (.tuple #[]):=by
   simp[sR,execOp,resolve,invoke,builtin,H,Builtin.clear_,run_underlying h.u]
  exact xv O (hK w cs (xj.Y _ _) J U U)
 obtain⟨rfl,he⟩:=Z hmp;have hb:(Builtin.zeroCells z.cells m).toList.length=m*sz:=by simp[Builtin.zeroCells,ha]
 have S:=run_storeCells_at P b E T (Builtin.zeroCells z.cells m).toList 0 cs.toArray w J (by simp only[Oc];omega) (λu hu=>by
  simp only[Builtin.zeroCells,Array.toList_map,OB]at hu;obtain⟨j,hj,rfl⟩:=hu;have hg:=h.pos;have V:j % z.cells.size<z.cells.size:=NF _ oa;rw[getElem!_pos z.cells _ V];exact Y _ (Array.getElem_mem V))
 simp only[OH]at S;obtain⟨I,rfl⟩:∃I,m=I+1:=⟨m - 1,oa⟩;have O:(execOp (ev f) ⟨d,.call ⟨.builtin .clear,#[s],#[t]⟩,ty,pS,af,gd⟩).run P w=.ok (.value (.tuple #[])) (w.setRow b ((cs.take E++(Builtin.zeroCells z.cells (I+1)).toList++cs.drop (E+(Builtin.zeroCells z.cells (I+1)).toList.length))).toArray):=by
  simp[execOp,resolve,invoke,builtin,H,Builtin.clear_,run_underlying h.u,zeroValue,typeInfo,hi,hz]at S ⊢;simp[S]
 refine xv O (hK _ _ (xj.setRow _ _ _) (X5 J) ?_ ?_)
 .simp only[oN,Ob,Oa,hb];omega
 rw[LD,Nb (by simp;omega),Ni,Nat.min_self]
theorem J3 {α:Type}{sz:Nat}{g:α->LV}(E:∀x,(g x).length=sz):∀(l:List α) (i:Nat) (u:α),i<l.length->(l.set i u).flatMap g=(l.flatMap g).take (i*sz)++g u++(l.flatMap g).drop (i*sz+sz)
 | [],i,u,h=>O3 h oe
 | a::l,0,u,h=>by
  rw[List.set_cons_zero,LQ,LQ,OV,Np,Md,LS,List.drop_append_of_le_length (by rw[E a];exact Lu _),Lx (by rw[E a];exact Lu _),Md]
 | a::l,i+1,u,h=>by
  have H:(i+1)*sz=(g a).length+i*sz:=by rw[E a,Nat.succ_mul];omega
  have I:(i+1)*sz+sz=(g a).length+(i*sz+sz):=oa
  have J:∀(F:LV) k,(g a++F).take ((g a).length+k)=g a++F.take k:=λF k=>by rw[OR,Lt (l:=g a) oa,MW]
  have O:∀(F:LV) k,(g a++F).drop ((g a).length+k)=F.drop k:=λF k=>by rw[List.drop_append,Lx (l:=g a) oa,Md,MW]
  rw[NS,LQ,LQ,I,H,J,O,J3 E l i u (oA h)];simp only[oY]
theorem QaC [h1:Ag P t sz]{g:α->LV}(E:∀x,(g x).length=sz){x:xd}{base e:Nat}{l:List α}{u:α}(h:w.ownsRow base e sz (sL b l.length cap) l.length (l.flatMap g))(hx:ev f x=.pointer (some ⟨b,i*sz,none⟩))(J:ev f y=sT (g u))(hi:i<l.length)(hu:Zj (g u))
  (hK:∀w',xj [b] w w'->w'.ownsRow base e sz (sL b l.length cap) l.length ((l.set i u).flatMap g)->K (QT f d undef) w'):XO P ⟨d,.store t x y,ty,pS,af,gd⟩ f w K:=by
 rcases h.2 with⟨e1,_⟩|⟨g',cap',cur,e1,O,S,H,T,V,Y⟩
 .cases e1
 cases e1
 have Z:QP ↑w b e cur.toList:=S;have hc:l.length*sz<=cap*sz:=Ma _ H;have ha:(i+1)*sz<=l.length*sz:=Ma _ hi;rw[Nat.succ_mul]at ha;have I:cur.toList.length=cap*sz:=by rw[Array.length_toList];exact V
 refine Yy Z hx J (E u) oa hu U λw' hs hb=>hK w' hs ⟨?_,.inr ⟨b,cap,_,U,O,hb,H,T,?_,?_⟩⟩
 .rw[J3 E l i u hi];simp only[oN,Ob,Oa,E u,h.1];omega
 .simp only[Oc,oN,Ob,Oa,E u,I];omega
 have hX:(cur.toList.take (i*sz)++g u).length=i*sz+sz:=by simp only[oN,Ob,E u,I];omega
 rw[J3 E l i u hi,<-Y];show(cur.toList.take (i*sz)++g u++cur.toList.drop (i*sz+sz)).take (l.length*sz)=_;rw[OR,Lt oa,hX,Ni,Mu oa,List.drop_take]
end
theorem Qks (p:Int×Int)(w:O8):QZ sV 30 [sT (QD p)] w λr w'=>r=.bool (decide (p.2=0))/\sW w w':=by
 refine Zt func30 ?_;refine Qc<|Zg (QD p) λb1 I E J H=>Qb<|Qc<|Qm U H U U<|x (QW U U)<|Qb<|Qi ⟨[_],Lb,U,E⟩
theorem Qom [Fu sV gp fn]{cap:LV}{q:(Int×Int)->Bool}{v:O9}{l:xF}(h:Zk L ↑w v l.length 2 (l.flatMap QD))
  (hk:∀e∈l,∀(E:O8),sW w E->QZ sV gp ([sT (QD e)]++cap) E λr w'=>r=.bool (q e)/\sW E w'):
  QZ sV 68 [v,.func (.func gp) #[] cap.toArray] w λr w'=>r=sS (fix q 0 l)/\sW w w' :=
 ixG ⟨_,U,func68⟩ Yw (ldA Yw) h hk
section
variable {pS:String}
theorem qH {e bys:Nat}[h:Sl P t e sz bys z]{x E:xd}{k:IntKind}(hx:ev f x=sL b n cap)(H:ev f E=.int k lo)(S:lo<=n):
  sR P f w d (.slice t x (some E) none none) ty pS af gd (.slice (some ⟨b,if cap=lo then 0 else lo*sz,none⟩) (n - lo) (cap - lo)):=by
 unfold sR
 obtain⟨i,I,_,J,_⟩:=Sl.info h;have e2:(Instr.sliceBound (.int k lo) n .sliceB).run P w=.ok lo w:=ZM S;by_cases O:cap=lo
 .simp[execOp,hx,H,Instr.sliceAt,Instr.slice,run_underlying h.u,Instr.sliceBounds,e2,sizeOf,typeInfo,I,J,O]
 simp[execOp,hx,H,Instr.sliceAt,Instr.slice,run_underlying h.u,Instr.sliceBounds,e2,sizeOf,typeInfo,I,J,O,Addr.add];exact λe=>e.symm
theorem JN {e bys:Nat}[h:Sl P t e sz bys z]{x E:xd}{k:IntKind}(hx:ev f x=sL b n cap)(H:ev f E=.int k hi)(I:hi<=cap):
  sR P f w d (.slice t x none (some E) none) ty pS af gd (sL b hi cap):=by
 unfold sR
 obtain⟨i,J,_,O,_⟩:=Sl.info h;have e2:(Instr.sliceBound (.int k hi) cap .sliceAcap).run P w=.ok hi w:=ZM I;simp[execOp,hx,H,Instr.sliceAt,Instr.slice,run_underlying h.u,Instr.sliceBounds,e2,sizeOf,typeInfo,J,Addr.add]
end
theorem QaU {α:Type}(q:α->Bool):∀(l:List α) (i:Nat),(fix q i l=-1/\∀x∈l,q x=false)\/∃k,k<l.length/\fix q i l=((i+k:Nat):Int)/\l.take k=(l.take (k+1)).filter λx=>!q x
 | [],i=>.inl ⟨U,λx h=>by cases h⟩
 | a::l,i=>by
  rw[YP];by_cases h:q a=true
  .rw[O1 h];exact .inr ⟨0,oe,oe,by simp[h]⟩
  rw[O0 h];have I:q a=false:=by simpa using h
  rcases QaU q l (i+1)with⟨E,H⟩|⟨k,E,H,J⟩
  .exact .inl ⟨E,λx hx=>by rcases Lk.1 hx with rfl|hx;exact I;exact H x hx⟩
  exact .inr ⟨k+1,oA E,by rw[H];congr 1;omega,by rw[M9,M9,Mg,O1 (by simp[I]),<-J]⟩
theorem JC {base e:Nat}(h:w.ownsRow base e sz (sL b n cap) n cs):n<=cap/\∃cur:LV,QP ↑w b e cur/\cur.length=cap*sz/\cur.take (n*sz)=cs:=by
 rcases h.2 with⟨e1,_⟩|⟨g',cap',cur,e1,O,E,H,S,I,J⟩
 .cases e1
 cases e1
 exact⟨H,cur.toList,E,by rw[Array.length_toList];exact I,J⟩
theorem VW {base e k:Nat}{cs' cur:LV}(h:w.ownsRow base e sz (sL b n cap) n cs)(hk:k<=n)(E:QP ↑w' b e cur)(H:cur.length=cap*sz)(I:cur.take (k*sz)=cs')(J:cs'.length=k*sz):
  w'.ownsRow base e sz (sL b k cap) k cs':=by
 rcases h.2 with⟨e1,_⟩|⟨g',cap',cur',e1,O,T,V,S,Y,Z⟩
 .cases e1
 cases e1
 exact⟨J,.inr ⟨b,cap,cur.toArray,U,O,E,oa,S,by rw[LU];exact H,I⟩⟩
theorem xN {α:Type}{sz:Nat}{g:α->LV}(E:∀x,(g x).length=sz):∀l:List α,(l.flatMap g).length=l.length*sz
 | []=>oe
 | a::l=>by rw[LQ,Ln,xN E l,E a,LX,Nat.succ_mul];omega
theorem Qgs:∀(l:xF) (k:Nat),(l.flatMap QD).take (k*2)=(l.take k).flatMap QD
 | [],k=>oe
 | a::l,0=>oe
 | a::l,k+1=>by
  rw[show(k+1)*2=k*2+2 by omega,LQ,M9,LQ,<-Qgs l k];rfl
abbrev nzT (l:xF):xF:=l.filter λp=>!decide (p.2=0)
theorem QoV {base:Nat}{v:O9}{l:xF}(h:w.ownsRow base 112 2 v l.length (l.flatMap QD))(hl:l.length<=1000):
  QZ sV 29 [v,.func (.func 30) #[] #[]] w λr w'=>xj (ob v) w w'/\w'.ownsRow base 112 2 r (nzT l).length ((nzT l).flatMap QD):=by
 have hix:=Qom (cap:=[]) (q:=λp=>decide (p.2=0)) (QC (L:=[]) h oa oe) (λe _ V _=>Qks e V);have hr:=QaU (λp:Int×Int=>decide (p.2=0)) l 0;rcases h.2 with⟨rfl,Y⟩|⟨g,cap,cur,rfl,hR,_⟩
 .have h7:l=[]:=LA Y;subst h7;refine Zt func29 ?_;refine Qc<|Qb<|Qj<|Qa<|Qx<|hix.S ?_;rintro r1 V ⟨rfl,H⟩;refine Qb<|Qd<|Qj<|x (QW U U)<|xe<|QY U (λ_=>?_) (λh8=>O3 U h8);refine Qj<|Qb<|Qi ⟨[nS],Lb,H,Ql h H⟩
 obtain⟨hS,_⟩:=JC h;refine Zt func29 ?_;refine Qc<|Qb<|Qj<|Qa<|Qx<|hix.S ?_;rintro r1 V ⟨rfl,H⟩;refine Qb<|Qd<|Qj<|x (QW U U)<|xe<|QY rfl (λZ=>?_) (λZ=>?_)
 .have h9:nzT l=l:=NJ.2 λp hp=>by
   rcases hr with⟨_,h2⟩|⟨k,_,h2,_⟩
   .have:=h2 p hp;simpa using this
   have hT:fix (λp:Int×Int=>decide (p.2=0)) 0 l=-1:=Z;omega
  refine Qj<|Qb<|Qi ⟨[sL g l.length cap],Lb,H.any,?_⟩;rw[h9];exact Ql h H
 refine Exists.elim (hr.resolve_left λa=>Z a.1) λS ha=>?_;have hs:fix (λp:Int×Int=>decide (p.2=0)) 0 l=(S:Int):=by have:=ha.2.1;omega
 refine Qe<|Qd<|Qj<|x (X2 (a:=(S:Int)) (b:=1) (O2 sS hs) U ⟨oa,oa⟩)<|Qb<|Q2 (α:=Nat×Nat×xF) [(5,7),(16,35)] (λz=>[(5,sS z.1),(6,sS z.2.1)])
  (λz w'=>z.1<z.2.1/\z.2.1<=l.length/\z.2.2.length=l.length/\z.2.2.take z.1=nzT (l.take z.2.1)/\z.2.2.drop z.2.1=l.drop z.2.1/\xj [g] w w'/\w'.ownsRow base 112 2 (sL g z.2.2.length cap) z.2.2.length (z.2.2.flatMap QD))
  (λz=>l.length - z.2.1) (S,S+1,l) ⟨O2 sS hs,U,La⟩
  ⟨Nat.lt_succ_self _,ha.1,U,ha.2.2,U,H.any,Ql h H⟩ ?_
 rintro⟨i,j,ts⟩ g2 w2 ⟨hB,hj,hb,I,hc,ht,J⟩;simp only[]at hB hj hb I hc J;refine Qd<|Qj<|Qa<|x (Un U)<|Ye U U<|xe<|ZI rfl (λhg=>?_) (λhg=>?_)
 .refine Qt ?_;have hC:j=l.length:=by have hD:¬(j:Int)<(l.length:Int):=hg;omega
  rw[hC,Nd]at I;have hv:(nzT l).length=i:=by rw[<-I,LB];omega
  refine Exists.elim (JC J).2 λhU hw=>?_;have hE:=hw.1;have hF:=hw.2.2;refine Qj<|Qa<|x (qH (lo:=i) U U oa)<|Qo<|Qgx (m:=l.length - i) (o:=i*2) (λu hu=>by simp[Value.cells]at hu;rw[hu];rfl) hE ⟨_,U,λh=>⟨by rw[O0 oa],oa⟩⟩ λw3 hV hh hG hW hH=>xe ?_;refine Qj<|Qa<|x (JN (hi:=i) U U oa)<|Qb<|Qi ⟨[sL g i cap],Lb,ht.V hh,?_⟩;rw[hv];refine VW J oa hG oa ?_ ?_
  .rw[hH,<-I,<-Qgs,<-hF,Ni,Mu oa]
  rw[xN Yw,hv]
 have E:j<l.length:=by have hD:(j:Int)<(l.length:Int):=hg;omega
 have hm:j<ts.length:=oa
 have hI:ts[j]'hm=l[j]'E:=by
  have T:=O2 (λz=>z[0]?) hc;simp only[List.getElem?_drop,OH,Of hm,Of E]at T;exact Option.some.inj T
 have hy:ts.drop (j+1)=l.drop (j+1):=by
  have T:=O2 (List.drop 1) hc
  rwa [List.drop_drop,List.drop_drop]at T
 have O:nzT (l.take (j+1))=nzT (l.take j)++(if(l[j]'E).2=0 then[]else[l[j]'E]):=by
  unfold nzT;rw[Lo E,Mc];by_cases Y:(l[j]'E).2=0 <;> simp[Y]
 have hA:=QC (L:=[]) J oa oe;rw[show sL g ts.length cap=sL g l.length cap from by rw[hb]]at hA;refine Qe<|Qd<|Qn<|Qj<|Qa<|xp Yw hA U U hm λhX hn=>?_;rw[hI]at hn;refine Zd (l[j]'E) λe he=>?_;rw[he]at hn O;refine x (Qu hn U U)<|QL [sS 0,sS 0] λb7 w3 hh hJ hK=>QJ (QD e) hK oB λw4 hL hz=>xe ?_;have hM:sW w2 w4:=hh.Q hL hJ;refine Qj<|QV hz U U<|Qo<|xc (first:=[]) (capt:=[]) U<|(Qks e w4).S ?_;rintro r5 w5 ⟨rfl,h3⟩;refine x (Zr U)<|xe ?_;have h4:=hM.I h3;have h5:=Ql J h4;have h6:xj [g] w w5:=ht.I h4.any;refine Q6 rfl (λho=>?_) (λho=>?_)
 .have hq:¬e.2=0:=by simpa using ho
  rw[O0 hq]at O;have hN:w5.ownsRow base 112 2 (sL g ts.length cap) ts.length (ts.flatMap QD):=h5;refine Qj<|Qa<|QV (hz.J h3) U U<|x (QO (i:=i) U U oa)<|Qo<|QaC (u:=e) Yw hN (O2 (λn=>Value.pointer (some ⟨g,n,none⟩)) (LS (i*2))) U oa oB λw6 hO hP =>
   xe ?_
  refine Qq<|Qa<|QH U U<|Qb<|Qq<|Qa<|QH U U<|Qb ?_;have hQ:(ts.set i e).length=ts.length:=L9;refine⟨(i+1,j+1,ts.set i e),og,oB,og,E,og,?_,?_,h6.V hO,?_⟩
  .simp only[];rw[O,<-I,List.set_eq_take_append_cons_drop,O1 oa,OR,Lt (by rw[LB];omega),LB,Mu oa,MW,M9,Np]
  .simp only[];rw[List.drop_set_of_lt oa,hy]
  simp only[];rw[hQ];exact hP
 have hq:e.2=0:=by simpa using ho
 rw[O1 hq,LT]at O;refine Qe<|Qq<|Qa<|QH U U<|Qb<|⟨(i,j+1,ts),og,oB,og,E,hb,by rw[O];exact I,hy,h6,h5⟩
instance ayAz1:Ay sV 25 3 24 1:=⟨od,od⟩
instance ayAz2:Ay sV 30 2 24 1:=⟨od,od⟩
instance ayAz3:Ay sV 31 2 28 27:=⟨od,od⟩
instance ayAz4:Ay sV 34 3 33 1:=⟨od,od⟩
abbrev X4V:={r:LN // r.length=4/\∀n∈r,n<256}
abbrev Xl (r:X4V):LV:=bys r.1
theorem yu (r:X4V):(Xl r).length=4:=by show(bys r.1).length=4;unfold bys;rw[Lj,r.2.1]
structure PlV where
 ns:LN
 vx:O9
 xs:List X4V
 f0:Int
 f1:Int
 f2:Int
 bd:Int
abbrev Xa (l:PlV):LV:=bys l.ns++[l.vx,.int .i8 l.f0,.int .i8 l.f1,.int .i8 l.f2,.int .i8 l.bd]
abbrev i8R (n:Int):Prop:=-128<=n/\n<=127
structure PlA (L:LN)(H:xI)(l:PlV):Prop where
 n:l.ns.length=147
 b:∀n∈l.ns,n<256
 x:Zk L H l.vx l.xs.length 4 (l.xs.flatMap Xl)
 f0:i8R l.f0
 f1:i8R l.f1
 f2:i8R l.f2
 bd:i8R l.bd
theorem QqE {l:PlV}(h:l.ns.length=147):(Xa l).length=152:=by rw[Xa,Ln,XW,h];rfl
theorem Qj7 {l:PlV}(h:l.ns.length=147)(j:Nat):(Xa l)[147+j]?=([l.vx,.int .i8 l.f0,.int .i8 l.f1,.int .i8 l.f2,.int .i8 l.bd]:LV)[j]?:=by
 rw[Xa,MX (by rw[XW];omega),XW,h,MW]
theorem Qgp {l:PlV}(h:l.ns.length=147)(E:j<147):(Xa l)[j]?=some (.int .u8 ((l.ns.getD j 0:Nat):Int)):=by
 rw[Xa,Mo (by rw[XW];omega)];exact zf oa
theorem Qe5 {l:PlV}{o m:Nat}(j:Nat)(u:O9)(h:(bys ((l.ns.drop o).take m))[j]?=some u):(Xa l)[o+j]?=some u:=by
 have E:=Qpi (ns:=l.ns) (o:=o) (n:=m) j u h;have H:=(Me.1 E).1;rw[Xa,Mo H];exact E
theorem Qhq {sz:LI}:∀(ls:xF) (pr:Option Int),(∀b,pr=some b->∀p∈ls,b<p.1)->ls.Pairwise (λp q=>p.1<q.1)->(∀p∈ls,0<=p.1/\p.1<(sz.length:Int)/\0<=p.2/\p.2<xo sz p.1.toNat)->X3 sz pr ls=0
 | [],_,_,_,_=>rfl
 | p::ls,pr,I,J,H=>by
  obtain⟨T,V,Y,Z⟩:=H p Lr;obtain⟨k1,k2⟩:=L6.1 J;have O:j0 pr p.1=false:=by
   cases pr with
   | none=>rfl
   | some b=>have:=I b U p Lr;unfold j0;exact O6 oa
  rw[X3,O0 oa,O0 (by rw[O];decide),O0 oa];exact Qhq ls (some p.1) (λb S q E=>by cases S;exact k1 q E) k2 (λq E=>H q (Ll _ E))
theorem Qhm {sz:LI}:∀(ls:xF) (pr:Option Int),(∀b,pr=some b->∀p∈ls,b<p.1)->ls.Pairwise (λp q=>p.1<q.1)->(∀p∈ls,0<=p.1/\p.1<(sz.length:Int)/\p.2≠0/\-65536<=p.2/\p.2<=65536)->Ku sz pr ls=0
 | [],_,_,_,_=>rfl
 | p::ls,pr,I,J,H=>by
  obtain⟨Y,Z,O,h4,h5⟩:=H p Lr;obtain⟨k1,k2⟩:=L6.1 J;have S:j0 pr p.1=false:=by
   cases pr with
   | none=>rfl
   | some b=>have:=I b U p Lr;unfold j0;exact O6 oa
  have T:grt p.2=false:=by unfold grt;rw[O6 oa,O6 oa];rfl
  rw[Ku,O0 oa,O0 (by rw[S];decide),O0 (by rw[T];simpa using O)];exact Qhm ls (some p.1) (λb V q E=>by cases V;exact k1 q E) k2 (λq E=>H q (Ll _ E))
theorem Qf6 (a:Int){b:Int}(h:0<b):-b<a.tmod b/\a.tmod b<b:=⟨Int.lt_tmod_of_pos a h,Int.tmod_lt_of_pos a h⟩
structure ItG (c:Nat)(k:Nat)(q:IV):Prop where
 nm:q.nm=⟨#[UInt8.ofNat c]⟩++⟨#[UInt8.ofNat (48+k)]⟩
 g:GdA q.p.a
 e:∀e∈q.p.a.al,e<5
theorem Qkm (k:Nat)(h:k<3):YE (nmI 99 k)=true/\YE (nmI 114 k)=true/\YE (nmI 101 k)=true:=by
 match k,h with
 | 0,_=>decide
 | 1,_=>decide
 | 2,_=>decide
theorem Qh6:∀n,n<4->∀m,m<3->((oT n).map (nmI 99)++(oT m).map (nmI 114)).Nodup:=oh
theorem QaM {c:Nat}{co:List IV}(h:∀k (hk:k<co.length),ItG c k (co[k]'hk)):(co.map IV.it).map (·.nm)=(oT co.length).map (nmI c):=by
 apply Mh
 .simp
 intro i E H;simp only[OG,OK];exact(h i (oA E)).nm
theorem Qrx {co rq:List IV}(h1:1<=co.length)(h3:co.length<=3)(I:∀k (hk:k<co.length),ItG 99 k (co[k]'hk))(S:∀e,e∈al↔∃q∈co,e∈q.p.a.al)(hb:rq.length<=2)
  (J:∀k (hk:k<rq.length),ItG 114 k (rq[k]'hk)/\∀e∈(rq[k]'hk).p.a.al,e∈al) (hc:qx.length<=2) (T:(qx.map (·.nm)).Nodup) (V:∀q∈qx,(∃k,k<2/\q.nm=⟨#[101]⟩++⟨#[UInt8.ofNat (48+k)]⟩)/\q.ls≠[]/\q.ls.length<=3/\X3 (co.map (·.p.a.st)) none q.ls=0)
  (hg:ks.length<=1) (Y:∀q∈ks,q.nm=⟨#[107]⟩/\Xd (co.map (·.p.a.st)) q.k=0):D25 ⟨J5 ns 5,co.map IV.it,rq.map IV.it,qx.map XV.x,ks.map KV.k⟩:=by
 have O:szs (co.map IV.it)=co.map (·.p.a.st):=by unfold szs;rw[L4];rfl
 refine⟨⟨V3 ns 5,Qlu ns⟩,by simp only[o6];omega,by simp only[o6];omega,by simp only[o6];omega,λx hx=>?_,λx hx=>?_,?_,by simp only[o6];omega,λx hx=>?_,?_,by simp only[o6];omega,λx hx=>?_⟩
 .obtain⟨q,E,rfl⟩:=Ly.1 hx;obtain⟨k,hk,rfl⟩:=LM E;have g:=I k hk;exact⟨by show YE (co[k]'hk).nm=true;rw[g.nm];exact(Qkm k oa).1,g.g,g.e⟩
 .obtain⟨q,E,rfl⟩:=Ly.1 hx;obtain⟨k,hk,rfl⟩:=LM E;have g:=J k hk;refine⟨by show YE (rq[k]'hk).nm=true;rw[g.1.nm];exact(Qkm k oa).2.1,g.1.g,λe Z=>?_⟩;obtain⟨y,hy,ha⟩:=(S e).1 (g.2 e Z);exact⟨y.it,LK hy,ha⟩
 .show((co.map IV.it).map (·.nm)++(rq.map IV.it).map (·.nm)).Nodup;rw[QaM I,QaM (λk hk=>(J k hk).1)];exact Qh6 _ oa _ oa
 .obtain⟨q,E,rfl⟩:=Ly.1 hx;obtain⟨⟨k,k1,k2⟩,H,_,g4⟩:=V q E;refine⟨by show YE q.nm=true;rw[k2];exact(Qkm k oa).2.2,H,?_⟩;show X3 (szs (co.map IV.it)) none q.ls=0;rw[O];exact g4
 .show((qx.map XV.x).map (·.nm)).Nodup;rw[L4];exact T
 obtain⟨q,E,rfl⟩:=Ly.1 hx;obtain⟨g1,H⟩:=Y q E;refine⟨by show YE q.nm=true;rw[g1];decide,?_⟩;show Xd (szs (co.map IV.it)) q.k=0;rw[O];exact H
def flk (l:PlV)(i:Nat):Int:=[l.f0,l.f1,l.f2].getD i 0
theorem Qsy {l:PlV}(h:l.ns.length=147)(hi:i<3):(Xa l)[0+148+i*1]?=some (.int .i8 (flk l i)):=by
 rw[show 0+148+i*1=147+(1+i) by omega,Qj7 h]
 match i,hi with
 | 0,_=>rfl
 | 1,_=>rfl
 | 2,_=>rfl
theorem Qsx {H:xI}{l:PlV}(h:PlA L H l)(i:Nat)(hi:i<3):i8R (flk l i):=by
 match i,hi with
 | 0,_=>exact h.f0
 | 1,_=>exact h.f1
 | 2,_=>exact h.f2
theorem Qlt (ns:LN):∀e∈J5 ns 5,JE e.nm:=λe E=>by
 unfold J5 at E;obtain⟨k,_,rfl⟩:=Ly.1 E;unfold Vd;split <;> exact Xx oe
theorem Qie {l:PlV}(h:PlA [] ↑w l):
  QZ sV 7 [sT (Xa l)] w λr w'=>sW w w'/\∃k,Qf3 ↑w ↑w' r k/\D25 k:=by
 refine Zd (1+l.ns.getD 5 0 % 3) λn hn=>?_;have hn3:1<=n/\n<=3:=oa
 refine Zt func7 ?_;refine Qc<|Zg (Xa l) λb1 w1 hs1 hb1 pf=>QL Z3 λb2 w2 kz hb2 pg=>xe ?_;have ph:=hs1.I kz;have hl1:=pf.lt;have hl2:=pg.lt;have gx:=pf.J kz;have pj:((l.ns.drop 0).take 5).length=5:=by rw[LB,L5,h.n];rfl
 have hflt:∀n∈(l.ns.drop 0).take 5,n<256:=λn hn=>h.b n (Mf (L8 hn));refine Qc<|QN U<|x (qK (us:=bys ((l.ns.drop 0).take 5)) gx U (by rw[XW];exact pj) (λj u hu=>Qe5 (l:=l) (o:=0) (m:=5) j u hu))<|Qx<|(Qew (ns:=(l.ns.drop 0).take 5) pj hflt).S ?_;rintro ve w3 ⟨pm,go⟩;refine Zd (J5 ((l.ns.drop 0).take 5) 5) λev kj=>?_;rw[kj]at go;refine x (Qv ⟨xS go,La⟩)<|QL Z3 λI w4 hs4 hb3 hB3=>QJ [ve,ZD,ZD,ZD,ZD] hB3 ⟨Qr go,U,U,U,U,La⟩ λw5 hs5 pn =>
  xe ?_
 have po:sW w3 w5:=hs4.Q hs5 hb3;refine Qc<|QL [ZD] λb4 w6 pp hb4 pu=>xe ?_;have pw:=po.I pp;have gy:=pm.I pw;have T:=kz.I gy;have hz3:=pm.size;have hz35:=po.size;have hl3:=pn.lt;have hl4:=pu.lt;have k0:=gx.J gy;have hB36:=pn.J pp;have q5:=Qgp (l:=l) h.n (j:=5) oa;have q5l:=JG h.b 5;refine Zd (l.ns.getD 5 0) λcn hcn=>?_;rw[hcn]at q5 q5l hn;refine Qc<|Qm U k0 U q5<|x (JV (a:=(cn:Int)) (b:=3) U U oa oa)<|x (Z8 (k':=.i64) U ⟨oa,oa⟩)<|QH U U<|Qb<|QX (α:=O9×List IV×O9×LI) [(6,7),(26,55)] (λ_=>[]) (λz w'=>xj [I,b4] w6 w'/\QP ↑w' I 45 [ve,z.1,ZD,ZD,ZD]/\QP ↑w' b4 63 [z.2.2.1]/\zT ↑w6 w' z.1 z.2.2.1 z.2.1 z.2.2.2/\z.2.1.length=n/\(∀k (hk:k<z.2.1.length),ItG 99 k (z.2.1[k]'hk))/\z.2.2.2.length<=5*n/\∀e,e∈z.2.2.2↔∃q∈z.2.1,e∈q.p.a.al) om ?_ ?_
 .refine Qj<|Qa<|xe<|Q2 (α:=Nat×O9×List IV×O9×LI) [(6,7),(27,55)] (λz=>[(27,sS z.1)])
   (λz w'=>z.1<=n/\xj [I,b4] w6 w'/\QP ↑w' I 45 [ve,z.2.1,ZD,ZD,ZD]/\QP ↑w' b4 63 [z.2.2.2.1]/\zT ↑w6 w' z.2.1 z.2.2.2.1 z.2.2.1 z.2.2.2.2/\z.2.2.1.length=z.1/\(∀k (hk:k<z.2.2.1.length),ItG 99 k (z.2.2.1[k]'hk))/\z.2.2.2.2.length<=5*z.1/\∀e,e∈z.2.2.2.2↔∃q∈z.2.2.1,e∈q.p.a.al)
   (λz=>n - z.1) (0,ZD,[],ZD,[]) Lb
   ⟨Lp _,xj.Y _ _,hB36,pu,zT.nil,U,λk hk=>O3 hk oe,oe,oe⟩ ?_
  rintro⟨i,vc,co,va,al⟩ g7 w7 ⟨hi,hC,gp,gc,hv,gz,hU,k4,gq⟩;simp only[]at hi gp gc hv gz hU k4 gq;refine Zi U U (λk5=>?_) (λk5=>?_)
  .refine Qt ?_;have k6:i=n:=by have h29:¬(i:Int)<1+(cn:Int) % 3:=k5;omega
   exact⟨(vc,co,va,al),La,hC,gp,gc,hv,og,hU,og,gq⟩
  have h5:i<n:=by have h29:(i:Int)<1+(cn:Int) % 3:=k5;omega
  have k7:b1∉[I,b4]:=ot
  have hV:=k0.O hC k7;have qs:=Qgp (l:=l) h.n (j:=0+6+i*1) oa;have qsl:=JG h.b (0+6+i*1);refine Zd (l.ns.getD (0+6+i*1) 0) λm Z=>?_;rw[Z]at qs qsl;have k8:=XH m 5;have g0:=Qc5 m 5;have gg:=Qgf m 5;refine Zd (setK m 5) λsk g2=>?_;rw[g2]at k8 g0 gg;refine Qe<|Qd<|Qn<|Qj<|Qb<|Qj<|QN U<|x (Yf (i:=i) U U oa)<|Xe hV U qs<|Qx<|(UQ m qsl _).S ?_;rintro vs w8 ⟨hh,kk⟩;rw[g2]at kk;refine Qb ?_;have pz:=hh.size;have hE:=hv.J hh;have hI8:=Qp.ints (L:=[]) hE.a oa oe;have hJ8:=Qp.ints (L:=[]) kk oa oe;refine Qc<|Xe (gc.J hh) U U<|Qa<|Qx<|(QeJ hI8 hJ8 oa).S ?_;rintro p0 w9 ⟨V,p1,hal2,p2,gh⟩;have kn:=hh.I V;have k9:=V.size;have hz7:=hC.size;refine Qo<|Qw (gc.J kn) U U oe (Qr gh) λhj hw hB410=>xe ?_;have hl36:I<w6.heap.size:=oa
  have h7:zT ↑w6 w9 vc p0 co p1:=hE.setA (Zv gh oa) V.any (λb E=>.inr (Qg gh b E).1);have hy:=h7.low hw (λb E=>by rw[Lc.1 E];omega);have g3:QP ↑hj I 45 [ve,vc,ZD,ZD,ZD]:=(gp.J kn).O hw ol;have ma:=(hV.J kn).O hw ol;have mf:QG [] ↑hj vs sk:=Qp.ints (L:=[]) (Qf (Ql kk V) hw (λb E Z=>by have:=(Qg kk b E).1;rw[Lc.1 Z]at this;omega)) oa oe;have hz10:=hw.size;have n3v:I∉ob vc:=QR hy.c oa;have n1v:b1∉ob vc:=QR hy.c oa;have gi:=Qk5 (ns:=l.ns) (o:=0+9+i*27) (ov h.n);have g4:=QpX (o:=0+9+i*27) h.b;have g5:=λj u=>Qe5 (l:=l) (o:=0+9+i*27) (m:=27) j u;refine Zd (grN l.ns (0+9+i*27)) λgr h8=>?_;have mg:∀j u,(bys gr)[j]?=some u->(Xa l)[0+9+i*27+j]?=some u:=by rw[<-h8];exact g5
  rw[h8]at gi g4;have g6:sW hj { hj with drawn:=hj.drawn+1 }:=xj.X _ _
  have ka:(48:Int)+(i:Int)=((48+i:Nat):Int):=oa
  refine Zd (⟨#[99]⟩++⟨#[UInt8.ofNat (48+i)]⟩:ByteArray) λnm hH=>?_;refine ZH (ob vc) (Xf 0 18 [12,14,15,17])<|p (QF U)<|pq (λ_ hc=>Qk (g3.O hc n3v) U U)<|p QA<|p (λ_=>X2 U U ⟨oa,oa⟩)<|p (λ_=>Z8 (k':=.i32) U ⟨oa,oa⟩)<|p (λ_=>qI (n:=48+i) (O2 (Value.int .i32) ka) oa) <|
   p (λ_=>YU (a:=⟨#[99]⟩) (b:=⟨#[UInt8.ofNat (48+i)]⟩) U U (by show 1+1<=1000000000;omega))<|p QA<|p QA<|p (QF U)<|p (λ_=>Yf (i:=i) U U oa)<|pq (λ_ hc=>qK (us:=bys gr) (ma.O hc n1v) U (by rw[XW];exact gi) mg)<|?_
  refine pk<|xg<|(jf (mf.J g6) (λe S=>ov (gg e S)) g0 gi g4).S ?_;rintro r11 ho ⟨gj,a,⟨xa,xm,h6,rfl,hA⟩,hG,gs⟩;have hI:=g6.I gj;have p3:=hI.size;have gk:=hA [] oe;refine⟨hI.any,?_⟩;refine p (λ_=>Q8 [(0,[.string nm]),(1,[xa,sS a.st,xm,h6])] ⟨O2 (λb=>(Value.string b).cells) hH,U,U,U,La⟩)<|pk<|Zb [QK ⟨nm,⟨xa,xm,h6,a⟩⟩] λb14 gl hg hb14 mh=>⟨(hI.I hg).any,?_⟩;have hz:=hI.I hg;have kb:=hy.J hz;refine pk<|Q9 (news:=QK ⟨nm,⟨xa,xm,h6,a⟩⟩) (L:=[]) kb.c U U U (mh.at oe) (Qb9 gk.al.one gk.mr.one gk.ed.one) oa (ov hz.size) λmj hJ kc O mo=>⟨(hz.any (L:=ob vc)).V O,?_⟩;have mq:=kb.setC (jc (q:=⟨nm,⟨xa,xm,h6,a⟩⟩) (N:=↑hj) (λL hL=>(hA L hL).J hg) oa hy.avlt) kc O mo;refine p (QF U)<|pkk<|Qw ((g3.J hz).O O n3v) U U oe (Qr kc) λhK T hW=>pe ?_;have hge:=Qg hy.c;have n4v:b4∉ob vc:=QR hy.c oa;have hB416:=((hB410.J hz).O O n4v).O T ol;have hs710:xj [b4] w7 hj:=kn.any.V hw;have hs615:xj [I,b4] w6 hJ:=((hC.V (hs710.S oe)).I hz.any).G O (λb E=>.inr (hge b E).1);refine Qq<|QH U U<|Qa<|xe<|⟨(i+1,mj,co++[⟨nm,⟨xa,xm,h6,a⟩⟩],p0,p1),og,Lb,h5,hs615.V (T.S oe),hW,hB416,mq.low T (λb E=>by rw[List.mem_singleton.1 E];omega),by simp only[oN,oP];omega,λk hk=>?_,og,λe=>?_⟩
  .simp only[]at hk ⊢;by_cases hl:k<co.length
   .rw[Ml hl];exact hU k hl
   have ke:k=i:=by simp only[oN,oP]at hk;omega
   subst ke;rw[M8 oa];simp only[gz,OW,List.getElem_cons_zero];exact⟨hH.symm,hG,λe S=>by rw[gs]at S;exact(gg e S).2⟩
  simp only[]at p2 ⊢;rw[p2,gq];constructor
  .rintro(⟨q,H,S⟩|S)
   .exact⟨q,L7 _ H,S⟩
   exact⟨_,MM _ (Lc.2 U),by rw[gs];exact S⟩
  rintro⟨q,H,S⟩;rcases Lh.1 H with H|H
  .exact .inl ⟨q,H,S⟩
  rw[Lc.1 H,gs]at S;exact .inr S
 rintro⟨vc,co,va,al⟩ g7 w7 ⟨hC,gp,gc,hv,gz,hU,k4,gq⟩;simp only[]at gp gc hv gz hU k4 gq;have hz7:=hC.size;have k7:b1∉[I,b4]:=ot
 have hV:=k0.O hC k7;have ms:b1∉[I]:=ol
 have n43:b4∉[I]:=ol
 have p4:=Qgp (l:=l) h.n (j:=90) oa;have q90l:=JG h.b 90;refine Zd (l.ns.getD 90 0) λrn hrn=>?_;rw[hrn]at p4 q90l;refine Zd (rn % 3) λr hr=>?_;refine QX (α:=O9×List IV) [(8,9),(56,87)] (λ_=>[]) (λz w'=>xj [I] w7 w'/\QP ↑w' I 45 [ve,vc,z.1,ZD,ZD]/\zT ↑w7 w' z.1 ZD z.2 []/\z.2.length=r/\∀k (hk:k<z.2.length),ItG 114 k (z.2[k]'hk)/\∀e∈(z.2[k]'hk).p.a.al,e∈al) om ?_ ?_
 .refine Qc<|Qm U hV U p4<|x (JV (a:=(rn:Int)) (b:=3) U U oa oa)<|x (Z8 (k':=.i64) U ⟨oa,oa⟩)<|Qa<|xe<|Q2 (α:=Nat×O9×List IV) [(8,9),(60,87)] (λz=>[(60,sS z.1)])
   (λz w'=>z.1<=r/\xj [I] w7 w'/\QP ↑w' I 45 [ve,vc,z.2.1,ZD,ZD]/\zT ↑w7 w' z.2.1 ZD z.2.2 []/\z.2.2.length=z.1/\∀k (hk:k<z.2.2.length),ItG 114 k (z.2.2[k]'hk)/\∀e∈(z.2.2[k]'hk).p.a.al,e∈al)
   (λz=>r - z.1) (0,ZD,[]) Lb
   ⟨Lp _,xj.Y _ _,gp,zT.nil,U,λk hk=>O3 hk oe⟩ ?_
  rintro⟨i,vr,rq⟩ g8 w8 ⟨hi,hh,gt,hE,ko,h8⟩;simp only[]at hi gt hE ko h8;refine Zi U U (λmt=>?_) (λmt=>?_)
  .refine Qt ?_;have k6:i=r:=by have h62:¬(i:Int)<(rn:Int) % 3:=mt;omega
   exact⟨(vr,rq),La,hh,gt,hE,og,h8⟩
  have h5:i<r:=by have h62:(i:Int)<(rn:Int) % 3:=mt;omega
  have kf:=hV.O hh ms;have hB48:=gc.O hh n43;have qs:=Qgp (l:=l) h.n (j:=0+91+i*1) oa;have qsl:=JG h.b (0+91+i*1);refine Zd (l.ns.getD (0+91+i*1) 0) λm Z=>?_;rw[Z]at qs qsl;have k8:=XH m 5;have g0:=Qc5 m 5;have gg:=Qgf m 5;refine Zd (setK m 5) λsk g2=>?_;rw[g2]at k8 g0 gg;refine Qe<|Qd<|Qn<|Qj<|Qb<|Qj<|QN U<|x (Yf (i:=i) U U oa)<|Xe kf U qs<|Qx<|(UQ m qsl _).S ?_;rintro vs w9 ⟨V,gh⟩;rw[g2]at gh;have pz:=hh.size;have k9:=V.size;have hva8:=Ql (Qf hv.a hh (λb E Z=>by rw[Lc.1 Z]at E;exact QR hv.a oa E)) V;have g5:=Qg gh;have hlv:=Q3 hv.a;have hD:=QoW gh oa (hB48.J V) (λZ=>ov (g5 b4 Z).1) (QC hva8 oa (λb E hbs=>oy (g5 b hbs).1 (hlv b E)));refine x (ZC (l:=[]) (l':=[_]))<|Qx<|hD.S ?_;rintro vd hj ⟨hw,p5⟩;have p6:Yp (sk.filter λx=>decide (x∈al)):=List.Pairwise.filter _ g0;have hFL:=Mt (λx=>decide (x∈al)) sk;have kq:∀e∈sk.filter λx=>decide (x∈al),e∈sk/\e∈al:=λe S=>by
   have:=LY.1 S;exact⟨this.1,O5 this.2⟩
  refine Zd (sk.filter λx=>decide (x∈al)) λF hF=>?_;rw[hF]at p5 p6 hFL kq;refine Qb ?_;have kg:sW w8 hj:=V.G hw (λb E=>.inr (g5 b E).1);have hz10:=kg.size;have hy:=hE.J kg;have g3:=gt.J kg;have ma:=kf.J kg;have mf:QG [] ↑hj vd F:=Qp.ints (L:=[]) p5 oa oe;have n3v:I∉ob vr:=QR hy.c oa;have n1v:b1∉ob vr:=QR hy.c oa;have gi:=Qk5 (ns:=l.ns) (o:=0+93+i*27) (ov h.n);have g4:=QpX (o:=0+93+i*27) h.b;have mg:=λj u=>Qe5 (l:=l) (o:=0+93+i*27) (m:=27) j u;refine Zd (grN l.ns (0+93+i*27)) λgr p7=>?_;have hgs2:∀j u,(bys gr)[j]?=some u->(Xa l)[0+93+i*27+j]?=some u:=by rw[<-p7];exact mg
  rw[p7]at gi g4;have g6:sW hj { hj with drawn:=hj.drawn+1 }:=xj.X _ _
  have ka:(48:Int)+(i:Int)=((48+i:Nat):Int):=oa
  refine Zd (⟨#[114]⟩++⟨#[UInt8.ofNat (48+i)]⟩:ByteArray) λnm hH=>?_;refine ZH (ob vr) (Xf 0 18 [12,14,15,17])<|p (QF U)<|pq (λ_ hc=>Qk (g3.O hc n3v) U U)<|p QA<|p (λ_=>X2 U U ⟨oa,oa⟩)<|p (λ_=>Z8 (k':=.i32) U ⟨oa,oa⟩)<|p (λ_=>qI (n:=48+i) (O2 (Value.int .i32) ka) oa) <|
   p (λ_=>YU (a:=⟨#[114]⟩) (b:=⟨#[UInt8.ofNat (48+i)]⟩) U U (by show 1+1<=1000000000;omega))<|p QA<|p QA<|p (QF U)<|p (λ_=>Yf (i:=i) U U oa)<|pq (λ_ hc=>qK (us:=bys gr) (ma.O hc n1v) U (by rw[XW];exact gi) hgs2)<|?_
  refine pk<|xg<|(jf (mf.J g6) (λe S=>ov (gg e (kq e S).1)) p6 gi g4).S ?_;rintro r11 ho ⟨gj,a,⟨xa,xm,h6,rfl,hA⟩,hG,gs⟩;have hI:=g6.I gj;have p3:=hI.size;have gk:=hA [] oe;refine⟨hI.any,?_⟩;refine p (λ_=>Q8 [(0,[.string nm]),(1,[xa,sS a.st,xm,h6])] ⟨O2 (λb=>(Value.string b).cells) hH,U,U,U,La⟩)<|pk<|Zb [QK ⟨nm,⟨xa,xm,h6,a⟩⟩] λb14 gl hg hb14 mh=>⟨(hI.I hg).any,?_⟩;have hz:=hI.I hg;have kb:=hy.J hz;refine pk<|Q9 (news:=QK ⟨nm,⟨xa,xm,h6,a⟩⟩) (L:=[]) kb.c U U U (mh.at oe) (Qb9 gk.al.one gk.mr.one gk.ed.one) oa (ov hz.size) λmj hJ kc O mo=>⟨(hz.any (L:=ob vr)).V O,?_⟩;have mq:=kb.setC (jc (q:=⟨nm,⟨xa,xm,h6,a⟩⟩) (N:=↑hj) (λL hL=>(hA L hL).J hg) oa hy.avlt) kc O mo;refine p (QF U)<|pkk<|Qw ((g3.J hz).O O n3v) U U oe (Qr kc) λhK T hW=>pe ?_;have hge:=Qg hy.c;have hs715:xj [I] w7 hJ:=((hh.I kg.any).I hz.any).G O (λb E=>.inr (hge b E).1);refine Qq<|QH U U<|Qa<|xe<|⟨(i+1,mj,rq++[⟨nm,⟨xa,xm,h6,a⟩⟩]),og,Lb,h5,hs715.V T,hW,mq.low T (λb E=>by rw[Lc.1 E];omega),by simp only[oN,oP];omega,λk hk=>?_⟩;simp only[]at hk ⊢;by_cases hl:k<rq.length
  .rw[Ml hl];exact h8 k hl
  have ke:k=i:=by simp only[oN,oP]at hk;omega
  subst ke;rw[M8 oa];simp only[ko,OW,List.getElem_cons_zero];exact⟨⟨hH.symm,hG,λe S=>by rw[gs]at S;exact(gg e (kq e S).1).2⟩,λe S=>by rw[gs]at S;exact(kq e S).2⟩
 rintro⟨vr,rq⟩ g8 w8 ⟨hh,gt,hE,ko,h8⟩;simp only[]at gt hE ko h8;have pz:=hh.size;have kf:=hV.O hh ms;have g147:=Qj7 (l:=l) h.n 0;have hX6:Zk [I,b4] ↑w6 l.vx l.xs.length 4 (l.xs.flatMap Xl):=((h.x.up (L':=[I,b4]) (λb E=>.inr (by simp only[oM,oL,or_false]at E;omega))).J ph).J gy;have p8:Zk [I] ↑w8 l.vx l.xs.length 4 (l.xs.flatMap Xl):=((hX6.st hC).up (L':=[I]) (λb E=>.inl (by simp only[oJ]at E;simp[E]))).st hh;refine QX (α:=O9×List XV) [(10,14),(88,151)] (λ_=>[]) (λz w'=>xj [I] w8 w'/\QP ↑w' I 45 [ve,vc,vr,z.1,ZD]/\Jq Q0 2 105 (λq=>[(q.v,q.ls.length,2,q.ls.flatMap QD)]) ↑w8 w' z.1 z.2/\z.2.length<=2/\(z.2.map (·.nm)).Nodup/\∀q∈z.2,(∃k,k<2/\q.nm=⟨#[101]⟩++⟨#[UInt8.ofNat (48+k)]⟩)/\q.ls≠[]/\q.ls.length<=3/\X3 (co.map (·.p.a.st)) none q.ls=0) om ?_ ?_
 .refine Qc<|Qm U kf U g147<|QE p8 U<|Qa<|xe<|Q2 (α:=Nat×O9×List XV) [(10,14),(91,151)] (λz=>[(91,sS z.1)])
   (λz w'=>z.1<=l.xs.length/\z.1<=2/\xj [I] w8 w'/\QP ↑w' I 45 [ve,vc,vr,z.2.1,ZD]/\Jq Q0 2 105 (λq=>[(q.v,q.ls.length,2,q.ls.flatMap QD)]) ↑w8 w' z.2.1 z.2.2/\z.2.2.length<=z.1/\(z.2.2.map (·.nm)).Nodup/\∀q∈z.2.2,(∃k,k<z.1/\q.nm=⟨#[101]⟩++⟨#[UInt8.ofNat (48+k)]⟩)/\q.ls≠[]/\q.ls.length<=3/\X3 (co.map (·.p.a.st)) none q.ls=0)
   (λz=>l.xs.length - z.1) (0,ZD,[]) Lb
   ⟨Lp _,Lp _,xj.Y _ _,gt,Jq.nil,Lu _,List.Pairwise.nil,λq H=>by cases H⟩ ?_
  rintro⟨i,vx,qx⟩ g9 w9 ⟨hi,hi2,V,hX,h7,kr,hY,hM⟩;simp only[]at hi hi2 hX h7 kr hY hM;have p9:(∀q∈qx,(∃k,k<2/\q.nm=⟨#[101]⟩++⟨#[UInt8.ofNat (48+k)]⟩)/\q.ls≠[]/\q.ls.length<=3/\X3 (co.map (·.p.a.st)) none q.ls=0):=λq H=>by
   obtain⟨⟨k,k1,k2⟩,h2⟩:=hM q H;exact⟨⟨k,oa,k2⟩,h2⟩
  refine Zi U U (λqc=>?_) (λqc=>?_)
  .refine Qt ?_;exact⟨(vx,qx),La,V,hX,h7,og,hY,p9⟩
  have h5:i<l.xs.length:=by have h93:(i:Int)<(l.xs.length:Int):=qc;omega
  have hX9:=p8.st V;refine Qe<|Qd<|Qn<|Qj<|xp yu hX9 U U h5 λa94 ql=>?_;refine Zd (l.xs[i]'h5) λxr hxr=>?_;rw[hxr]at ql;refine x (Qu ql U (yu xr))<|QL [.int .u8 0,.int .u8 0,.int .u8 0,.int .u8 0] λqo hj hw hb11 hB11=>x Qh<|Qo<|ZA (us:=Xl xr) hB11 U U (yu xr) U (Qem xr.1) λho gj qr=>xe ?_;have hB:sW w9 ho:=hw.Q gj hb11;refine Qd<|Qj<|x (QW U U)<|xe<|QY U (λq0=>?_) (λq0=>?_)
  .refine Qt ?_;exact⟨(vx,qx),La,V.I hB.any,hX.J hB,h7.J hB,og,hY,p9⟩
  have hi3:i<2:=by have h98:¬(i:Int)=2:=q0;omega
  have ka:(48:Int)+(i:Int)=((48+i:Nat):Int):=oa
  have p3:=hB.size;have hl11:=qr.lt;refine Zd (⟨#[101]⟩++⟨#[UInt8.ofNat (48+i)]⟩:ByteArray) λnm hH=>?_;refine Qe<|Qj<|QH U U<|x (Z8 (k':=.i32) U ⟨oa,oa⟩)<|x (qI (n:=48+i) (O2 (Value.int .i32) ka) oa)<|x (YU (a:=⟨#[101]⟩) (b:=⟨#[UInt8.ofNat (48+i)]⟩) U U (by show 1+1<=1000000000;omega))<|x (Qv Lb) <|
   QL [.string .empty,ZD] λb12 gl hg q1 gx=>Qo<|ZA (us:=[.string nm,ZD]) gx U (show Go.Lg.ev _ _=_ from O2 (λs=>Value.agg #[.string s,ZD]) hH) U U oB λhN hO hB1213=>xe ?_
  have kt:sW ho hN:=hg.Q hO q1;have mu:=hB.I kt;have hz1113:=kt.size;have k9:=V.size;have hltC:=Q3 hv.c;have nc3:I∉ob vc:=QR hv.c oa;have q2:∀b∈ob vc,b∉[I]:=λb E Z=>by rw[Lc.1 Z]at E;exact nc3 E
  have hC13:=Ql (Qf (Qf hv.c hh q2) V q2) mu;have mv:=hX.J mu;have hB1113:=qr.J kt;have hl12:=gx.lt;have q3:I∉[b12]:=ol
  have n1112:qo∉[b12]:=ol
  have q4:=QC (L:=[b12]) hC13 oa (λb E Z=>by rw[Lc.1 Z]at E;have:=hltC b12 E;omega);refine QX (α:=O9×xF) [(13,14),(104,140)] (λ_=>[]) (λz w'=>xj [b12] hN w'/\QP ↑w' b12 105 [.string nm,z.1]/\w'.ownsRow ↑hN 107 2 z.1 z.2.length (z.2.flatMap QD)/\z.2.length<=co.length/\z.2.Pairwise (λp q=>p.1<q.1)/\∀p∈z.2,0<=p.1/\p.1<(co.length:Int)/\0<=p.2/\p.2<xo (co.map (·.p.a.st)) p.1.toNat) om ?_ ?_
  .refine Qc<|Qm U mv U U<|QE q4 U<|Qa<|xe<|Q2 (α:=Nat×O9×xF) [(13,14),(107,140)] (λz=>[(107,sS z.1)])
    (λz w'=>z.1<=co.length/\xj [b12] hN w'/\QP ↑w' b12 105 [.string nm,z.2.1]/\w'.ownsRow ↑hN 107 2 z.2.1 z.2.2.length (z.2.2.flatMap QD)/\z.2.2.length<=z.1/\z.2.2.Pairwise (λp q=>p.1<q.1)/\∀p∈z.2.2,0<=p.1/\p.1<(z.1:Int)/\0<=p.2/\p.2<xo (co.map (·.p.a.st)) p.1.toNat)
    (λz=>co.length - z.1) (0,ZD,[]) Lb
    ⟨Lp _,xj.Y _ _,hB1213,QI _ _ _ _,Lu _,List.Pairwise.nil,λp J=>by cases J⟩ ?_
   rintro⟨k,vl,ls⟩ g14 hP ⟨hk,Y,hQ,ha,mw,gm,hR⟩;simp only[]at hk hQ ha mw gm hR;refine Zi U U (λmy=>?_) (λmy=>?_)
   .refine Qt ?_;have ke:k=co.length:=by have h109:¬(k:Int)<(co.length:Int):=my;omega
    rw[ke]at hR;exact⟨(vl,ls),La,Y,hQ,ha,og,gm,hR⟩
   have hl:k<co.length:=by have h109:(k:Int)<(co.length:Int):=my;omega
   have hAC14:=q4.st Y;have hZ:=mv.O Y q3;have za:=hB1113.O Y n1112;refine Qe<|Qd<|Qn<|Qj<|Qb<|Qc<|Qm U hZ U U<|Qa<|xp Yj hAC14 U U hl λa113 zb=>?_;refine Zd (co[k]'hl) λq H=>?_;rw[H]at zb;refine x (Zp U)<|x (Zp U)<|x (Qy ((zb.from 1).fld 1 (sS q.p.a.st) U) U)<|Qb ?_;have mz:=(hU k hl).g;rw[H]at mz;have hqp:=mz.p;have hqs:=mz.s;have m2:=zf (ns:=xr.1) (j:=0+k*1) (by rw[xr.2.1];omega);have qx0l:=JG xr.2.2 (0+k*1);refine Zd (xr.1.getD (0+k*1) 0) λxk hxk=>?_;rw[hxk]at m2 qx0l;have hmod:0<=(xk:Int) % (q.p.a.st+2):=Int.emod_nonneg _ oa;refine Qj<|x (Yf (i:=k) U U oa)<|Xe za U m2<|x (Z8 (k':=.i64) U ⟨oa,oa⟩)<|Qa<|QH U U<|x (JV (a:=(xk:Int)) (b:=q.p.a.st+2) U U oa oa)<|Qa<|Ye U U<|xe ?_;have hgeL:=Qg ha;have zv:=Y.size;have z1:=hO.size;have z2:b12∉ob vl:=QR ha oa;have hn11v:qo∉ob vl:=QR ha oa;have hcget:xo (co.map (·.p.a.st)) k=q.p.a.st:=by
    unfold xo;simp[oQ,List.getElem?_map,Of hl,H]
   refine ZI U (λh125=>?_) (λh125=>?_)
   .refine Qe<|Qq<|QH U U<|Qa<|xe ?_;exact⟨(k+1,vl,ls),og,Lb,hl,Y,hQ,ha,og,gm,λp J=>by have:=hR p J;simp only[];omega⟩
   have hd14:sW hP { hP with drawn:=hP.drawn+1 }:=xj.X _ _
   refine Zd ((xk:Int) % (q.p.a.st+2)) λst hst=>?_;refine ZH (ob vl) (Xf 0 15 [11,12,14])<|p (QF U)<|pq (λ_ hc=>Qk (hQ.O hc z2) U U)<|p QA<|p QA<|p (λ_=>Yf (i:=k) U U oa)<|pq (λ_ hc=>Qk (za.O hc hn11v) U m2)<|p (λ_=>Z8 (k':=.i64) U ⟨oa,oa⟩)<|p QA<|p (λ_=>X2 U U ⟨oa,oa⟩) <|
    p (λ_=>JV (a:=(xk:Int)) (b:=q.p.a.st+2) U U oa oa)<|p (λ_=>Qv ⟨U,U,La⟩)<|pk<|Zb [QD ((k:Int),(xk:Int) % (q.p.a.st+2))] λb137 hJ O hb137 hB137=>?_
   have gu:=hd14.I O;have hz1415:=gu.size;refine⟨gu.any,?_⟩;refine pk<|Q9 (news:=QD ((k:Int),(xk:Int) % (q.p.a.st+2))) (L:=[]) (Ql ha gu) U U U (hB137.at oe) (Qgt _) oa oa λv16 hK gv T z3=>⟨(gu.any (L:=ob vl)).V T,?_⟩;have hge16:∀b∈ob v16,↑hN<=b:=λb E=>(Qg gv b E).1;refine p (QF U)<|pkk<|Qw ((hQ.J gu).O T z2) U U oe (Qr gv) λm3 h0 hV=>pe ?_;refine Qq<|QH U U<|Qa<|xe<|⟨(k+1,v16,ls++[((k:Int),(xk:Int) % (q.p.a.st+2))]),og,Lb,hl,((Y.I gu.any).G T (λb E=>.inr (hgeL b E).1)).V h0,hV,?_,by simp only[oN,oP];omega,?_,λp J=>?_⟩
   .have h9:=Qf gv h0 (λb E=>by have:=hge16 b E;simp only[oJ];omega);simp only[oN,List.flatMap_append];simpa using h9
   .simp only[];rw[Mj];exact⟨gm,Ns _ _,λp J p' m4=>by rw[Lc.1 m4];have:=hR p J;simp only[];omega⟩
   simp only[]at J ⊢;rcases Lh.1 J with J|J
   .have:=hR p J;omega
   rw[Lc.1 J];simp only[Ov];rw[hcget];omega
  rintro⟨vl,ls⟩ g14 hP ⟨Y,hQ,ha,mw,gm,hR⟩;simp only[]at hQ ha mw gm hR;have zv:=Y.size;have z1:=hO.size;have ga:sW w9 hP:=mu.Q Y oa;have hZ:=mv.O Y q3;have ku:=h7.J ga;refine Qc<|Qm U hQ U U<|QE (QC (L:=[]) ha oa oe) rfl<|x (ZX rfl rfl)<|xe<|ZI U (λz5=>?_) (λz5=>?_)
  .refine Qe<|Qq<|QH U U<|Qa<|xe<|⟨(i+1,vx,qx),og,Lb,h5,og,V.I ga.any,hZ,ku,og,hY,λq H=>?_⟩;obtain⟨⟨k,k1,k2⟩,h2⟩:=hM q H;exact⟨⟨k,og,k2⟩,h2⟩
  have h145:(0:Int)<(ls.length:Int):=z5;have hxx:=Qr ha;refine Qq<|Qm U hZ U U<|QV hQ U U<|Qo<|Zb [Q0 ⟨nm,vl,ls⟩] λb148 hJ O hb148 hB148=>?_;refine Qo<|Q9 (news:=Q0 ⟨nm,vl,ls⟩) (L:=[]) (Ql ku.own O) U U U (hB148.at oe) (Qbn hxx) oa (oy ga.size O.size) λv16 hK gv T z3=>?_;have hs1115:sW ho hJ:=(kt.Q Y q1).I O;have hM16:=(h7.J hB).app hs1115 (q:=⟨nm,vl,ls⟩) (λt ht=>by rw[Lc.1 ht];exact⟨↑hN,107,Ql ha O,by show ls.length<=_;omega,hz1113⟩) oa gv T z3;have hgeX:=Qg ku.own;have n3x:I∉ob vx:=QR ku.own oa;refine QN U<|Qo<|Qw ((hZ.J O).O T n3x) U U oe (Qr gv) λm3 h0 hB317=>xe ?_;refine Qq<|QH U U<|Qa<|xe ?_;have kv:xj [I] w8 hK:=((V.I ga.any).I O.any).G T (λb E=>.inr (hgeX b E).1);refine⟨(i+1,v16,qx++[⟨nm,vl,ls⟩]),og,Lb,h5,og,kv.V h0,hB317,hM16.low h0 (λb E=>by rw[Lc.1 E];omega),by simp only[oN,oP];omega,?_,λq H=>?_⟩
  .simp only[Oi,oX,OD];rw[Mi];refine⟨hY,oe,λs hs s' hs' e=>?_⟩;obtain⟨q,H,rfl⟩:=Ly.1 hs;obtain⟨⟨k,k1,k2⟩,_⟩:=hM q H;have hk0:k=0:=oa
   have hi1:i=1:=oa
   rw[Lc.1 hs',k2,<-hH,hk0,hi1]at e;exact O3 e oh
  rcases Lh.1 H with H|H
  .obtain⟨⟨k,k1,k2⟩,h2⟩:=hM q H;exact⟨⟨k,og,k2⟩,h2⟩
  rw[Lc.1 H];refine⟨⟨i,Nat.lt_succ_self _,hH.symm⟩,λe=>by rw[show ls=[] from e]at h145;exact O3 h145 oh,by show ls.length<=3;omega,Qhq ls none (λb E=>by cases E) gm (λp J=>?_)⟩;rw[Lj];exact hR p J
 rintro⟨vx,qx⟩ g9 w9 ⟨V,hX,h7,kr,hY,hM⟩;simp only[]at hX h7 kr hY hM;have k9:=V.size;have hB19:=kf.O V ms;have g151:=Qj7 (l:=l) h.n 4;have hbd:=h.bd;have hbdb:=Qf6 l.bd (b:=8) oh;refine Zd (l.bd.tmod 8) λbd hbde=>?_;rw[hbde]at hbdb;refine Qc<|Qm U hB19 U g151<|x (Z8 (k':=.i64) U ⟨oa,oa⟩)<|x (QjX U U oh)<|x (Qv ⟨U,U,La⟩)<|QL [.string .empty,ZD,sS 0] λgb hj hw m5 m6 =>
  Qo<|ZA (us:=[.string ⟨#[107]⟩,ZD,sS bd]) m6 U (show Go.Lg.ev _ _=_ from O2 (λn=>Value.agg #[.string ⟨#[107]⟩,ZD,sS n]) hbde) U U oC λho gj hB1511=>xe ?_
 have hB:sW w9 ho:=hw.Q gj m5;have hB111:=hB19.J hB;have hB311:=hX.J hB;have n115:b1∉[gb]:=ol
 have n315:I∉[gb]:=ol
 have hl15:=hB1511.lt;refine QX (α:=O9×xF) [(16,16),(157,179)] (λ_=>[]) (λz w'=>xj [gb] ho w'/\QP ↑w' gb 110 [.string ⟨#[107]⟩,z.1,sS bd]/\w'.ownsRow ↑ho 112 2 z.1 z.2.length (z.2.flatMap QD)/\z.2.length<=n/\z.2.Pairwise (λp q=>p.1<q.1)/\∀p∈z.2,0<=p.1/\p.1<(n:Int)/\-4<p.2/\p.2<4) om ?_ ?_
 .refine Qj<|Qa<|xe<|Q2 (α:=Nat×O9×xF) [(16,16),(158,179)] (λz=>[(158,sS z.1)])
   (λz w'=>z.1<=n/\xj [gb] ho w'/\QP ↑w' gb 110 [.string ⟨#[107]⟩,z.2.1,sS bd]/\w'.ownsRow ↑ho 112 2 z.2.1 z.2.2.length (z.2.2.flatMap QD)/\z.2.2.length<=z.1/\z.2.2.Pairwise (λp q=>p.1<q.1)/\∀p∈z.2.2,0<=p.1/\p.1<(z.1:Int)/\-4<p.2/\p.2<4)
   (λz=>n - z.1) (0,ZD,[]) Lb
   ⟨Lp _,xj.Y _ _,hB1511,QI _ _ _ _,Lu _,List.Pairwise.nil,λp J=>by cases J⟩ ?_
  rintro⟨i,vt,ts⟩ g12 gl ⟨hi,hg,hS,h4,kh,gn,hT⟩;simp only[]at hi hS h4 kh gn hT;refine Zi U U (λm7=>?_) (λm7=>?_)
  .refine Qt ?_;have k6:i=n:=by have h160:¬(i:Int)<1+(cn:Int) % 3:=m7;omega
   rw[k6]at kh hT;exact⟨(vt,ts),La,hg,hS,h4,kh,gn,hT⟩
  have h5:i<n:=by have h160:(i:Int)<1+(cn:Int) % 3:=m7;omega
  have hB112:=hB111.O hg n115;have qf:=Qsy (l:=l) h.n (i:=i) oa;have qfb:=Qsx h i oa;refine Zd (flk l i) λfk hfk=>?_;rw[hfk]at qf qfb;refine Qe<|Qd<|Qn<|Qj<|Qb<|Qj<|QN U<|x (Yf (i:=i) U U oa)<|Xe hB112 U qf<|Zu U U<|xe<|ZI U (λh165=>?_) (λh165=>?_)
  .refine Qe<|Qq<|QH U U<|Qa<|xe ?_;exact⟨(i+1,vt,ts),og,Lb,h5,hg,hS,h4,og,gn,λp J=>by have:=hT p J;simp only[];omega⟩
  have hmd:=Qf6 fk (b:=4) oh;have hd12:sW gl { gl with drawn:=gl.drawn+1 }:=xj.X _ _
  have hz12:=hg.size;have hgeT:=Qg h4;have hn15v:gb∉ob vt:=QR h4 oa;have hn1v:b1∉ob vt:=QR h4 oa;refine ZH (ob vt) (Xf 0 14 [10,11,13])<|p (QF U)<|pq (λ_ hc=>Qk (hS.O hc hn15v) U U)<|p QA<|p QA<|p (QF U)<|p (λ_=>Yf (i:=i) U U oa)<|pq (λ_ hc=>Qk (hB112.O hc hn1v) U qf)<|p (λ_=>Z8 (k':=.i64) U ⟨oa,oa⟩) <|
   p (λ_=>QjX U U oh)<|p (λ_=>Qv ⟨U,U,La⟩)<|pk<|Zb [QD ((i:Int),fk.tmod 4)] λb176 hN hO hb176 hB176=>?_
  have gw:=hd12.I hO;have hz1213:=gw.size;refine⟨gw.any,?_⟩;refine pk<|Q9 (news:=QD ((i:Int),fk.tmod 4)) (L:=[]) (Ql h4 gw) U U U (hB176.at oe) (Qgt _) oa oa λv14 hP ha Y hn14=>⟨(gw.any (L:=ob vt)).V Y,?_⟩;have hge14:∀b∈ob v14,↑ho<=b:=λb E=>(Qg ha b E).1;refine p (QF U)<|pkk<|Qw ((hS.J gw).O Y hn15v) U U oe (Qr ha) λhJ O m6=>pe ?_;refine Qq<|QH U U<|Qa<|xe<|⟨(i+1,v14,ts++[((i:Int),fk.tmod 4)]),og,Lb,h5,((hg.I gw.any).G Y (λb E=>.inr (hgeT b E).1)).V O,m6,?_,by simp only[oN,oP];omega,?_,λp J=>?_⟩
  .have h9:=Qf ha O (λb E=>by have:=hge14 b E;simp only[oJ];omega);simp only[oN,List.flatMap_append];simpa using h9
  .simp only[];rw[Mj];exact⟨gn,Ns _ _,λp J p' m4=>by rw[Lc.1 m4];have:=hT p J;simp only[];omega⟩
  simp only[]at J ⊢;rcases Lh.1 J with J|J
  .have:=hT p J;omega
  rw[Lc.1 J];simp only[];omega
 rintro⟨vt,ts⟩ g12 gl ⟨hg,hS,h4,kh,gn,hT⟩;simp only[]at hS h4 kh gn hT;have hz12:=hg.size;have hgT:=Qg h4;refine Qc<|Qm U hS U U<|Qx<|(QoV h4 oa).S ?_;rintro vu hN ⟨hO,kw⟩;have hup:(nzT ts).Pairwise (λp q=>p.1<q.1):=List.Pairwise.filter _ gn;have hul:=Mt (λp:Int×Int=>!decide (p.2=0)) ts;have hub:∀p∈nzT ts,0<=p.1/\p.1<(n:Int)/\p.2≠0/\-65536<=p.2/\p.2<=65536:=λp J=>by
  have h1:=LY.1 J;have h2:=hT p h1.1;have h3:¬p.2=0:=by simpa using h1.2
  omega
 refine Zd (nzT ts) λus hus=>?_;have hul':us.length<=3:=by rw[<-hus];exact LJ hul oa
 rw[hus]at kw hup hub;have n15t:gb∉ob vt:=QR h4 oa;refine QN rfl<|Qo<|Qw (hS.O hO n15t) U U oe (Qr kw) λhP Y hB1514=>xe ?_;have ga:sW w9 hP:=(((hB.Q hg m5).G hO (λb E=>.inr (ov (hgT b E).1)))).Q Y m5;have z1:=hO.size;have zv:=Y.size;have hgU:=Qg kw;have ha:=Qf kw Y (λb E=>by have:=(hgU b E).1;simp only[oJ];omega);have hZ:=hX.J ga;refine QX (α:=O9×List KV) [(184,190)] (λ_=>[]) (λz w'=>xj [I] hP w'/\QP ↑w' I 45 [ve,vc,vr,vx,z.1]/\z.2.length<=1/\(∀q∈z.2,q.nm=⟨#[107]⟩/\Xd (co.map (·.p.a.st)) q.k=0)/\∀L:LN,(∀b∈L,b<↑w6)->jK L ↑w' z.1 z.2) om ?_ ?_
 .refine Qc<|Qm U hB1514 U U<|QE (QC (L:=[]) ha oa oe) rfl<|x (ZX rfl rfl)<|xe<|ZI U (λh187=>?_) (λh187=>?_)
  .refine Qe ?_;exact⟨(ZD,[]),La,xj.Y _ _,hZ,oh,λq H=>(by cases H),λL _=>⟨Zk.nil _ _ 3,λq H=>(by cases H),λq H=>(by cases H)⟩⟩
  refine Qq<|QV hB1514 U U<|Qo<|Zb [Q5 ⟨⟨#[107]⟩,vu,us,bd⟩] λb189 hJ O hb189 hB189=>?_;refine QN U<|Qo<|Qw (hZ.J O) U U oe rfl λhK T hW=>xe ?_;refine⟨(_,[⟨⟨#[107]⟩,vu,us,bd⟩]),La,O.any.V T,hW,Lu _,λq H=>?_,λL hL=>?_⟩
  .rw[Lc.1 H];refine⟨rfl,?_⟩;have hgr0:grt bd=false:=by unfold grt;rw[O6 oa,O6 oa];rfl
   have hct:=Qhm (sz:=co.map (·.p.a.st)) us none (λb E=>by cases E) hup (λp J=>by rw[Lj,gz];exact hub p J);show Xd _ ⟨_,us,bd⟩=0;unfold Xd;rw[O0 og,O0 (by rw[hct];decide),O0 (by simp only[];rw[hgr0];decide)]
  have kx:∀b∈I::L,b<ho.heap.size:=λb E=>by
   rcases Lk.1 E with rfl|E
   .omega
   have:=hL b E;omega
  have h1:jK (I::L) ↑hJ (sL b189 1 1) [⟨⟨#[107]⟩,vu,us,bd⟩]:=by
   refine⟨hB189.arr (λE=>ov (kx _ E)) U oh (Lu _),λq H=>?_,λq H=>?_⟩
   .rw[Lc.1 H];exact(QC (L:=I::L) ha oa (λb E hbL=>oy (hgU b E).1 (kx b hbL))).J O
   rw[Lc.1 H];exact Xx oh
  exact(h1.st (T.S oe)).up (λb E=>.inl (Ll _ E))
 rintro⟨vk,ks⟩ g16 hK ⟨T,hW,hl,hgk,m8⟩;simp only[]at hW hl hgk m8;have hge3:=Qg go;have hlt3:=Q3 go;have kv:xj [I] w8 hK:=(V.I ga.any).V T;have hs716:xj [I] w7 hK:=hh.V kv;have m9:xj [I,b4] w6 hK:=hC.V (hs716.S oe);have pa:∀b∈[I],b<w6.heap.size:=λb E=>by rw[Lc.1 E];omega
 have hE16:=Qf (Ql go pw) m9 (λb E Z=>by have:=hlt3 b E;simp only[oM,oL,or_false]at Z;omega);have hC16:=hv.low hs716 pa;have hR16:=hE.low kv (λb E=>ov (pa b E));have hX16:=(h7.J ga).low T (λb E=>ov (pa b E));have n23:b2∉[I]:=ol
 have n234:b2∉[I,b4]:=ot
 have hB216:=(pg.J gy).O m9 n234;refine Qc<|QV hW U U<|QJ [ve,vc,vr,vx,vk] hB216 ⟨Qr hE16,Qr hC16.c,Qr hR16.c,Qr hX16.own,(m8 [] oe).arr.one,La⟩ λm3 h0 hB217=>xe ?_;have pc:∀b∈[b2],b<w6.heap.size:=λb E=>by rw[Lc.1 E];omega
 have lo2':∀b∈[b2],b<w2.heap.size:=λb E=>by rw[Lc.1 E];omega
 have hE17:=Qf hE16 h0 (λb E Z=>oy (hge3 b E).1 (lo2' b Z));have hC17:=hC16.low h0 pc;have hR17:=hR16.low h0 (λb E=>ov (pc b E));have pd:=hX16.low h0 (λb E=>ov (pc b E));have hs017:sW w m3:=((ph.I gy).G m9 (λb E=>.inr (by simp only[oM,oL,or_false]at E;omega))).Q h0 oa;have hcon:∀q∈co,JE q.nm:=λq H=>by
  obtain⟨k,hk,rfl⟩:=LM H;rw[(hU k hk).nm];exact qP 99 k
 have hrqn:∀q∈rq,JE q.nm:=λq H=>by
  obtain⟨k,hk,rfl⟩:=LM H;rw[(h8 k hk).1.nm];exact qP 114 k
 have hxnm:∀q∈qx,JE q.nm:=λq H=>by
  obtain⟨⟨k,_,k2⟩,_⟩:=hM q H;rw[k2];exact qP 101 k
 have hevn:∀e∈ev,JE e.nm:=λe S=>Qlt _ e (by rw[kj];exact S);have hevl:ev.length=5:=by rw[<-kj];exact V3 _ _
 refine Qi ⟨[.agg #[ve,vc,vr,vx,vk]],⟨YO hB217,La⟩,hs017,⟨ev,co.map IV.it,rq.map IV.it,qx.map XV.x,ks.map KV.k⟩,⟨⟨ve,vc,vr,vx,vk,ev,co,rq,qx,ks⟩,U,U,λL hL=>?_⟩,?_⟩
 .have kx:∀b∈L,b<w2.heap.size:=λb E=>ov (hL b E)
  have hLn:b2∉L:=λZ=>ov (hL b2 Z)
  have ki:∀b∈b2::L,b<w6.heap.size:=λb E=>by
   rcases Lk.1 E with rfl|E
   .omega
   have:=hL b E;omega
  refine⟨⟨QC hE17 (by show ev.length<=_;omega) (λb E hbL=>oy (hge3 b E).1 (kx b hbL)),hevn⟩,hC17.itms oa hcon (λb E=>ov (ki b (Ll _ E))),hR17.itms oa hrqn (λb E=>ov (ki b (Ll _ E))),⟨QC pd.own (by show qx.length<=_;omega) (λb E hbL=>oy (Qg pd.own b E).1 (ki b (Ll _ hbL))),λq H=>?_,hxnm⟩,?_⟩
  .exact pd.each q H _ (Lc.2 U) L (λb E=>.inl (ov (ki b (Ll _ E))))
  exact((m8 (b2::L) ki).st (h0.S oe)).up (λb E=>.inl (Ll _ E))
 rw[<-kj];exact Qrx oa oa hU gq oa h8 kr hY hM hl hgk
structure MeI (base:Nat)(w:O8)(vc va:O9)(co:List IV)(al:List Kf):Prop where
 c:w.ownsRow base 98 5 vc co.length (co.flatMap QK)
 a:w.ownsRow base 169 5 va al.length (al.flatMap Zs)
 dj:Dj vc va
 each:∀q∈co,∀t∈Qik q,Yl base (ob vc++ob va) ↑w t.1 t.2.1 t.2.2.1 t.2.2.2
section
variable {base:Nat}{vc vc' va':O9}{co:List IV}{al:List Kf}
theorem MeI.nil:MeI base w (nS) (nS) [] []:=⟨QI _ _ _ _,QI _ _ _ _,Dj.nil _,λq E=>by cases E⟩
theorem MeI.J (h:MeI base w vc va co al)(E:sW w w'):MeI base w' vc va co al:=⟨Ql h.c E,Ql h.a E,h.dj,λq H t I=>(h.each q H t I).J E⟩
theorem MeI.low {X:LN}(h:MeI base w vc va co al)(E:xj X w w')(H:∀b∈X,b<base):MeI base w' vc va co al :=
 ⟨Qf h.c E (λb I J=>oy (Qg h.c b I).1 (H b J)),Qf h.a E (λb I J=>oy (Qg h.a b I).1 (H b J)),h.dj,λq O t S=>(h.each q O t S).low E H⟩
theorem MeI.avlt (h:MeI base w vc va co al):∀b∈ob vc++ob va,b<w.heap.size:=λb E=>(Lh.1 E).elim (Q3 h.c b) (Q3 h.a b)
theorem MeI.setC {q:IV}(h:MeI base w vc va co al)(Y:∀t∈Qik q,Yl base (ob vc++ob va) ↑w t.1 t.2.1 t.2.2.1 t.2.2.2)(Z:w'.ownsRow base 98 5 vc' (co.length+1) (co.flatMap QK++QK q))
  (H:xj (ob vc) w w') (I:∀b∈ob vc',b∈ob vc\/↑w<=b):MeI base w' vc' va (co++[q]) al:=by
 have J:xj (ob vc++ob va) w w':=H.S (λb E=>Lh.2 (.inl E));have O:∀b∈ob vc'++ob va,b∈ob vc++ob va\/↑w<=b:=λb E=>by
  rcases Lh.1 E with E|E
  .exact(I b E).imp (λh=>Lh.2 (.inl h)) id
  exact .inl (Lh.2 (.inr E))
 refine⟨?_,Qf h.a H (λb E ha=>h.dj b ha E),λb E S=>?_,λd hd t T=>?_⟩
 .rw[Ln,LC];simpa using Z
 .rcases I b E with V|V
  .exact h.dj b V S
  have:=Q3 h.a b S;omega
 rcases Lh.1 hd with hd|hd
 .exact(h.each d hd t T).app J O
 simp only[oJ]at hd;subst hd;exact(Y t T).app J O
theorem MeI.setA {H:List Kf}(h:MeI base w vc va co al)(T:w'.ownsRow base 169 5 va' H.length (H.flatMap Zs))(J:xj (ob va) w w')(O:∀b∈ob va',b∈ob va\/↑w<=b):MeI base w' vc va' co H:=by
 have V:xj (ob vc++ob va) w w':=J.S (λb E=>Lh.2 (.inr E));have Y:∀b∈ob vc++ob va',b∈ob vc++ob va\/↑w<=b:=λb E=>by
  rcases Lh.1 E with E|E
  .exact .inl (Lh.2 (.inl E))
  exact(O b E).imp (λh=>Lh.2 (.inr h)) id
 refine⟨Qf h.c J (λb E I=>h.dj b E I),T,λb E I=>?_,λd hd t Z=>(h.each d hd t Z).app V Y⟩;rcases O b I with S|S
 .exact h.dj b E S
 have:=Q3 h.c b E;omega
theorem MeI.itms (h:MeI base w vc va co al)(J:co.length<=1099511627776)(O:∀q∈co,JE q.nm)(H:∀b∈L,b<base):XX L ↑w vc co :=
 ⟨QC h.c J (λb E hbL=>oy (Qg h.c b E).1 (H b hbL)),λq I=>⟨h.each q I (q.p.va,q.p.a.al.length,1,q.p.a.al.map (.int .i64)) oe L (λb E=>.inl (H b E)),h.each q I (q.p.vm,q.p.a.mr.length,1,q.p.a.mr.map (.int .i64)) oe L (λb E=>.inl (H b E)),h.each q I (q.p.ve,q.p.a.ed.length,3,q.p.a.ed.flatMap Qz) oe L (λb E=>.inl (H b E))⟩,O⟩
end
def mzA (s f:Int):QU:=⟨[s,f],2,[0],[(0,s,1),(1,f,0)]⟩
theorem QfY (nm:ByteArray)(s f:Int)(w:O8):QZ sV 189 [.string nm,sS s,sS f] w λr w'=>sW w w'/\∃xa xm xe,r=.agg #[.string nm,xa,sS 2,xm,xe]/\Zj [xa,xm,xe]/\∀L:LN,(∀b∈L,b<↑w)->ZE L ↑w' xa xm xe (mzA s f):=by
 refine Zt func189 ?_;refine Qc<|QL [.string .empty,nS,sS 0,nS,nS] λb6 w1 hg hh V=>xe ?_;have hi:=V.lt;refine Qj<|Qa<|Qo<|Zb [[sS s],[sS f]] λE w2 Y hw hj=>Qo<|Zb [[sS 0]] λH w3 O hy hl =>
  Qa<|x (Qv ⟨U,U,U,La⟩)<|Qa<|x (Qv ⟨U,U,U,La⟩)<|Qo<|Zb [Qz (0,s,1),Qz (1,f,0)] λI Z S hz hm=>?_
 have ha:=(Y.I O).I S;have hn:=hg.I ha;have h0:=Y.size;have h2:=O.size;have hF:Xi ↑w1 ↑Z (.agg #[sL E 2 2,sS 2,sL H 1 1,sL I 2 2]) (mzA s f):=
  Qbm (a:=mzA s f) ((hj.J O).J S) (hl.J S) hm oa oa oa U U U oh oh oh
 refine x (Qv ⟨U,U,U,U,La⟩)<|QL XD λb7 w5 ho hp hq=>QJ [sL E 2 2,sS 2,sL H 1 1,sL I 2 2] hq oD λw6 hr hs=>xe ?_;have T:sW Z w6:=ho.Q hr hp;refine Qj<|QV hs U U<|x (Q8 [(0,[.string nm]),(1,[sL E 2 2,sS 2,sL H 1 1,sL I 2 2])] ⟨U,U,U,U,La⟩) <|
  QJ [.string nm,sL E 2 2,sS 2,sL H 1 1,sL I 2 2] ((V.J ha).J T) ⟨U,U,U,U,U,La⟩ λw7 hc ht=>xe ?_
 obtain⟨xa,xm,h3,hv,hA⟩:=hF;have he:=O2 (λv=>match v with|Value.agg cs=>cs.toList|_=>[]) hv
 simp only[List.cons.injEq,and_true]at he;obtain⟨rfl,_,rfl,rfl⟩:=he;refine Qi ⟨[.agg #[.string nm,sL E 2 2,sS 2,sL H 1 1,sL I 2 2]],⟨YO ht,La⟩,(hn.I T).Q hc hh,_,_,_,U,oC,λL hL=>?_⟩;have h1:=(hA (b6::L) (λb J=>by
  rcases Lk.1 J with rfl|J
  .exact hi
  have:=hL b J;omega)).J T
 exact(h1.st (hc.S oe)).up (λb J=>.inl (Ll _ J))
def nmZ (p:Array UInt8)(i:Nat):ByteArray:=⟨p⟩++⟨#[UInt8.ofNat (97+i)]⟩
abbrev Qj8:Array UInt8:=#[115,116,97,114,116]
abbrev Qgr:Array UInt8:=#[102,105,110,105,115,104]
abbrev JY:Array UInt8:=#[109,97,99,104,105,110,101]
def Qdp (i:Nat):List Kf:=[⟨nmZ Qj8 i,true,true,false,0⟩,⟨nmZ Qgr i,false,true,false,0⟩]
def mzE (c:Nat):List Kf:=(oT c).flatMap Qdp
def QsC (i:Nat):Y0:=⟨nmZ JY i,mzA (2*(i:Int)) (2*(i:Int)+1)⟩
def mzC (c:Nat):Zy:=⟨mzE c,(oT c).map QsC,[],[],[]⟩
theorem qN (p:Array UInt8)(i:Nat)(h:p.size<=10):JE (nmZ p i):=by
 show(ByteArray.mk _++ByteArray.mk _).size<=_;rw[ByteArray.size_append];show p.size+1<=_;omega
theorem QqQ (c:Nat):∀e∈mzE c,JE e.nm:=λe E=>by
 unfold mzE at E;obtain⟨i,_,hi⟩:=Mr.1 E;simp only[Qdp,oM,oL,or_false]at hi;rcases hi with rfl|rfl
 .exact qN _ _ oh
 exact qN _ _ oh
theorem Qdq (c:Nat):mzE (c+1)=mzE c++Qdp c:=by unfold mzE;rw[Nl,LC];simp
theorem QgE:∀c,(mzE c).length=2*c
 | 0=>rfl
 | c+1=>by rw[Qdq,Ln,QgE c];show 2*c+2=_;omega
theorem Qh8 (i:Nat):∀u∈(Qdp i).flatMap Zs,u.oneCell'=true:=λu hu=>by
 obtain⟨e,_,E⟩:=Mr.1 hu;exact QdM e u E
theorem Kz (c:Nat)(hW:c<=4)(w:O8):QZ sV 118 [sS c] w λr w'=>sW w w'/\Qf3 ↑w ↑w' r (mzC c):=by
 refine Zt func118 ?_;refine Qc<|QL Z3 λb2 w1 hF hX hw=>xe ?_;refine Qc<|QL Z3 λO S hy hY hz=>xe ?_;have hZ:=hw.lt;have hl:=hz.lt;refine Qd<|Qj<|Qa<|xe<|Q2 (α:=Nat×O9×List Kf×O9×List IV) [(4,4),(6,42)] (λz=>[(6,sS z.1)])
  (λz w'=>z.1<=c/\xj [O] S w'/\QP ↑w' O 45 [z.2.1,z.2.2.2.1,ZD,ZD,ZD]/\MeI ↑S w' z.2.2.2.1 z.2.1 z.2.2.2.2 z.2.2.1/\z.2.2.1=mzE z.1/\z.2.2.2.2.map IV.it=(oT z.1).map QsC/\∀q∈z.2.2.2.2,JE q.nm)
  (λz=>c - z.1) (0,ZD,[],ZD,[]) Lb ⟨Lp _,xj.Y _ _,hz,MeI.nil,U,U,λq E=>by cases E⟩ ?_
 rintro⟨i,ve,ev,vc,co⟩ g3 w3 ⟨hi,ha,hg,I,T,V,hm⟩;simp only[]at hi hg I T V hm;have ga:=ha.size;have gb:ev.length=2*i:=by rw[T];exact QgE i
 have gc:co.length=i:=by have:=O2 oR V;simpa using this
 refine Zi rfl U (λh7=>?_) (λh7=>?_)
 .refine Qt ?_;have hG:i=c:=by have h8:¬(i:Int)<(c:Int):=h7;omega
  rw[hG]at T V;have hH:b2∉[O]:=ol
  have hn:=(hw.J hy).O ha hH;refine Qc<|QV hg U U<|QJ [ve,vc,ZD,ZD,ZD] hn ⟨Qr I.a,Qr I.c,U,U,U,La⟩ λw4 J hI=>xe ?_;have hJ:∀b∈[b2],b<S.heap.size:=λb H=>by rw[Lc.1 H];omega
  have ho:=I.low J hJ;refine Qi ⟨[.agg #[ve,vc,ZD,ZD,ZD]],⟨YO hI,La⟩,((hF.I hy).Q ha oa).Q J oa,⟨ve,vc,ZD,ZD,ZD,ev,co,[],[],[]⟩,U,?_,λL hL=>?_⟩
  .show(⟨ev,co.map IV.it,[],[],[]⟩:Zy)=mzC c;rw[T,V];rfl
  have h0:∀b∈L,b<S.heap.size:=λb H=>ov (hL b H)
  exact⟨⟨QC ho.a (by show ev.length<=_;omega) (λb H hbL=>oy (Qg ho.a b H).1 (h0 b hbL)),λe he=>QqQ c e (by rw[<-T];exact he)⟩,ho.itms oa hm h0,⟨Zk.nil _ _ 5,λq E=>(by cases E),λq E=>(by cases E)⟩,⟨Zk.nil _ _ 2,λq E=>(by cases E),λq E=>(by cases E)⟩,⟨Zk.nil _ _ 3,λq E=>(by cases E),λq E=>(by cases E)⟩⟩
 have hK:i<c:=by have h8:(i:Int)<(c:Int):=h7;omega
 have hu:(97:Int)+(i:Int)=((97+i:Nat):Int):=oa
 refine Qe<|Qd<|Qn<|Qj<|Qb<|Qc<|Qm U hg U U<|Qa<|QH U U<|x (Z8 (k':=.i32) U ⟨oa,oa⟩)<|x (qI (n:=97+i) (O2 (Value.int .i32) hu) oa)<|x (YU (a:=⟨Qj8⟩) (b:=⟨#[UInt8.ofNat (97+i)]⟩) U U (by show 5+1<=1000000000;omega))<|x (Qv ⟨U,U,U,La⟩) <|
  Qa<|QH rfl U<|x (Z8 (k':=.i32) U ⟨oa,oa⟩)<|x (qI (n:=97+i) (O2 (Value.int .i32) hu) oa)<|x (YU (a:=⟨Qgr⟩) (b:=⟨#[UInt8.ofNat (97+i)]⟩) U U (by show 6+1<=1000000000;omega))<|x (Qv ⟨U,U,La⟩) <|
  Qo<|Zb ((Qdp i).map Zs) λgg w4 J gh hn=>?_
 have gi:=J.size;have hM:O∉ob ve:=QR I.a hl;have h1:O∉ob vc:=QR I.c hl;have hN:=Qg I.c;refine Qo<|Q9 (m:=2) (news:=(Qdp i).flatMap Zs) (L:=[]) (Ql I.a J) U U U (hn.at oe) (Qh8 i) oa oa λhp w5 h2 hr hO=>?_;refine QN rfl<|Qo<|Qw (j:=0) (u:=hp) ((hg.J J).O hr hM) U U oe (Qr h2) λY h3 h4=>xe ?_;have hP:MeI ↑S w5 vc hp co (ev++Qdp i):=(I.J J).setA (by rw[Ln,LC];exact h2) hr hO;have h5:∀b∈[O],b<S.heap.size:=λb H=>by rw[Lc.1 H];exact hl
 have h6:=hP.low h3 h5;have h9:xj [O] S Y:=((ha.I J.any).G hr (λb H=>.inr ((Qg I.a) b H).1)).V h3;have gj:=h9.size;have hQ:sW Y { Y with drawn:=Y.drawn+1 }:=xj.X _ _
 refine ZH (ob vc) (Xf 0 17 [12,13,14,16])<|p (QF U)<|pq (λ_ hc=>Qk (h4.O hc h1) U U)<|p QA<|p (λ_=>X2 U U ⟨oa,oa⟩)<|p (λ_=>Z8 (k':=.i32) U ⟨oa,oa⟩)<|p (λ_=>qI (n:=97+i) (O2 (Value.int .i32) hu) oa) <|
  p (λ_=>YU (a:=⟨JY⟩) (b:=⟨#[UInt8.ofNat (97+i)]⟩) U U (by show 7+1<=1000000000;omega))<|p QA<|p (λ_=>QjY U U ⟨oa,oa⟩)<|p QA<|p (λ_=>QjY U U ⟨oa,oa⟩)<|p (λ_=>X2 U U ⟨oa,oa⟩) <|
  pk<|xg<|(QfY (nmZ JY i) (2*(i:Int)) (2*(i:Int)+1) _).S ?_
 rintro r7 w7 ⟨hR,xa,xm,hh,rfl,hs,hA⟩;have ht:=hQ.I hR;refine⟨ht.any,?_⟩;refine pk<|Zb [QK ⟨nmZ JY i,⟨xa,xm,hh,mzA (2*(i:Int)) (2*(i:Int)+1)⟩⟩] λgk w8 hv gl hS=>⟨(ht.I hv).any,?_⟩;have Z:=ht.I hv;have hB:=h6.J Z;refine pk<|Q9 (news:=QK ⟨nmZ JY i,⟨xa,xm,hh,mzA (2*(i:Int)) (2*(i:Int)+1)⟩⟩) (L:=[]) hB.c U U U (hS.at oe) (Qb9 hs.1 hs.2.1 hs.2.2.1) oa (ov Z.size) λhC w9 hD hj hT=>⟨(Z.any (L:=ob vc)).V hj,?_⟩;have hU:=hB.setC (jc (q:=⟨nmZ JY i,⟨xa,xm,hh,mzA (2*(i:Int)) (2*(i:Int)+1)⟩⟩) (N:=↑Y) (λL hL=>(hA L hL).J hv) oa h6.avlt) hD hj hT;refine p (QF U)<|pkk<|Qw (j:=1) (u:=hC) ((h4.J Z).O hj h1) U U oe (Qr hD) λgm hE hV=>pe ?_;refine Qq<|QH U U<|Qa<|xe<|⟨(i+1,hp,ev++Qdp i,hC,co++[⟨nmZ JY i,⟨xa,xm,hh,mzA (2*(i:Int)) (2*(i:Int)+1)⟩⟩]),og,Lb,hK,((h9.I Z.any).G hj (λb H=>.inr (hN b H).1)).V hE,hV,hU.low hE h5,?_,?_,λq E=>?_⟩
 .simp only[];rw[Qdq,T]
 .simp only[];rw[Ls,V,Nl,Ls];rfl
 rcases Lh.1 E with E|E
 .exact hm q E
 rw[Lc.1 E];exact qN _ _ oh
instance skRsn:Sk sV 171 [0,0,0,0]:=⟨⟨_,underlying171,.int oh U underlying3<|.int oh U underlying3<|.int oh U underlying3<|.int oh U underlying3 .nil⟩,od,od⟩
theorem qY {v:O9}{l:List Rsn}(h:Zk L ↑w v l.length 4 (l.flatMap ZV))(E:Zk L' ↑w v' l.length 4 (l.flatMap ZV)):
  QZ sV 120 [v,v'] w λr w'=>r=.bool true/\sW w w':=by
 haveI:DecidableEq Rsn:=λ_ _=>Classical.propDecidable _;exact(eqG ⟨_,U,func120⟩ QjQ (ldA QjQ) h E λ{_ _ _ _ _ _ _ _ _ a b} _ _ hx H=>(JW (xs:=ZV a) (ys:=ZV b) U hx H).I (by cases a;cases b;simp[Kh,eqV];rfl)).S λ_ _ ⟨I,J⟩=>⟨by rw[I];simp,J⟩
def UX:ByteArray:=⟨#[110,101,118,101,114]⟩
def Y7:ByteArray:=⟨#[98,111,116,104]⟩
def QbT:ByteArray:=⟨#[109,111,115,116]⟩
def Qca:Y0:=⟨UX,⟨[1],1,[0],[]⟩⟩
def Qlp (i j:Int):Uf:=⟨Y7,[(i,1),(j,1)]⟩
def Qrz:xT:=⟨QbT,[(0,1),(1,1)],1⟩
def k1C:Zy:={ mzC 1 with rq:=[Qca] }
def k2C:Zy:={ mzC 2 with ex:=[Qlp 0 1] }
def k3C:Zy:={ mzC 2 with cs:=[Qrz] }
theorem QsN:Yo k1C=0:=od
theorem QsM:(spc k1C).fb=[⟨1,3,0,1⟩]:=od
theorem QpW:(spc k1C).a.st=2:=od
theorem Qq3:Qhl k1C=true:=od
theorem Qq4:cmB k1C=[2]:=od
theorem Qt2:Yo k2C=0:=od
theorem QsK:(spc k2C).fb=[⟨3,1,0,-1⟩]:=od
theorem QsJ:(spc k2C).a.st=4:=od
theorem Qt1:Yo k3C=0:=od
theorem QsI:(spc k3C).fb=[⟨3,2,0,-1⟩]:=od
theorem QhG {v:O9}(E:v.cells=#[v]):QZ sV 262 [v] w λr w'=>sW w w'/\∃b,r=.func (.func 308) #[] #[sP b]/\↑w<=b/\QP ↑w' b 63 [v]:=by
 refine Zt func262 ?_;refine Qc<|Qo<|QaD (us:=[v]) E λb1 O H I J=>Qb<|Qc<|x ZC<|Qb<|Qi ⟨[_],Lb,H,b1,U,I,J⟩
theorem QcN {m:Nat}{v:O9}{es:LI}(hb:QP ↑w b1 63 [v])(hE:QG L ↑w v es):
  SeqStopsK (fen none) m sV 308 #[sP b1] (λx:Int=>#[sS x]) (Lw ↑w L) (λys=>ys=es) (λ_=>True) (es.length+1) w:=by
 intro l J Jx W hc hJ hg hY h0;have S:sW w W:=xj.of_below hc;have hm:=hE.le;have ab:∀{ys:LI} {W1 W2:O8},J ys W1->sW W1 W2->J ys W2:=λ{ys W1 W2} hj O=>hJ ys W1 W2 none hj ⟨O.os,O.tape,O.output,O.size,λk hk _=>O.block k hk oe⟩ (λr e=>by cases e);have key:QZ sV 308 [.func (.yield l) #[] #[],sP b1] W (λ_ W'=>(∃ys,ys=es/\J ys W')\/(∃pre,True/\Jx pre W')):=by
  refine QZ.of_G m func308 U ntmps308 results308 oe ?_;refine Zh<|QM om om<|Xe (hb.J S) U U<|QE (hE.J S) U<|Qa<|xe<|Z5<|zn (α:=Nat) [(4,4),(7,15)] (λk=>[(7,sS k)]) (λk ds W'=>ds=[]/\k<=es.length/\xj L w W'/\J (es.take k) W') (λk=>es.length - k) om 0 Lb
   ⟨U,Lp _,S.any,h0⟩ ?_
  rintro k g ds w1 ⟨rfl,hk,ha,T⟩;refine Zh<|QM om om<|Ye U U<|xe<|Zh<|Qbl U (λV=>?_) (λV=>?_)
  .refine VU ?_;have hh:es.length<=k:=by have Y:¬(k:Int)<(es.length:Int):=V;omega
   rw[Lt hh]at T;exact⟨λ_ h=>(by cases h),MY,[],λW' E=>⟨La,.inl ⟨es,rfl,ab T E⟩⟩⟩
  refine YV ?_;have H:k<es.length:=by have Y:(k:Int)<(es.length:Int):=V;omega
  have hi:es.take (k+1)=es.take k++[es[k]'H]:=Lo H;have hn:(es.take k).length=k:=by rw[LB];omega
  refine Zh<|Z5<|Zh<|QM om om<|xii (i:=k) (hE.st ha) U U H λa9 Y=>x (Qy Y U)<|Qb<|Zh<|Ud om ?_;refine Ki.pre2 ?_;refine Qa<|Qa<|xe<|xy (l:=l) U (hY (es.take k) (es[k]'H) w1 T oa) λen W3 hl=>Or.elim hl (λI=>⟨.bool true,I.1,?_⟩) (λI=>⟨.bool false,I.1,?_⟩)
  .refine Ki.of_XL<|x (Zr U)<|xe<|Ue U<|YV ?_;refine QM om om<|QH U U<|Qa<|xe ?_;exact⟨k+1,oa,Lb,U,H,ha.lw I.2.2,by rw[hi];exact I.2.1⟩
  refine Ki.of_XL<|x (Zr U)<|xe<|QcB U ?_;refine VT ⟨λ_ h=>(by cases h),MY,[],λW' E=>⟨La,.inr ⟨es.take k++[es[k]'H],La,?_⟩⟩⟩;exact hg _ W3 W' none I.2 ⟨E.os,E.tape,E.output,E.size,λk hk _=>E.block k hk oe⟩ (λr e=>by cases e)
 refine(callsIn_wide (n:=m)).2 ?_;have ea:(#[.func (.yield l) #[] #[]]++[sP b1].toArray:Array O9)=#[.func (.yield l) #[] #[],sP b1]:=oe
 rw[ea];unfold QZ at key;refine Calls.mono key λe w' Z=>?_;cases e with
 | returned v=>exact⟨⟨v,U⟩,Z⟩
 | panicked c=>exact Z.elim
 | outgrown=>exact Z.elim
theorem QiT {v:O9}{es:LI}(hi:QP ↑w b1 63 [v])(hE:QG [] ↑w v es)(hl:es.length<=1000):
  QZ sV 336 [ZD,.func (.func 308) #[] #[sP b1]] w λr w'=>sW w w'/\Qp 3 ↑w w' r es:=by
 refine QZ.of_G 20 func336 U ntmps336 results336 oe ?_;refine Zh<|QM om om<|Zg [ZD] λb2 w1 T ha hc=>Qb ?_;have hq:=T.size;have hr:=hc.lt;refine Zh<|Zh<|QM om om<|Qa<|xe<|Z5<|Qpz (α:=Int) [b2] oa (capt:=[sP b1]) U (enc:=λx=>sS x) oh
  (QcN (hi.J T) ((hE.up (L':=[b2]) (λb E=>.inr (by rw[Lc.1 E];exact ha))).J T))
  (λpre W=>∃vo,xj [b2] w1 W/\QP ↑W b2 63 [vo]/\Qp 3 ↑w1 W vo pre)
  (λpre=>YL.ex λvo=>(YL.O (Lu _)).and (YL.blk.and YL.row))
  ⟨ZD,xj.Y _ _,hc,QI _ _ _ _⟩
  (λf x V W=>V=upd (upd f 7 (sS x)) 5 (sS x)) (λx V=>YL.pure _) ?_ ?_ ?_
 .rintro l pre e W ⟨vo,O,J,H⟩;refine QM om om<|Qb<|⟨U,Vl.refl _ _ _,⟨vo,O,J,H⟩,U⟩
 .rintro l pre e V W ⟨vo,O,J,H⟩ rfl hN;have he:b2∉ob vo:=QR H oa;have hge:=Qg H;have hj:=O.size;refine Z5<|QM om om<|Xe J U U<|Qa<|Qo<|Zb [[sS e]] λhs w2 I ht hn=>?_;refine Qo<|Q9 (m:=1) (news:=[sS e]) (Ql H I) U U U (hn.at (L:=[]) oe) oq oa (ov I.size) λv3 w3 Y S hv=>?_;refine Qo<|Qw (u:=v3) ((J.J I).O S he) U U oe (Qr Y) λw4 Z ho=>xe ?_;have hw:=I.size;refine⟨((Vl.J I hj).I (Vl.O S oa (λb E=>⟨.inr (hge b E).1,Go.Lg.QQ (Ql H I) b E⟩))).I (Vl.blk Z (ov S.size) ((J.J I).O S he) (.inl Lr)),v3,((O.I I.any).G S (λb E=>.inr (hge b E).1)).V Z,ho,?_⟩;exact Qp.snoc (Qf Y Z (λb E=>by have:=(Qg Y b E).1;simp only[oJ];omega))
 rintro D xs W hD rfl ⟨vo,O,J,H⟩ hg;refine Zh<|QM om om<|Xe J U U<|Qb<|VT ⟨λD' hp=>by rw[Lc.1 hp];exact hg,Ns _ _,[vo],λW' hh=>⟨Lb,(T.Q O ha).G hh (λb E=>.inr (by rw[Lc.1 E];omega)),?_⟩⟩;refine Zv (Qf H hh (λb E hm=>?_)) oa;rw[Lc.1 hm]at E;obtain⟨o,h1,h2⟩:=Go.Lg.QQ H _ E;rw[hg]at h1;cases h1
 cases h2
theorem QfF {v:O9}{es:LI}(E:QP ↑w b1 63 [v])(hE:QG [] ↑w v es)(H:es.length<=1000):
  QZ sV 307 [.func (.func 308) #[] #[sP b1]] w λr w'=>sW w w'/\Qp 3 ↑w w' r es:=by
 refine Zt func307 ?_;refine Qc<|Qb<|Qj<|Qx<|(QiT E hE H).S ?_;rintro v1 O ⟨I,J⟩;refine Qb<|Qi ⟨[v1],Lb,I,J⟩
theorem QhM {v:O9}{es:LI}(H:QP ↑w b1 63 [v])(hE:QG [] ↑w v es)(I:es.length<=1000):
  QZ sV 261 [.func (.func 308) #[] #[sP b1]] w λr w'=>sW w w'/\Qp 3 ↑w w' r (es.mergeSort λx y=>decide (x<=y)):=by
 refine Zt func261 ?_;refine Qc<|Qb<|Qj<|Qx<|(QfF H hE I).S ?_;rintro v1 V ⟨J,E⟩;refine Qb<|Qj<|Qx<|(Qap E oa).S ?_;rintro r2 Y ⟨O,S⟩;refine xe<|Qj<|Qb<|Qi ⟨[v1],Lb,J.G O (λb T=>.inr (Qg E b T).1),S⟩
theorem QgZ {n:Int}:∀{l:LI}(i:Nat),n∈l->fix (λe=>decide (n=e)) i l=((i+l.idxOf n:Nat):Int)
 | a::l,i,h=>by
  rw[YP,List.idxOf_cons];by_cases e:n=a
  .simp[e]
  rw[O0 (oA e),show(a == n)=false by simpa using Ne.symm e,QgZ (i+1) ((Lk.1 h).resolve_left e)];simp only[cond_false];omega
theorem Qrc {v:O9}(h:QG L ↑w v l){n:Int}(E:n∈l):
  QZ sV 67 [v,sS n] w λr w'=>w'=w/\r=sS (l.idxOf n:Nat):=
 (QaQ h n).S λ_ _ ⟨H,I⟩=>⟨H,by rw[I,QgZ 0 E,LS]⟩
def rlE (a:QU)(to:LI):List Ed:=a.ed.map λe=>(e.1,xo to (a.al.idxOf e.2.1),e.2.2)
theorem QfV {to sa:LI}{se:List Ed}(h:ZE [] ↑w va vm ve a)(gx:Jt a=0)(ho:Zo a)(ht:QG [] ↑w vt to)(hD:to.length=a.al.length)(hM:∀e∈to,0<=e/\e<32)(gy:to.Nodup)
  (hN:to.mergeSort (λx y=>decide (x<=y))=sa) (gz:∀l',l'.Perm (rlE a to)->l'.Pairwise QdT->l'=se) (g0:Zo ⟨sa,a.st,a.mr,se⟩):
  QZ sV 196 [.agg #[va,sS a.st,vm,ve],vt] w λr w'=>sW w w'/\∃v,r=.tuple #[v,sS 0]/\Xi ↑w ↑w' v (Yg ⟨sa,a.st,a.mr,se⟩):=by
 have k9:=ho.st0;have ma:=ho.st1;have mf:=ho.al_le;refine Zt func196 ?_;refine Qc<|Zg [va,sS a.st,vm,ve] λb2 w1 hO mg g2=>QL XD λb4 w2 hP mh hQ=>Qb ?_;have hR:=hO.I hP;have mj:=hO.size;have mo:=hQ.lt;have hS:=g2.J hP;refine Qd<|Qc<|QV hS U U<|Qx<|(XS (h.J hR)).S ?_;rintro r3 w3 ⟨hT,hz⟩;rw[gx]at hT;subst hT;have hE:=hR.I hz;have mq:=hz.size;have hg:=hS.J hz;refine Qb<|Qj<|Zu U U<|xe<|Zl rfl<|Qe ?_;have h0:=h.J hE;have Y:=ht.J hE;refine Qd<|Qj<|QE Y U<|Qm U hg U U<|QE h0.al U<|Zu U U<|xe<|QY rfl (λhU=>O3 (O2 (λm:Nat=>(m:Int)) hD) hU) (λhU=>?_);refine Qe<|QX (α:=Unit) [(5,5),(7,8),(25,47)] (λ_=>[]) (λ_ w'=>w'=w3) om ?_ ?_
 .refine Qj<|QE Y U<|Qa<|xe<|Q2 (α:=Nat) [(5,5),(7,8),(27,47)] (λk=>[(27,sS k)]) (λk w'=>w'=w3/\k<=to.length) (λk=>to.length - k) 0 Lb ⟨U,Lp _⟩ ?_;rintro k g w' ⟨rfl,hk⟩;refine Zi U U (λhV=>?_) (λhV=>?_)
  .refine Qt ?_;exact⟨(),La,U⟩
  have J:k<to.length:=by have ms:(k:Int)<(to.length:Int):=hV;omega
  have g3:=hM _ (Lm J);have hW:(to[k]'J)∉to.take k:=λhm=>by
   obtain⟨j,hj,hX⟩:=LM hm;rw[Nj]at hX;have g4:j<k:=by rw[LB]at hj;omega
   have:=(Mq.1 gy) j k oa J g4;exact this hX
  refine Zd (to[k]'J) λe V=>?_;rw[V]at g3 hW;refine Qe<|Qd<|Qn<|Qj<|xii Y U U J λmt hY=>?_;rw[V]at hY;refine x (Qy hY U)<|x Qh<|Qb<|Qn<|Qj<|xb (YA U U) (λhZ=>O3 (show e<0 from hZ) oa) (λhZ=>?_);refine Qa<|Qa<|x (YI U U)<|QB U<|Qb<|QY U (λga=>O3 (show e≥32 from ga) oa) (λga=>?_);refine Qj<|Qa<|Qqd Y U U oa λg5 g6=>?_;have g7:QG [] ↑w' g5 (to.take k):=by
   unfold QG;have g8:(to.take k).length=k:=by rw[LB];omega
   rw[g8,NV];simpa using g6
  refine Qa<|Qx<|(Yn g7 e).S ?_;rintro mu w' ⟨rfl,rfl⟩;refine Qb<|QY U (λgb=>O3 gb hW) (λgb=>?_);refine Qe<|Qq<|QH U U<|Qa<|xe ?_;exact⟨k+1,oa,Lb,U,J⟩
 rintro⟨⟩ g w' rfl;have g9:sW w' { w' with drawn:=w'.drawn+1 }:=xj.X _ _
 refine QX (α:=Nat×O9) [(9,9),(48,55)] (λz=>[(9,.pointer (some ⟨z.1,0,none⟩))]) (λz I=>sW w' I/\↑w'<=z.1/\QP ↑I z.1 66 [z.2,sS a.st,vm,nS]/\z.2.oneCell'=true/\∀L:LN,(∀b∈L,b<↑w'\/b=z.1)->QG L ↑I z.2 sa) om ?_ ?_
 .refine Xv _ mixed om (Kd (α:=O9) (sW w') [oE 0,oE 3,oE 4,oE 5,oE 6] [oF 1,oF 2,oE 7] 8 9 [oF 9] [] [(48,55)] [(49,50),(55,55)] (λz=>[(55,.agg #[z,sS a.st,vm,nS])])
   (λz own I=>(∀b∈own,↑w'<=b)/\z.oneCell'=true/\∀L:LN,(∀b∈L,b∉own)->QG L ↑I z sa)
   (λv I=>∃b,v=sP b/\↑w'<=b/\QP ↑I b 66 XD) od om U g9 oe ?_ ?_ ?_ ?_)
  .rintro v own wa wb ⟨b,rfl,E,hB⟩ hs hn;exact⟨b,U,E,hB.O hs (hn b ou)⟩
  .rintro z own wa wb ⟨h1,Z,h3⟩ hs;exact⟨h1,Z,λL hL=>(h3 L hL).J hs⟩
  .rintro z g own wz v ⟨i1,i2,i3⟩ ka ⟨H,rfl,hh,h5⟩ kb;have gc:=(kb H ou).1;refine pkk<|Ux [z,sS a.st,vm,nS] h5 ⟨i2,U,h0.mr.one,U,La⟩ λI ha kc=>pe ?_;refine⟨(H,z),Lb,ka.Q ha hh,hh,kc,i2,λL hL=>?_⟩;have h1:=i3 (H::L) (λb E=>by
    rcases Lk.1 E with rfl|E
    .exact gc
    rcases hL b E with Z|Z
    .exact λh3=>ov (i1 b h3)
    subst Z;exact gc)
   exact(h1.st (ha.S oe)).up (λb E=>.inl (by simp[E]))
  refine Go.Lg.p QA<|Go.Lg.p (QF U)<|pq (λ_ hc=>Qk (hg.J hc) U U)<|Go.Lg.p (QF U)<|pq (λ_ hc=>Qk (hg.J hc) U U) <|
   pe ⟨λg wf ke=>flA XD ke,?_⟩
  refine f2k λx1 p1 c1=>xg<|(QhG Y.cells).S ?_;rintro mv y1 ⟨gg,mw,rfl,my,hG⟩;refine⟨c1.I gg,qE ↑x1 ↑y1,gg.any,λb E=>.inr (ZF.1 E),?_⟩;refine f2k λx2 p2 c2=>xg<|(QhM (hG.J p2) (Y.J c2) oa).S ?_;rintro kf y2 ⟨gh,hi⟩;rw[hN]at hi;refine⟨c2.I gh,qE ↑x1 ↑y1++qE ↑x2 ↑y2,gh.any,λb E=>(Lh.1 E).imp id λE=>ZF.1 E,?_⟩;refine j3 (λ_=>Qv ⟨xS hi,U,h0.mr.cells,La⟩)<|f2e ?_;refine⟨kf,Lb,λb E=>?_,Qr hi,λL hL=>?_⟩
  .have e1:=c1.size;have e2:=c2.size;rcases Lh.1 E with E|E
   .have:=ZF.1 E;omega
   have:=ZF.1 E;omega
  exact QC hi (by rw[<-hN,(NI to _).length_eq];omega) (λb E hm=>hL b hm (Lh.2 (.inr (ZF.2 (Qg hi b E)))))
 rintro⟨H,vs⟩ g I ⟨ha,hh,h5,hvo,kg⟩;have gi:=h5.lt;have gj:=hg.J ha;have gk:∀b∈[H],b∈([]:LN)\/↑w'<=b:=λb E=>.inr (by rw[Lc.1 E];exact hh);have hl:ZE [H] ↑I va vm ve a:=(h0.up gk).J ha;have kh:QG [H] ↑I vt to:=(Y.up gk).J ha;have mz:=hl.ed.le;have ki:b2∉[H]:=by have:=hg.lt;simp only[oJ];omega
 have m2:b4∉[H]:=ol
 have kj:(rlE a to).length=a.ed.length:=by unfold rlE;rw[Lj]
 have kk:∀e∈rlE a to,(0<=e.1/\e.1<1099511627776)/\0<=e.2.1/\e.2.1<1099511627776:=λe V=>by
  unfold rlE at V;obtain⟨d,hd,rfl⟩:=Ly.1 V;have h1:=ho.ed d hd;have Z:a.al.idxOf d.2.1<to.length:=by rw[hD];exact MR h1.2.2.1
  have h3:=hM _ (Lm Z);have h4:=Zx Z;simp only[];omega
 refine QX (α:=O9) [(11,11),(56,78)] (λ_=>[]) (λz O=>xj [H] I O/\QP ↑O H 66 [vs,sS a.st,vm,z]/\O.ownsRow ↑I 159 3 z (rlE a to).length ((rlE a to).flatMap Qz)) om ?_ ?_
 .refine Qc<|Qm U gj U U<|QE hl.ed U<|Qa<|xe<|Q2 (α:=Nat×O9) [(11,11),(59,78)] (λz=>[(59,sS z.1)]) (λz O=>z.1<=a.ed.length/\xj [H] I O/\QP ↑O H 66 [vs,sS a.st,vm,z.2]/\O.ownsRow ↑I 159 3 z.2 z.1 (((rlE a to).take z.1).flatMap Qz)) (λz=>a.ed.length - z.1) (0,ZD) Lb ⟨Lp _,xj.Y _ _,h5,QI _ _ _ _⟩ ?_;rintro⟨k,vr⟩ g O ⟨hk,S,hq,T⟩;refine Zi U U (λhH=>?_) (λhH=>?_)
  .refine Qt ?_;have kn:k=a.ed.length:=by have h6:¬(k:Int)<(a.ed.length:Int):=hH;omega
   rw[Lt oa,kn,<-kj]at T;exact⟨vr,La,S,hq,T⟩
  have J:k<a.ed.length:=by have h6:(k:Int)<(a.ed.length:Int):=hH;omega
  have hI:=ho.ed _ (Lm J);have ko:(rlE a to)[k]'oa=((a.ed[k]'J).1,xo to (a.al.idxOf (a.ed[k]'J).2.1),(a.ed[k]'J).2.2):=by unfold rlE;rw[LW]
  have hr:(rlE a to).take (k+1)=(rlE a to).take k++[(rlE a to)[k]'oa]:=Lo oa;rw[ko]at hr;refine Zd (a.ed[k]'J) λe V=>?_;rw[V]at hI hr;have hix:a.al.idxOf e.2.1<to.length:=by rw[hD];exact MR hI.2.2.1
  rw[<-Zx hix]at hr;refine Zd (to[a.al.idxOf e.2.1]'hix) λy hy=>?_;rw[hy]at hr;refine Qe<|Qd<|Qn<|Qc<|xie (i:=k) (hl.ed.st S) U U J λm3 h6=>?_;rw[V]at h6;refine x (Qu h6 U U)<|QL [sS 0,sS 0,sS 0] λkq w7 hw gl kr=>QJ (Qz e) kr oC λw8 h7 gm=>xe ?_;have h8:sW O w8:=hw.Q h7 gl;have kt:=S.size;refine Qj<|Qm U ((gj.O S ki).J h8) U U<|Qm U gm U U<|Qx<|(Qrc ((hl.al.st S).J h8) hI.2.2.1).S ?_;rintro m4 w8 ⟨rfl,rfl⟩;refine xii ((kh.st S).J h8) U U hix λm5 gn=>?_;rw[hy]at gn;refine x (Qy gn U)<|QN U<|Qo<|Qw (u:=sS y) gm U U (by simp[Qz]) rfl λw9 h9 ku=>xe ?_;have kv:QP ↑w9 kq 159 (Qz (e.1,y,e.2.2)):=ku;have hA:sW O w9:=h8.Q h9 gl;have go:=hq.J hA;have n9v:H∉ob vr:=QR T gi;have m6:=hA.size;refine Qq<|Qm U go U U<|QV kv U U<|Qo<|Zb [Qz (e.1,y,e.2.2)] λm7 m8 hC m9 kw=>?_;refine Qo<|Q9 (m:=1) (news:=Qz (e.1,y,e.2.2)) (L:=[]) (Ql (Ql T hA) hC) U U U (kw.at oe) (by simp[Qz,Value.oneCell']) oa (ov hC.size) λgp pa hJ gq pc=>?_;refine QN U<|Qo<|Qw (u:=gp) ((go.J hC).O gq n9v) U U oe (Qr hJ) λpd gr kx=>xe ?_;refine Qq<|QH U U<|Qa<|xe<|⟨(k+1,gp),og,Lb,J,(((S.I hA.any).I hC.any).G gq (λb E=>.inr ((Qg T) b E).1)).V gr,kx,?_⟩;simp only[];rw[hr,LC];simpa using(Qf hJ gr (λb E=>by have:=(Qg hJ b E).1;simp only[oJ];omega))
 rintro vr g O ⟨S,hq,T⟩;have n9r:H∉ob vr:=QR T gi;have kt:=S.size;have gs:=Qg T;refine Qc<|Qm U hq U U<|Qx<|(Qbx T oa kk).S ?_;rintro r7 w7 ⟨hw,l',hp,kz,k0⟩;have k4:=gz l' hp kz;subst k4;refine xe ?_;have k5:∀b∈H::ob vr,b∈[H]\/↑I<=b:=λb E=>by
  rcases Lk.1 E with rfl|E
  .exact .inl Lr
  exact .inr (gs b E).1
 have gt:∀{v:O9} {l:LI},QG [H] ↑I v l->QG [] ↑w7 v l:=λhv=>(((hv.up k5).st (S.S oe)).st (hw.S (λb E=>Ll _ E))).up (λb E=>by cases E);have k6:zW [] ↑w7 vr l':=QC k0 (ov hp.length_eq) oe;have k7:ZE [] ↑w7 vs vm vr ⟨sa,a.st,a.mr,l'⟩:=⟨gt (kg [H] (λb E=>.inr (Lc.1 E))),gt hl.mr,k6⟩;have hK:sW w' w7:=(ha.Q S hh).G hw (λb E=>.inr (ov (gs b E).1));have pf:=hK.size;refine Qc<|QV (hq.O hw n9r) U U<|Qx<|(JJ k7 g0).S ?_;rintro v w8 ⟨h7,hF⟩;obtain⟨us,gu,gv,k8⟩:=Xw hF;refine Qo<|ZA (us:=us) (((hQ.J hz).J hK).J h7) U gu gv U k8 λw9 h9 hG=>Qb ?_;have gw:=hE.I hK;refine Qi ⟨[sT us,sS 0],⟨⟨_,U,ZR gv (hG.at (L:=[]) oe).cells⟩,rfl,La⟩,(gw.I h7).Q h9 oa,v,by rw[gu];rfl,?_⟩;exact(XY hF oa h9).S (ov gw.size)
theorem Qqv {motive:LI->Prop}(nil:motive [])(append_singleton:∀u v,motive u->motive (u++[v]))(u:LI):motive u:=by
 have key:∀r:LI,motive r.reverse:=by
  intro r;induction r with
  | nil=>exact nil
  | cons v r ih=>rw[List.reverse_cons];exact append_singleton _ _ ih
 have:=key u.reverse;rw[List.reverse_reverse]at this;exact this
def enc (u:LI):Int:=u.foldl (λn e=>n*33+(e+1)) 0
theorem VN (u:LI)(v:Int):enc (u++[v])=enc u*33+(v+1):=by unfold enc;rw[Mk];rfl
def QiY (u:LI):Prop:=∀e∈u,0<=e/\e<32
theorem QiY.snoc {v:Int}(h:QiY (u++[v])):QiY u/\0<=v/\v<32:=⟨λe E=>h e (L7 _ E),h v oe⟩
theorem Qrn (h:QiY u):0<=enc u:=by
 induction u using Qqv with
 | nil=>exact Ng _
 | append_singleton u v ih=>rw[VN];have:=ih h.snoc.1;have:=h.snoc.2;omega
def rn (a:QU)(x:Int)(u:LI):Int:=u.foldl (λs v=>xw a.ed s v) x
theorem Qnx (a:QU)(x:Int)(u:LI)(v:Int):rn a x (u++[v])=xw a.ed (rn a x u) v:=by unfold rn;rw[Mk];rfl
def x0 (a:QU):Int:=if 0<a.st then 0 else -1
structure Fw where
 u:LI
 s:Int
def zt:Fw:=⟨[],0⟩
def wdN (e:Fw)(d:Ed):Fw:=⟨e.u++[d.2.1],d.2.2⟩
def wdR (a:QU)(e:Fw):List Fw:=(Z2 a.ed e.s).map (wdN e)
def wdL (a:QU)(most:Nat):Nat->Nat->List Fw->Option (List Fw)
 | 0,_,L=>some L
 | f+1,i,L=>if i<L.length then(if(L.getD i zt).u.length=most then some L else if 1024<(L++wdR a (L.getD i zt)).length then none else wdL a most f (i+1) (L++wdR a (L.getD i zt)))else some L
def wds (a:QU)(most:Nat):Option (List Fw):=wdL a most 1025 0 [zt]
structure WdI (a:QU)(most i:Nat)(L:List Fw):Prop where
 ne:0<L.length
 le:i<=L.length
 mx:L.length<=1024
 rx:∀e∈L,e.s=rn a 0 e.u/\0<=e.s/\e.s<a.st/\(∀v∈e.u,v∈a.al)/\e.u.length<=most
 so:L.Pairwise λp q=>enc p.u<enc q.u
 hd:(L.getD 0 zt).u=[]
 pr:∀e∈L,e.u=[]\/∃j v,j<i/\e.u=(L.getD j zt).u++[v]
 ch:∀j v,j<i->0<=xw a.ed (L.getD j zt).s v->∃e∈L,e.u=(L.getD j zt).u++[v]
theorem Qld {L:List Fw}(h:i<L.length):L.getD i zt∈L:=by simp[oQ,h]
theorem Qle {L r:List Fw}(h:i<L.length):(L++r).getD i zt=L.getD i zt:=by simp[oQ,List.getElem?_append_left h]
theorem WdI.O (O:Zo a){most:Nat}{L:List Fw}(h:WdI a most i L)(hi:i<L.length)(hl:(L.getD i zt).u.length≠most)(hm:¬1024<(L++wdR a (L.getD i zt)).length):WdI a most (i+1) (L++wdR a (L.getD i zt)):=by
 have T:QiY a.al:=O.al;have hb:∀e∈L,QiY e.u:=λe E u hu=>T u ((h.rx e E).2.2.2.1 u hu);have ha:=Qld hi;obtain⟨r1,r2,r3,r4,r5⟩:=h.rx _ ha;generalize V:L.getD i zt=ei at *;have Y:∀e∈wdR a ei,∃d∈Z2 a.ed ei.s,e=wdN ei d/\d.2.1∈a.al/\0<=d.2.2/\d.2.2<a.st/\xw a.ed ei.s d.2.1=d.2.2:=λe E=>by
  unfold wdR at E;obtain⟨d,hd,rfl⟩:=Ly.1 E;obtain⟨hc,hs⟩:=ZY hd;have Z:=O.ed d hc;refine⟨d,hd,U,Z.2.2.1,Z.2.2.2.1,Z.2.2.2.2,?_⟩;rw[Qgy];obtain⟨k,hk,rfl⟩:=LM hd;refine Qe8 _ ei.s _ k hk (λe E=>(ZY E).2) U (λm hg e=>?_);have I:(Z2 a.ed ei.s).Pairwise λx y:Ed=>x.1<y.1\/(x.1=y.1/\x.2.1<y.2.1):=List.Pairwise.sublist Na O.edi;have:=Mq.1 I m k oa hk hg;have e1:=(ZY (Lm (l:=Z2 a.ed ei.s) (show m<(Z2 a.ed ei.s).length by omega))).2;have e2:=(ZY (Lm hk)).2;omega
 have ht:=Qrn (hb _ ha);have hh:∀e∈L,∀v,v∈a.al->enc e.u<enc (ei.u++[v]):=λe E v hv=>by
  have hw:=T v hv;rw[VN];rcases h.pr e E with H|⟨j,u,J,H⟩
  .rw[H];show(0:Int)<_;omega
  rw[H,VN];have hz:enc (L.getD j zt).u<enc ei.u:=by
   have:=Mq.1 h.so j i oa hi J;rw[<-V];simpa[oQ,show j<L.length by omega,hi]using this
  have h0:u<32:=by
   have:=(h.rx e E).2.2.2.1 u (by rw[H];simp);exact(T u this).2
  omega
 have keepD:∀r:List Fw,∀j,j<L.length->(L++r).getD j zt=L.getD j zt:=λr j J=>Qle J;refine⟨by simp;have:=h.ne;omega,by simp;omega,oa,λe E=>?_,?_,by rw[keepD _ 0 h.ne];exact h.hd,λe E=>?_,λj v J S=>?_⟩
 .rcases Lh.1 E with E|E
  .exact h.rx e E
  obtain⟨d,_,rfl,H,h2,h3,h4⟩:=Y e E;refine⟨?_,h2,h3,λu hu=>?_,?_⟩
  .show d.2.2=rn a 0 (ei.u++[d.2.1]);rw[Qnx,<-r1,h4]
  .rcases Lh.1 (show u∈ei.u++[d.2.1] from hu)with hu|hu
   .exact r4 u hu
   simp only[oJ]at hu;subst hu;exact H
  show(ei.u++[d.2.1]).length<=most;rw[Ln,LG];omega
 .rw[Mj];refine⟨h.so,?_,λp I q hq=>?_⟩
  .unfold wdR;rw[MC];have I:(Z2 a.ed ei.s).Pairwise λx y:Ed=>x.1<y.1\/(x.1=y.1/\x.2.1<y.2.1):=List.Pairwise.sublist Na O.edi;refine List.Pairwise.imp_of_mem (λ{x y} hx hy h5=>?_) I;have e1:=(ZY hx).2;have e2:=(ZY hy).2;show enc (ei.u++[x.2.1])<enc (ei.u++[y.2.1]);rw[VN,VN];omega
  obtain⟨d,_,rfl,H,_⟩:=Y q hq;exact hh p I _ H
 .rcases Lh.1 E with E|E
  .rcases h.pr e E with H|⟨j,u,J,H⟩
   .exact .inl H
   exact .inr ⟨j,u,oa,by rw[keepD _ j oa];exact H⟩
  obtain⟨d,_,rfl,_⟩:=Y e E;exact .inr ⟨i,d.2.1,oa,by rw[keepD _ i hi,V];rfl⟩
 rw[keepD _ j oa]at S ⊢;by_cases e:j=i
 .subst e;rw[V]at S ⊢;refine⟨wdN ei (ei.s,v,xw a.ed ei.s v),MM _ ?_,U⟩;unfold wdR;exact LK (by unfold Z2;exact LY.2 ⟨(QbR S),oe⟩)
 obtain⟨e',hr,H⟩:=h.ch j v oa S;exact⟨e',L7 _ hr,H⟩
theorem Qsi (H:0<a.st)(most:Nat):WdI a most 0 [zt]:=by
 refine⟨oe,OY _,oe,λe E=>?_,oe,by simp[oQ,zt],λe E=>?_,λj v I=>oa⟩
 .simp only[oJ]at E;subst E;exact⟨U,Ng _,H,by simp[zt],by simp[zt]⟩
 simp only[oJ]at E;subst E;exact .inl U
section
variable {pS:String}
theorem zL {base e:Nat}{bys:Nat}[h:Sl P t e sz bys z]{v:O9}(E:w.ownsRow base e sz v n cs)
  {a:Addr} {m c:Nat}  (J:news.length=m*sz) (V:∀j u,news[j]?=some u->w.cell? (a.add j)=some u) (h1:∀u∈news,u.oneCell'=true)
  (hb:n+m<=1099511627776) (ht:bys<=128) (he:base<=↑w):
  ∃v' w',(Builtin.append_ #[t,t] ty #[v,.slice (some a) m c]).run P w=.ok v' w'/\w'.ownsRow base e sz v' (n+m) (cs++news)/\xj (ob v) w w'/\(∀b∈ob v',b∈ob v\/↑w<=b)/\w'.ownsRow base e sz v n cs:=by
 obtain⟨i,hi,Z,O,ha⟩:=Sl.info h;have hc:(n+m)*bys<=140737488355328:=LJ (Nat.mul_le_mul hb ht) oa;have hh:n+m<=maxLen:=by simp only[maxLen];omega
 by_cases hg:∃g cap cur,v=sL g n cap/\w.heap[g]?=some (.cells cur e (0,0))/\n+m<=cap
 .obtain⟨v',w',T,ho,hv,_⟩:=run_append_own (P:=P) w base t ty e i z sz bys h.u hi Z O ha h.zs h.pos v n cs E a m c news J V h1 hh hc he;have hw:xj (ob v) w w':=by rw[yT];exact xj.of_grown hv
  refine⟨v',w',T,ho,hw,?_⟩;obtain⟨g,cap,cur,rfl,hj,S⟩:=hg;rcases E.2 with⟨h2,_⟩|⟨g2,cap2,hp,h2,h3,h4,h5,h6,h7,h8⟩
  .cases h2
  cases h2
  have hy:n*i.size+news.length<=hp.size:=by rw[J,h7,O,<-MB];exact Ma _ S
  rw[(run_append_room (P:=P) w t ty e i h.u hi g n cap hp h4 a m c news (by rw[O];exact J) V h1 S hy)]at T;cases T
  refine⟨λb I=>.inl I,E.1,?_⟩;have hD:=E.1;rcases ho.2 with⟨e1,_⟩|⟨g3,cap3,cur3,e1,k3,k4,k5,k6,k7,k8⟩
  .cases e1
  cases e1
  refine .inr ⟨g,cap,cur3,U,k3,k4,h5,k6,k7,?_⟩;have:=O2 (List.take (n*sz)) k8;rw[Ni,Mu (Ma _ (Nat.le_add_right n m)),Nb oa,Lt (l:=cs) oa]at this;exact this
 have new:∀(old:Nat),old<n+m->∀H,H=(Obj.cells (cs.toArray++news.toArray++Builtin.zeroCells z.cells (grownCap w (n+m) old e - (n+m))) e) ->
   (w.drew.alloc H).ownsRow base e sz (.slice (some ⟨↑w,0,none⟩) (n+m) (grownCap w (n+m) old e)) (n+m) (cs++news):=by
  intro old ho H h0;subst h0;have hge:=grownCap_ge w (n+m) old e;have hq:grownCap w (n+m) old e<=maxLen:=grownCap_le_maxLen w (n+m) old e hh;have hs:(cs++news).length=(n+m)*sz:=by rw[Ln,E.1,J,MB]
  refine⟨hs,.inr ⟨↑w,_,_,U,he,KI w.drew _,hge,hq,?_,?_⟩⟩
  .simp only[Array.size_append,Oc,size_zeroCells,h.zs,E.1,J,<-Ot];congr 1;omega
  simp only[Array.toList_append,oY];rw[<-LD,<-hs];exact List.take_left
 have stp:∀H,xj (ob v) w (w.drew.alloc H):=λH=>⟨U,U,U,by rw[V8];exact NW _,λk hk _=>zi w.drew H k hk⟩;have h9:∀H,sW w (w.drew.alloc H):=λH=>⟨U,U,U,by rw[V8];exact NW _,λk hk _=>zi w.drew H k hk⟩;have fin:∀(b:Nat),b∈ob (.slice (some ⟨↑w,0,none⟩) (n+m) 0)->b∈ob v\/↑w<=b:=λb I=>by simp[ob]at I;omega
 rcases E.2 with⟨rfl,rfl⟩|⟨g,cap,cur,rfl,hE,hj,hF,hq,hG,hH⟩
 .have hx:cs=[]:=LA (oA E.1);subst hx;by_cases hm:m=0
  .subst hm;have Y:news=[]:=LA (oA J);subst Y;refine⟨nS,w,?_,QI _ _ _ _,xj.Y _ _,λb I=>by simp[ob]at I,QI _ _ _ _⟩;simp[Builtin.append_,run_underlying h.u,sizeOf,typeInfo,hi,Builtin.lenOf,Builtin.firstCells,loadCells,loadCellsFrom]
  have T:=run_append_nil (P:=P) w t ty e i z h.u hi Z a m c news (by rw[O];exact J) V oa oa (by rw[ha];have hA:=hc;simp only[oZ]at hA;omega);have Y:=new 0 oa _ U;simp only[oZ,Oh,Array.empty_append]at Y ⊢;exact⟨_,_,T,Y,stp _,λb I=>fin b I,QI _ _ _ _⟩
 have S:cap<n+m:=by
  rcases OO cap (n+m)with hB|hge
  .exact hB
  exact O3 ⟨g,cap,cur,U,hj,hge⟩ hg
 have hC:∀j u,cs[j]?=some u->w.cell? ((⟨g,0,none⟩:Addr).add j)=some u:=E.cells (g:=g) U;exact⟨_,_,(run_append_grow (P:=P) w t ty e i z h.u hi Z ⟨g,0,none⟩ n cap cs (by rw[O];exact E.1) hC a m c news (by rw[O];exact J) V S oa (growslice_fits S (by rw[ha];exact hc))),new cap S _ U,stp _,λb I=>fin b I,Ql E (h9 _)⟩
theorem Qkh {e bys:Nat}[h:Sl P t e sz bys z]{s:xd}{base:Nat}{v:O9}(E:w.ownsRow base e sz v n cs)(H:ev f s=v)
  {a:Addr} {m c:Nat}  (I:ev f y=.slice (some a) m c) (J:news.length=m*sz)  (O:At L ↑w a news) (S:∀u∈news,u.oneCell'=true)
  (T:n+m<=1099511627776) (V:base<=↑w)
  (hK:∀v' w',w'.ownsRow base e sz v' (n+m) (cs++news)->xj (ob v) w w'->(∀b∈ob v',b∈ob v\/↑w<=b)->w'.ownsRow base e sz v n cs->K (QT f d v') w') (Y:bys<=128:=by decide):
  XO P ⟨d,.call ⟨.builtin .append,#[s,y],#[t,t]⟩,ty,pS,af,gd⟩ f w K:=by
 obtain⟨v',w',Z,h2,h3,h4,h5⟩:=zL (P:=P) (t:=t) (ty:=ty) E J O.cells S T Y V (c:=c);have ha:(execOp (ev f) ⟨d,.call ⟨.builtin .append,#[s,y],#[t,t]⟩,ty,pS,af,gd⟩).run P w=.ok (.value v') w':=by
  simp[execOp,resolve,invoke,builtin,H,I,Z]
 exact xv ha (hK v' w' h2 h3 h4 h5)
end
section
variable {pS:String}{C:xH}{pl:xD}{i0:Nat}
theorem QtV {g:α->LV}{x:xd}{e bys:Nat}[Sl P t e sz bys z](H:Za ops i0=⟨d,.indexAddr t x y,ty,pS,af,gd⟩)(O:∀x,(g x).length=sz){es:List α}{v:O9}{I:O8}{k:IntKind}
  (h:∀w',C w'->Zk L ↑w' v es.length sz (es.flatMap g)) (S:C I) (T:ev f x=v) (V:ev f y=.int k i) (hi:i<es.length)
  (hK:∀a,(∀w',C w'->At L ↑w' a (g es[i]))->XP P ops C K pl (QT f d (.pointer (some a))) w) (Y:Z4 ops f (Za ops i0)=true:=by rfl):
  XP P ops C K ((i0,true)::pl) f w:=by
 obtain⟨a,cap,E,_⟩:=Zk.at (h I S) hi;refine Lg.p (λw'=>by rw[H];exact Xn (T.I E) V oa oa) ?_ Y;rw[H];refine hK _ λw' Z=>?_;obtain⟨a',cap',ha,J⟩:=Zk.at (h w' Z) hi;rw[ha]at E;cases E
 rw[Xo g sz O es i hi]at J;simpa using J
end
theorem Qs8 (b:Bool):b=true\/b=false:=by cases b;exact .inr U;exact .inl U
structure FV where
 v:O9
 f:Fw
abbrev Yk (p:FV):LV:=[p.v,sS p.f.s]
theorem Qcc (p:FV):(Yk p).length=2:=rfl
structure WdM (wB:O8)(vL:O9)(es:List FV)(w:O8):Prop where
 st:sW wB w
 l:w.ownsRow ↑wB 411 2 vL es.length (es.flatMap Yk)
 each:∀p∈es,QG (ob vL) ↑w p.v p.f.u
theorem WdM.J {wB w w':O8}{vL:O9}{es:List FV}(h:WdM wB vL es w)(E:sW w w'):WdM wB vL es w':=⟨h.st.I E,Ql h.l E,λp H=>(h.each p H).J E⟩
theorem WdM.add {wB:O8}{vL vL':O9}{es:List FV}{p:FV}(h:WdM wB vL es w)(I:xj (ob vL) w w')(O:w'.ownsRow ↑wB 411 2 vL' (es.length+1) (es.flatMap Yk++Yk p))(J:∀b∈ob vL',b∈ob vL\/↑w<=b)(S:QG (ob vL) ↑w p.v p.f.u):WdM wB vL' (es++[p]) w':=by
 refine⟨h.st.G I (λb H=>.inr (Qg h.l b H).1),by rw[Ln,LC];simpa using O,λq E=>?_⟩;rcases Lh.1 E with E|E
 .exact(h.each q E).grow I (λb H=>H) J
 simp only[oJ]at E;subst E;exact S.grow I (λb H=>H) J
theorem Qk8 {es:List FV}(h:i<es.length):(es.map (·.f)).getD i zt=(es[i]'h).f:=by simp[oQ,h]
theorem QnI (E:Zo a)(s:Int):(Z2 a.ed s).length<=32:=by
 have H:(Z2 a.ed s).Pairwise λx y:Ed=>x.1<y.1\/(x.1=y.1/\x.2.1<y.2.1):=List.Pairwise.sublist Na E.edi;have hi:Yp ((Z2 a.ed s).map λe=>e.2.1):=by
  unfold Yp;rw[MC];refine List.Pairwise.imp_of_mem (λ{x y} hx I S=>?_) H;have e1:=(ZY hx).2;have e2:=(ZY I).2;omega
 have:=Ja _ 0 32 hi (λv J=>by
  obtain⟨e,O,rfl⟩:=Ly.1 J;exact E.al _ (E.ed e (ZY O).1).2.2.1)
 rw[Lj]at this;omega
def Qjg (a:QU)(most:Nat)(mk:Bool):Option (List (LI)):=if a.st=0 then some []else(wds a most).map λL=>(L.filter λf=>!mk || decide (f.s∈a.mr)).map (·.u)
def Qtg (o:Option (List (LI)))(r:O9)(H:xI):Prop:=(o=none/\r=.tuple #[ZD,sS 3])\/∃l v ps,o=some l/\r=.tuple #[v,sS 0]/\Kj [] H v ps/\ps.map (·.2)=l
theorem QiV (h:ZE [] ↑w va vm ve a)(mq:Jt a=0)(ho:Zo a)(most:Nat)(q3:most<=4096)(mk:Bool):
  QZ sV 195 [.agg #[va,sS a.st,vm,ve],sS most,.bool mk] w λr w'=>sW w w'/\Qtg (Qjg a most mk) r ↑w':=by
 have q4:=ho.st0;have q5:=ho.st1;refine Zt func195 ?_;refine Qc<|Zg [va,sS a.st,vm,ve] λb3 w1 g3 za g5=>x Qh<|Qb<|Qd<|Qc<|QV g5 U U<|Qx<|(XS (h.J g3)).S ?_;rintro r2 w2 ⟨g7,g8⟩;rw[mq]at g7;subst g7;have O:=g3.I g8;refine Qb<|Qj<|Zu U U<|xe<|Zl rfl<|Qe<|Qd<|Qj<|xb (YA U U) (λg9=>O3 (show(most:Int)<0 from g9) oa) (λg9=>?_);refine Qa<|Qa<|x (ZX U U)<|QB U<|xe<|QY rfl (λka=>O3 (show(most:Int) > 4096 from ka) oa) (λka=>?_);refine Qe ?_;have hP:=g5.J g8;refine Qd<|Qc<|Qm U hP U U<|x (QW U U)<|xe<|QY rfl (λhQ=>?_) (λhQ=>?_)
 .refine Qc<|x Qh<|Qb<|Qi ⟨[ZD,sS 0],oB,O,.inr ⟨[],ZD,[],by unfold Qjg;rw[O1 hQ],rfl,⟨Zk.nil _ _ _,λp H=>by cases H⟩,rfl⟩⟩
 have ms:0<a.st:=by have zb:¬a.st=0:=hQ;omega
 have hW:Qjg a most mk=(wds a most).map λL=>(L.filter λf=>!mk || decide (f.s∈a.mr)).map (·.u):=by unfold Qjg;rw[O0 oa]
 refine Zd (wds a most) λR hR=>?_;rw[hR]at hW;refine Qe<|Qc<|x (Qv La)<|Qo<|Zb [Yk ⟨nS,zt⟩] λkb w3 mt mu mv=>Qb ?_;have mw:WdM w2 (sL kb 1 1) [⟨nS,zt⟩] w3:=by
  refine⟨mt,mv.own (n:=1) U oa mu,λp H=>?_⟩;simp only[oJ]at H;subst H;exact Zk.nil _ _ _
 have my:∀e∈a.ed,0<=e.1/\e.1<=1099511627776:=λe he=>ov (ho.ed e he)
 refine QX (α:=O9×List FV) [(6,7),(9,10),(12,12),(32,77)] (λz=>[(9,z.1)]) (λz w'=>WdM w2 z.1 z.2 w'/\R=some (z.2.map (·.f))/\z.2.length<=1024) om ?_ ?_
 .refine Qc<|Qb<|Q2 (α:=Nat×O9×List FV) [(6,7),(9,10),(12,12),(32,77)] (λz=>[(9,z.2.1),(10,sS z.1)])
   (λz w'=>z.1<=1025/\WdM w2 z.2.1 z.2.2 w'/\WdI a most z.1 (z.2.2.map (·.f))/\wdL a most (1025 - z.1) z.1 (z.2.2.map (·.f))=R) (λz=>1025 - z.1) (0,sL kb 1 1,[⟨nS,zt⟩]) oB
   ⟨Lp _,mw,Qsi ms most,hR⟩ ?_
  rintro⟨i,vL,es⟩ g4 w4 ⟨mz,hh,h6,I⟩;simp only[]at mz hh h6 I;have hS:=h6.mx;have m2:=h6.le;rw[Lj]at hS m2;have h0:Zk [] ↑w4 vL es.length 2 (es.flatMap Yk):=QC hh.l oa (λb _=>oe);refine Qd<|Qj<|Qa<|QE h0 U<|Ye U U<|xe<|ZI U (λhU=>?_) (λhU=>?_)
  .refine Qt ?_;have m3:¬i<(es.map (·.f)).length:=by rw[Lj];have m4:¬(i:Int)<(es.length:Int):=hU;omega
   refine⟨(vL,es),Lb,hh,?_,hS⟩;rw[<-I];generalize 1025 - i=f;cases f with
   | zero=>rfl
   | succ f=>rw[wdL,O0 m3]
  have hi:i<es.length:=by have m4:(i:Int)<(es.length:Int):=hU;omega
  rw[show 1025 - i=(1025 - (i+1))+1 by omega,wdL,O1 (by rw[Lj];exact hi),Qk8 hi]at I;have kc:=hh.each _ (Lm hi);have hV:=h6.rx _ (LK (f:=λq:FV=>q.f) (Lm hi));have hX:=λhl hm=>h6.O ho (by rw[Lj];exact hi) hl hm;rw[Qk8 hi]at hX;refine Zd (es[i]'hi) λei hH=>?_;rw[hH]at I kc hV hX;have ke:=hh.st;refine Qe<|Qd<|Qn<|Qd<|Qj<|Qa<|xp (g:=Yk) (i:=i) Qcc h0 U U hi λzv kf=>?_;rw[hH]at kf;refine x (Zp U)<|x (Qy (kf.fld 0 _ U) U)<|QE (kc.up (L':=[]) (λb E=>by cases E)) rfl<|Qa<|x (QW rfl rfl)<|xe<|QY U (λhY=>?_) (λhY=>?_)
  .refine Qt ?_;have hI:ei.f.u.length=most:=by have m5:(ei.f.u.length:Int)=(most:Int):=hY;omega
   rw[O1 hI]at I;exact⟨(vL,es),Lb,hh,I.symm,hS⟩
  have hI:ei.f.u.length≠most:=by have m5:¬(ei.f.u.length:Int)=(most:Int):=hY;omega
  rw[O0 hI]at I;have hZ:=hX hI;refine Qe ?_;have m6:ZE (ob vL) ↑w4 va vm ve a:=((h.J O).up (L':=ob vL) (λb E=>.inr (Qg hh.l b E).1)).J ke;have m7:=QnI ho ei.f.s;have hout:=QbN (va:=va) (vm:=vm) (st:=a.st) (m6.ed.J (xj.X [] w4)) ho.eds my ei.f.s hV.2.1 oa;refine Zd (Z2 a.ed ei.f.s) λos kg=>?_;rw[kg]at m7 hout;have m8:wdR a ei.f=os.map (wdN ei.f):=by unfold wdR;rw[kg]
  rw[m8]at I hZ;refine Qd<|Qd<|ZH [] [oE 0,oE 1,oE 2,oE 3,oE 4,oE 5,oE 8,oF 6,oE 7]<|pq (λ_ S=>ZN ((hP.J ke).J S) U U)<|p QA<|p QA<|Lg.pig (g:=Yk) (i:=i) U Qcc h0 U U hi λz1 kh=>?_;rw[hH]at kh;refine p (λ_=>Zp U)<|pq (λ_ S=>Qy ((kh.fld 1 _ U).J S) U)<|p QA<|pk<|xg<|hout.S ?_;rintro ro w5 ⟨m9,ki⟩;have kj:=(xj.X [] w4).I m9;refine⟨kj,?_⟩;refine p (λ_=>Xr ki U)<|pe ?_;refine Zd (es.map (·.f)++os.map (wdN ei.f)) λL1 kk=>?_;rw[kk]at I hZ;refine Q2 (α:=Nat×O9×List FV) [(9,9),(12,12),(54,74)] (λz=>[(9,z.2.1),(54,sS z.1)])
   (λz w'=>z.1<=os.length/\WdM w2 z.2.1 z.2.2 w'/\zW (ob z.2.1) ↑w' ro os/\z.2.2.length=es.length+z.1/\(∃h:i<z.2.2.length,z.2.2[i]'h=ei)/\z.2.2.map (·.f)++(os.drop z.1).map (wdN ei.f)=L1) (λz=>os.length - z.1) (0,vL,es) oB
   ⟨Lp _,(hh.J kj),ki,U,⟨hi,hH⟩,kk⟩ ?_
  rintro⟨k,vL2,fs⟩ g6 w6 ⟨hk,hq,ga,pa,kn,hj⟩;simp only[]at hk hq ga pa kn hj;refine Zi U U (λgb=>?_) (λgb=>?_)
  .refine Qt ?_;have gc:os.length<=k:=by have hJ:¬(k:Int)<(os.length:Int):=gb;omega
   rw[Lx gc,M7,LT]at hj;have pc:Zk [] ↑w6 vL2 fs.length 2 (fs.flatMap Yk):=QC hq.l oa (λb _=>oe);have z2:L1.length=fs.length:=by rw[<-hj,Lj]
   refine Qj<|QE pc U<|x (ZX U U)<|xe<|QY U (λgg=>?_) (λgg=>?_)
   .have hK:1024<L1.length:=by have pd:(fs.length:Int) > 1024:=gg;omega
    rw[O1 hK]at I;refine Qc<|x Qh<|Qb<|Qi ⟨[ZD,sS 3],oB,O.I hq.st,.inl ⟨by rw[hW,<-I];rfl,U⟩⟩
   have hK:¬1024<L1.length:=by have pd:¬(fs.length:Int) > 1024:=gg;omega
   rw[O0 hK,<-hj]at I;have ko:=hZ hK;rw[<-hj]at ko;refine Qe<|Qq<|Qa<|QH U U<|Qb<|⟨(i+1,vL2,fs),og,oB,og,hq,ko,I⟩
  have T:k<os.length:=by have hJ:(k:Int)<(os.length:Int):=gb;omega
  rw[Zz T,LO]at hj;refine Zd (os[k]'T) λd hd=>?_;rw[hd]at hj;refine Qe<|Exists.elim kn λgh gi=>?_;have kq:=hq.each _ (Lm gh);rw[gi]at kq;refine QX (α:=O9×O9) [(9,9),(12,12),(56,73)] (λz=>[(9,z.1)]) (λz w'=>WdM w2 z.1 (fs++[⟨z.2,wdN ei.f d⟩]) w'/\zW (ob z.1) ↑w' ro os) om ?_ ?_
  .refine Qn<|Qc<|xie (i:=k) ga U U T λz3 hJ=>?_;rw[hd]at hJ;refine x (Qu hJ U U)<|QL [sS 0,sS 0,sS 0] λb12 w7 pf pg ph=>QJ (Qz d) ph oC λJ pj kr=>xe ?_;have gj:sW w6 J:=pf.Q pj pg;have h7:=hq.J gj;have kt:=ga.J gj;have pm:=kq.J gj;have ku:=pm.up (L':=[]) (λb E=>by cases E);have h2:sW J { J with drawn:=J.drawn+1 }:=xj.X [] J
   have z5:=h2.size;have kv:=hV.2.2.2.2;have Y:∀w',sW J w'->xj (ob vL2) J w'/\w'.ownsRow ↑w2 411 2 vL2 fs.length (fs.flatMap Yk):=λw' hs=>⟨hs.S oe,Ql h7.l hs⟩;have kw:b12∉ob vL2:=λE=>ov (Q3 hq.l b12 E)
   refine Qpv (λw'=>xj (ob vL2) J w'/\w'.ownsRow ↑w2 411 2 vL2 fs.length (fs.flatMap Yk)) (.f2 [oE 0,oE 1,oE 2,oE 3,oE 4,oE 5,oE 7,oE 8,oE 11,oE 12] 6 9 (.pl [oF 9,oF 10,oE 13,oF 14,oF 15,oE 16]) (.pl [oF 6,oF 10,oE 13,oF 14,oF 15,oE 16])) mixed om od (Y _ h2) ?_;refine u2<|p QA<|p QA<|p QA<|QtV (g:=Yk) (i:=i) (L:=[]) U Qcc (λw' S=>QC S.2 oa (λb _=>oe)) (Y _ h2) rfl rfl gh λa61 kx=>?_;rw[gi]at kx;refine p (λ_=>Zp U)<|pq (λw' S=>Qy ((kx w' S).fld 0 _ U) U)<|p (QF U)<|pq (λ_ S=>Qk (kr.O S.1 kw) U U)<|p (QF U)<|pq (λ_ S=>Qk (kr.O S.1 kw) U U)<|pe ⟨?_,?_⟩
   .refine ue<|xg<|(ZU (ku.J h2)).S ?_;rintro vk w9 ⟨h8,h9⟩;have h3:=h2.I h8;have pn:=h8.size;have po:=Qg h9;refine⟨Y _ h3,?_⟩;refine uP<|pk<|Zb [[sS d.2.1]] λbl pp hr hbl gk=>?_;have hA:=h3.I hr;have pu:=hr.size;refine⟨Y _ hA,?_⟩;refine pk<|Q9 (news:=[sS d.2.1]) (L:=[]) (Ql h9 hr) U U U (gk.at oe) oq oa oa λV gl gm gn pw=>?_;have hB:sW J gl:=hA.G gn (λb E=>.inr (ov (po b E).1));have ht:=Qp.snoc (Zv gm (show ↑J<=_ by omega));refine⟨Y _ hB,?_⟩;have go:=(Qp.ints (L:=[]) ht (by simp;omega) oe).one;have gp:=(Qp.ints (L:=[]) ht (by simp;omega) oe).cells;refine p (λ_=>Qv ⟨gp,U,La⟩)<|pk<|Zb [Yk ⟨V,wdN ei.f d⟩] λbm gq O pz hC=>?_;have ha:=hB.I O;refine⟨Y _ ha,?_⟩;have hv:=h7.J ha;have gr:=hv.st.size;refine pk<|Qkh (news:=Yk ⟨V,wdN ei.f d⟩) (L:=[]) (m:=1) hv.l U U U (hC.at oe) (by intro u hu;simp only[oM,oL,or_false]at hu;rcases hu with rfl|rfl;exact go;rfl) oa gr λvz p0 gs hw hD gt=>⟨⟨(ha.S oe).V hw,gt⟩,p ZL<|pe ?_⟩
    have gu:QG (ob vL2) ↑gq V (wdN ei.f d).u:=Qp.ints (Ql ht O) (by show(ei.f.u++[d.2.1]).length<=_;rw[Ln,LG];omega) (λb E=>Q3 h7.l b E);exact⟨(vz,V),Lb,hv.add hw gs hD gu,(kt.J ha).grow hw (λb E=>E) hD⟩
   refine ue<|Zb [[sS d.2.1]] λbl w9 h8 hbl gk=>?_;have h3:=h2.I h8;have pn:=h8.size;refine⟨Y _ h3,?_⟩;refine uP<|pk<|xg<|(ZU (ku.J h3)).S ?_;rintro vk pp ⟨hr,h9⟩;have hA:=h3.I hr;have pu:=hr.size;refine⟨Y _ hA,?_⟩;refine pk<|Q9 (news:=[sS d.2.1]) (L:=[]) h9 U U U ((gk.J hr).at oe) oq oa oa λV gl gm gn pw=>?_;have hB:sW J gl:=hA.G gn (λb E=>.inr (ov ((Qg h9) b E).1));have ht:=Qp.snoc (Zv gm (show ↑J<=_ by omega));refine⟨Y _ hB,?_⟩;have go:=(Qp.ints (L:=[]) ht (by simp;omega) oe).one;have gp:=(Qp.ints (L:=[]) ht (by simp;omega) oe).cells;refine p (λ_=>Qv ⟨gp,U,La⟩)<|pk<|Zb [Yk ⟨V,wdN ei.f d⟩] λbm gq O pz hC=>?_;have ha:=hB.I O;refine⟨Y _ ha,?_⟩;have hv:=h7.J ha;have gr:=hv.st.size;refine pk<|Qkh (news:=Yk ⟨V,wdN ei.f d⟩) (L:=[]) (m:=1) hv.l U U U (hC.at oe) (by intro u hu;simp only[oM,oL,or_false]at hu;rcases hu with rfl|rfl;exact go;rfl) oa gr λvz p0 gs hw hD gt=>⟨⟨(ha.S oe).V hw,gt⟩,p ZL<|pe ?_⟩
   have gu:QG (ob vL2) ↑gq V (wdN ei.f d).u:=Qp.ints (Ql ht O) (by show(ei.f.u++[d.2.1]).length<=_;rw[Ln,LG];omega) (λb E=>Q3 h7.l b E);exact⟨(vz,V),Lb,hv.add hw gs hD gu,(kt.J ha).grow hw (λb E=>E) hD⟩
  rintro⟨vz,V⟩ g14 w14 ⟨kz,k0⟩;simp only[]at kz k0;refine Qq<|QH U U<|Qa<|xe ?_;exact⟨(k+1,vz,fs++[⟨V,wdN ei.f d⟩]),og,oB,T,kz,k0,by simp;omega,⟨by simp;omega,by simp only[];rw[Ml gh];exact gi⟩,by simp only[];rw[Ls,LD];exact hj⟩
 rintro⟨vL,es⟩ g20 hE ⟨h4,k4,p1⟩;simp only[]at h4 k4 p1;rw[k4]at hW;have p2:=O.I h4.st;have h0:Zk [] ↑hE vL es.length 2 (es.flatMap Yk):=QC h4.l oa (λb _=>oe);refine Qc<|Qb<|Qd<|Qj<|QE h0 U<|Qa<|xe<|Q2 (α:=Nat×O9×List TV) [(13,13),(15,15),(80,100)] (λz=>[(13,z.2.1),(80,sS z.1)])
  (λz w'=>z.1<=es.length/\sW hE w'/\j8 63 ↑hE w' z.2.1 z.2.2/\z.2.2.map (·.2)=((es.take z.1).filter λp=>!mk || decide (p.f.s∈a.mr)).map (λp=>p.f.u)/\∀p∈z.2.2,QG (ob z.2.1) ↑w' p.1 p.2) (λz=>es.length - z.1) (0,nS,[]) oB
  ⟨Lp _,xj.Y _ _,QI _ _ _ _,U,λp H=>by cases H⟩ ?_
 rintro⟨k,vT,ps⟩ g21 k5 ⟨hk,hg,hT,hF,hL⟩;simp only[]at hk hg hT hF hL;have hpl:ps.length<=k:=by
  have h1:=O2 oR hF;rw[Lj,Lj]at h1;rw[h1];refine LJ (Mt _ _) ?_;rw[LB];omega
 refine Zi rfl U (λgv=>?_) (λgv=>?_)
 .refine Qt ?_;have gc:es.length<=k:=by have hM:¬(k:Int)<(es.length:Int):=gv;omega
  refine Qj<|x Qh<|Qb<|Qi ⟨[vT,sS 0],oB,p2.I hg,.inr ⟨_,vT,ps,hW,U,⟨QC hT oa (λb _=>oe),λp H=>(hL p H).up (λb E=>by cases E)⟩,?_⟩⟩;rw[hF,Lt gc];show _=((es.map (λp:FV=>p.f)).filter λf=>!mk || decide (f.s∈a.mr)).map (λx:Fw=>x.u);rw[List.filter_map,L4];rfl
 have T:k<es.length:=by have hM:(k:Int)<(es.length:Int):=gv;omega
 have k6:=h4.each _ (Lm T);refine Zd (es[k]'T) λek gw=>?_;rw[gw]at k6;have k7:QG (ob vT) ↑k5 ek.v ek.f.u:=((k6.up (L':=[]) (λb E=>by cases E)).up (λb E=>.inr (Qg hT b E).1)).J hg;refine Qe<|Qd<|Qn<|Qc<|xp (g:=Yk) (i:=k) Qcc (h0.J hg) U U T λa82 hM=>?_;rw[gw]at hM;refine x (Qu hM U U)<|QL [nS,sS 0] λb15 w22 p3 p4 p5=>QJ (Yk ek) p5 ⟨k7.one,U,La⟩ λhn p6 k8=>xe ?_;have Z:sW k5 hn:=p3.Q p6 p4;have hC:=((hP.J h4.st).J hg).J Z;have p7:QG [] ↑hn vm a.mr:=(((h.J O).mr.J h4.st).J hg).J Z;have hG:(es.take (k+1)).filter (λp=>!mk || decide (p.f.s∈a.mr))=(es.take k).filter (λp=>!mk || decide (p.f.s∈a.mr))++(if(!mk || decide (ek.f.s∈a.mr))=true then[ek]else[]):=by
  rw[Lo T,Mc,gw,Mg,Nv]
 refine QX (α:=Bool) [(84,92)] (λz=>[(92,.bool z)]) (λz w'=>w'=hn/\z=(!mk || decide (ek.f.s∈a.mr))) om ?_ ?_
 .refine Or.elim (Qs8 mk) (λgx=>?_) (λgx=>?_)
  .subst gx;refine Qq<|Qa<|x (Zr U)<|Qa<|Qm U hC U U<|Qm U k8 U U<|Qx<|(Yn p7 ek.f.s).S ?_;rintro r91 hn ⟨rfl,rfl⟩;refine QB U<|xe ?_;exact⟨_,Lb,U,U⟩
  subst gx;refine Qq<|Qa<|x (Zr U)<|Qa<|Zm<|Z6<|QB U<|xe ?_;exact⟨true,Lb,U,U⟩
 rintro z g23 hn ⟨rfl,hz⟩;rw[<-hz]at hG;refine Q6 rfl (λgy=>?_) (λgy=>?_)
 rotate_left
 .rw[O0 (by rw[gy];decide),LT]at hG;refine Qe<|Qq<|QH U U<|Qa<|xe ?_;exact⟨(k+1,vT,ps),og,oB,T,hg.I Z,Ql hT Z,by simp only[];rw[hG];exact hF,λp H=>(hL p H).J Z⟩
 rw[O1 gy]at hG;have k9:=k7.J Z;have ma:=Ql hT Z;have kv:=k9.le;refine Qq<|Qa<|Qo<|QbP λb94 w24 hN mf p8=>QN U<|x (Qk (k8.J hN) U U) <|
  Qo<|QbQ (base:=↑hn) (p8.own (n:=0) (sz:=1) U oa mf) U (k9.J hN) U (UW ek.f.u) oa (ov hN.size) λh5 gz p9 qc hn25=>?_
 have qf:sW hn gz:=hN.Q qc mf;have ql:Qp 3 ↑hn gz h5 ek.f.u:=by simpa[tup]using p9
 have g0:QG (ob vT) ↑gz h5 ek.f.u:=Qp.ints ql kv (λb E=>Q3 ma b E);refine Qo<|XQ (us:=[[h5]]) U U oh oe ⟨g0.cells,rfl,La⟩ λb98 w26 mg hb98 qo=>?_;have hO:=qf.I mg;have qr:=Ql ma hO;refine Qo<|Q9 (news:=[h5]) (L:=[]) qr U U U (qo.at oe) (λy hy=>by simp only[oJ]at hy;subst hy;exact g0.one) oa (oz hg.size Z.size hO.size) λmh mj q0 g2 mo=>Qb ?_;have q1:sW hE mj:=((hg.I Z).I hO).G g2 (λb E=>.inr (Qg hT b E).1);have q2:j8 63 ↑hE mj mh (ps++[(h5,ek.f.u)]):=j8.snoc q0;refine Qq<|QH U U<|Qa<|xe<|⟨(k+1,mh,ps++[(h5,ek.f.u)]),og,oB,T,q1,q2,?_,λp H=>?_⟩
 .simp only[];rw[Ls,hF,hG,Ls];rfl
 rcases Lh.1 H with H|H
 .exact(((hL p H).J Z).J hO).grow g2 (λb E=>E) mo
 simp only[oJ]at H;subst H;exact(g0.J mg).grow g2 (λb E=>E) mo
theorem UR {v:O9}{l':LI}(h:QG L ↑w v l)(E:QG L' ↑w v' l'):QZ sV 198 [v,v'] w λr w'=>r=.bool (decide (l=l'))/\sW w w':=by
 have hh:=h.le;refine Zt func198 ?_;refine Qc<|Qb<|Qd<|Qj<|QE h U<|Qa<|QE E U<|Zu U U<|xe<|QY rfl (λY=>?_) (λY=>?_)
 .refine Qc<|Qb<|Qi ⟨[.bool false],Lb,?_,xj.Y _ _⟩;have I:l≠l':=λe=>Y (by rw[e]);simp[tup,I]
 refine Qe<|Qd<|Qc<|Qb<|Q2 (α:=Nat) [(4,5),(11,25)] (λk=>[(5,sS k)]) (λk w'=>sW w w'/\k<=l.length/\(l=l'↔l.drop k=l'.drop k)) (λk=>l.length - k) 0 Lb ⟨xj.Y _ _,Lp _,oe⟩ ?_;rintro k g w1 ⟨H,hk,J⟩
 replace h:=h.J H
 replace E:=E.J H;refine Qd<|Qj<|Qa<|QE h U<|Ye U U<|xe<|ZI rfl (λha=>?_) (λha=>?_)
 .refine Qt<|Qc<|Qb<|Qi ⟨[.bool true],Lb,?_,H⟩;rw[Lx oa,Lx oa]at J;simp[tup,J]
 have O:k<l.length:=oa
 have S:k<l'.length:=oa
 refine Qe<|Qd<|Qn<|Qd<|ZH [] (Xf 0 9 [])<|p QA<|p QA<|pii (i:=k) U h U U O λhi hb=>pq (λ_ T=>Qy (hb.J T) U)<|p QA<|p QA<|pii (i:=k) U E U U S λhj hg=>pq (λ_ T=>Qy (hg.J T) U)<|p (λ_=>YS U U)<|pe ?_;have Z:=H.I (xj.X [] w1);refine QY rfl (λV=>?_) (λV=>?_)
 .refine Qc<|Qb<|Qi ⟨[.bool false],Lb,?_,Z⟩;have I:l≠l':=λe=>V (by simp[e]);simp[tup,I]
 refine Qe<|Qq<|Qa<|QH U U<|Qb<|⟨k+1,oa,Lb,Z,oa,?_⟩;have he:l[k]'O=l'[k]'S:=Lq.1 V;rw[J,Zz O,Zz S,he];exact⟨λh=>(List.cons.inj h).2,λh=>by rw[h]⟩
theorem Qmu {ua um ue:O9}(h:ZE L ↑w va vm ve a)(h':ZE L' ↑w ua um ue a):QZ sV 197 [.agg #[va,sS a.st,vm,ve],.agg #[ua,sS a.st,um,ue]] w λr w'=>r=.bool true/\sW w w':=by
 have hr:=h.ed.le;refine Zt func197 ?_;refine Qc<|Zg [va,sS a.st,vm,ve] λb2 w1 hm hs hn=>Zg [ua,sS a.st,um,ue] λb3 w2 hb ht J=>Qb ?_;have T:=hm.I hb;have O:=hn.J hb;have V:=h.J T;have Y:=h'.J T;refine Qd<|QX (α:=Unit) [(6,35)] (λ_=>[(35,.bool false)]) (λ_ w'=>sW w2 w') om ?_ ?_
 .refine Qq<|Qm U O U U<|Qm U J U U<|Qx<|(UR V.al Y.al).S ?_;rintro r3 w3 ⟨he,E⟩;rw[O4 rfl]at he;subst he;refine x (Zr U)<|Qa<|Qm U (O.J E) U U<|Qm U (J.J E) U U<|xb (YS U U) (λhg=>O3 U hg) (λhg=>?_);refine QB U<|Qa<|Qm U (O.J E) U U<|Qm U (J.J E) U U<|Qx<|(UR (V.mr.J E) (Y.mr.J E)).S ?_;rintro r4 w4 ⟨hh,H⟩;rw[O4 rfl]at hh;subst hh;have S:=E.I H;refine x (Zr U)<|QB U<|Qa<|Qm U (O.J S) U U<|QE (V.ed.J S) U<|Qm U (J.J S) U U<|QE (Y.ed.J S) U<|xb (YS U U) (λhi=>O3 U hi) (λhi=>?_);refine QB U<|xe ?_;exact⟨(),Lb,S⟩
 rintro⟨⟩ g w3 E;have Z:=T.I E;refine Zl rfl<|Qe<|Qd<|Qc<|Qb<|Q2 (α:=Nat) [(4,5),(36,53)] (λk=>[(5,sS k)]) (λk w'=>sW w3 w'/\k<=a.ed.length) (λk=>a.ed.length - k) 0 Lb ⟨xj.Y _ _,Lp _⟩ ?_;rintro k g w4 ⟨H,hk⟩;have h4:=(h.J Z).ed.J H;have hj:=(O.J E).J H;refine Qd<|Qj<|Qm U hj U U<|QE h4 U<|Ye U U<|xe<|ZI rfl (λho=>?_) (λho=>?_)
 .refine Qt<|Qc<|Qb<|Qi ⟨[.bool true],Lb,U,Z.I H⟩
 have ha:k<a.ed.length:=oa
 refine Qe<|Qd<|Qn<|Qd<|ZH [] (Xf 0 11 [])<|p (QF U)<|pq (λ_ I=>Qk (hj.J I) U U)<|p QA<|pie (i:=k) U h4 U U ha λhv hp=>pq (λ_ I=>Qu (hp.J I) U U)<|p (QF U)<|pq (λ_ I=>Qk (((J.J E).J H).J I) U U)<|p QA <|
  pie (i:=k) U ((h'.J Z).ed.J H) U U ha λhw hq=>pq (λ_ I=>Qu (hq.J I) U U)<|p (λ_=>UU U U)<|pe ?_
 refine QY rfl (λhl=>O3 U hl) (λhl=>?_);refine Qe<|Qq<|Qa<|QH U U<|Qb<|⟨k+1,oa,Lb,H.I (xj.X _ _),ha⟩
theorem QbI {pS:String}[h:S3 P t]{x:xd}{p q:Ed}(hx:ev f x=sT (Qz p))(H:ev f y=sT (Qz q)):
  sR P f w d (.binOp .eql t x y E) ty pS af gd (.bool (decide (p=q))):=by
 unfold sR
 have I:(eqGuard .eql t x y (sT (Qz p)) (sT (Qz q))).run P w=.ok () w:=by simp[eqGuard,h.g]
 simp only[execOp,hx,H,Sem.run_bind,I,Result.andThen_ok,binOp,QbE,Sem.run_pure]
def ex3:QU:=⟨[0,2],3,[2],[(0,0,2),(0,2,0),(2,2,0)]⟩
def cn3:QU:=⟨[0,2],2,[1],[(0,0,1),(0,2,0),(1,2,0)]⟩
def se3:List Ed:=[(0,1,0),(0,3,1),(1,1,0)]
theorem Qlr:Jt ex3=0:=od
theorem QoI:Yg ex3=cn3:=od
theorem Qcu:Jt cn3=0:=od
theorem Qpd:Qnu cn3 0 [0,0]=0:=od
theorem Qpe:flw cn3 0 [0,0]=(1,1):=od
theorem Qpc:Qjg cn3 2 true=some [[0],[2,0]]:=od
theorem Qqx:Jt ⟨[1,3],2,[1],se3⟩=0:=od
theorem Qqw:(Yg ⟨[1,3],2,[1],se3⟩).ed=se3:=od
theorem QrF:rlE cn3 [3,1]=[(0,3,1),(0,1,0),(1,1,0)]:=od
theorem QtL:([3,1]:LI).mergeSort (λx y=>decide (x<=y))=[1,3]:=by
 refine List.Perm.eq_of_pairwise (le:=λx y:Int=>x<=y) (λa b _ _ E H=>oa) ?_ oh ((NI _ _).I (List.Perm.swap _ _ _));refine(List.pairwise_mergeSort (le:=λx y:Int=>decide (x<=y)) (λa b c E H=>by simp at *;omega) (λa b=>by simp;omega) [3,1]).imp λh=>oA h
theorem Qqp (l':List Ed)(E:l'.Perm (rlE cn3 [3,1]))(S:l'.Pairwise QdT):l'=se3:=by
 rw[QrF]at E;refine List.Perm.eq_of_pairwise (le:=QdT) (λa b T H I J=>?_) S (by unfold se3 QdT;decide) (E.I (List.Perm.swap _ _ _));have O:=E.mem_iff.1 T;simp only[oM,oL,or_false]at O;simp only[se3,oM,oL,or_false]at H;unfold QdT at I J;rcases O with rfl|rfl|rfl <;> rcases H with rfl|rfl|rfl <;> first|rfl|(exfalso;simp only[]at I J;omega)
theorem QdL (w:O8):QZ sV 193 [] w λr w'=>sW w w'/\Xi ↑w ↑w' r ex3:=by
 refine Zt func193 ?_;refine Qc<|QL XD λb0 Y J Z O=>xe ?_;refine Qc<|Qo<|Zb [[sS 0],[sS 2]] λb1 w2 S hg ha=>Qo<|Zb [[sS 2]] λb2 w3 E hh hb =>
  x (Qv ⟨rfl,U,U,La⟩)<|x (Qv ⟨U,U,U,La⟩)<|x (Qv ⟨U,U,U,La⟩)<|Qo<|XQ (us:=[Qz (0,0,2),Qz (0,2,0),Qz (2,2,0)]) U U oh (by exact(by decide:3*3<=1000000)) ⟨U,U,U,U,U,U,La⟩ λH w4 I hi hc=>?_
 have T:=(S.I E).I I;have hj:=S.size;have hl:=E.size;have hF:Xi ↑Y ↑w4 (.agg #[sL b1 2 2,sS 3,sL b2 1 1,sL H 3 3]) ex3 :=
  Qbm (a:=ex3) ((ha.J E).J I) (hb.J I) hc oa oa oa U U U oh oh oh
 refine x (Qv ⟨U,U,U,U,La⟩)<|QJ [sL b1 2 2,sS 3,sL b2 1 1,sL H 3 3] (O.J T) oD λw5 V he=>xe ?_;refine Qi ⟨[.agg #[sL b1 2 2,sS 3,sL b2 1 1,sL H 3 3]],⟨YO he,La⟩,(J.I T).Q V Z,?_⟩;exact(XY hF O.lt V).S J.size
theorem Qij (w:O8):QZ sV 121 [] w λr w'=>r=.bool true/\sW w w':=by
 refine Zt func121 ?_;refine Qc<|Qb<|Qc<|Qx<|(QdL w).S ?_;rintro r1 w1 ⟨hG,va,vm,ve,rfl,hH⟩;refine Qx<|(QcD (hH [] oe)).S ?_;rintro r2 w2 ⟨hI,v2,rfl,_,hJ⟩;have he:=hJ Qlr;rw[QoI]at he;obtain⟨ca,cm,ce,rfl,hK⟩:=he;have hC:=hK [] oe;refine Qa<|QS U U<|QS U U<|QL XD λb1 w3 hM hN hO=>QJ [ca,sS 2,cm,ce] hO ⟨hC.al.one,U,hC.mr.one,hC.ed.one,La⟩ λw4 hP O=>Qb ?_;have hg:sW w2 w4:=hM.Q hP hN;have S:=hC.J hg;refine Qc<|QV O U U<|Qo<|Zb [[sS 0],[sS 0]] λg3 w5 hh g4 hQ=>Qx<|(QrV (u:=[0,0]) (S.J hh) (hQ.arr (L:=[]) oe (n:=2) (cap:=2) (sz:=1) rfl oa (Lu _)) 0).S ?_;rintro r6 w6 ⟨hS,hi⟩;rw[O0 (by rw[Qpd];decide),Qpe]at hi;subst hi;refine Qa<|QS U U<|QS U U<|QS U U<|x Qh<|x Qh<|Qb ?_;have V:=hh.I hS;refine Qc<|QV (O.J V) U U<|Qx<|(QiV (S.J V) Qcu ((Z0 _).1 Qcu) 2 oh true).S ?_;rintro r7 w7 ⟨hT,hj⟩;rw[Qpc]at hj;have hU:∃J H I,r7=.tuple #[J,sS 0]/\Kj [] ↑w7 J [H,I]/\H.2=[0]/\I.2=[2,0]:=by
  rcases hj with⟨h,_⟩|⟨l,J,ps,hl,h2,Y,E⟩
  .cases h
  cases hl
  match ps,Y,E with
  | [H,I],Y,E =>
   simp only[oX,OD,List.cons.injEq,and_true]at E;exact⟨J,H,I,h2,Y,E.1,E.2⟩
  | [],_,E=>simp at E
  | [_],_,E=>simp at E
  | _::_::_::_,_,E=>simp at E
 obtain⟨J,H,I,rfl,hV,hW,hX⟩:=hU;refine Qa<|QS U U<|QS U U<|x Qh<|Qb ?_;have Z:=V.I hT;refine Qc<|QV (O.J Z) U U<|Qo<|Zb [[sS 3],[sS 1]] λg5 w8 hm g6 hY =>
  Qx<|(QfV (to:=[3,1]) ((S.J Z).J hm) Qcu ((Z0 _).1 Qcu) (hY.arr (L:=[]) oe (n:=2) (cap:=2) (sz:=1) rfl oa (Lu _)) rfl oh oh QtL Qqp ((Z0 _).1 Qqx)).S ?_
 rintro r9 w9 ⟨hZ,v9,rfl,ga⟩;obtain⟨ra,rm,re,rfl,gb⟩:=ga;have hR:=gb [] oe;have gc:zW [] ↑w9 re se3:=by
  have h:=hR.ed;rw[show(Yg ⟨[1,3],cn3.st,cn3.mr,se3⟩).ed=se3 from Qqw]at h;exact h
 refine Qa<|QS U U<|QS U U<|QL XD λb8 g7 gg gh gi=>Qo<|ZA (us:=[ra,sS (Yg ⟨[1,3],cn3.st,cn3.mr,se3⟩).st,rm,re]) gi U U U U ⟨hR.al.one,U,hR.mr.one,hR.ed.one,La⟩ λhn gj gk=>Qb ?_;have ho:sW w9 hn:=gg.Q gj gh;have hp:=(hm.I hZ).I ho;have ha:=Z.I hp;refine QX (α:=Unit) [(0,0),(33,98)] (λz=>[(0,.bool true)]) (λz w'=>sW hn w') om ?_ ?_
 .refine Qq<|Qa<|xb (QW U U) (λhq=>?_) (λhq=>O3 Qlr hq);refine Qa<|QV (O.J ha) U U<|Qo<|Zb [[sS 0],[sS 2]] λgl g8 gm g9 gn=>Qo<|Zb [[sS 1]] λgo ka hr kb gp =>
   x (Qv ⟨U,U,U,La⟩)<|x (Qv ⟨U,U,U,La⟩)<|x (Qv ⟨U,U,U,La⟩)<|Qo<|XQ (us:=[Qz (0,0,1),Qz (0,2,0),Qz (1,2,0)]) U U oh (by exact(by decide:3*3<=1000000)) ⟨U,U,U,U,U,U,La⟩ λgq gr hb kc gs=>?_
  have hs:=(gm.I hr).I hb;have hL:ZE [] ↑gr (sL gl 2 2) (sL go 1 1) (sL gq 3 3) cn3 :=
   ⟨((gn.J hr).J hb).arr (L:=[]) oe (n:=2) (cap:=2) (sz:=1) rfl oa (OX _),(gp.J hb).arr (L:=[]) oe (n:=1) (cap:=1) (sz:=1) rfl oa (OX _),gs.arr (L:=[]) oe (n:=3) (cap:=3) (sz:=3) rfl oa (Lu _)⟩
  refine x (Qv ⟨U,U,U,U,La⟩)<|Qx<|(Qmu (a:=cn3) ((S.J ha).J hs) hL).S ?_;rintro ke kf ⟨rfl,gt⟩;have ht:=hs.I gt;have T:=(hV.J hp).J ht;refine QB U<|Qa<|Qa<|xb (QW U U) (λhv=>?_) (λhv=>O3 U hv);refine QB U<|Qa<|Qa<|xb (QW U U) (λhw=>?_) (λhw=>O3 U hw);refine QB U<|Qa<|Qa<|xb (QW U U) (λhy=>?_) (λhy=>O3 U hy);refine QB U<|Qa<|Qa<|xb (QW U U) (λhz=>?_) (λhz=>O3 U hz);refine QB U<|Qa<|Qa<|QE T.arr U<|xb (QW U U) (λh0=>?_) (λh0=>O3 U h0);refine QB U<|Qa<|Qa<|xp (g:=YT) (i:=0) Uu T.arr U U oe λkg gu=>x (Qy gu rfl)<|Qo<|Zb [[sS 0]] λkh ki h1 kj gv =>
   Qx<|(UR (l:=H.2) (l':=[0]) ((T.each H oe).J h1) (gv.arr (L:=[]) oe (n:=1) (cap:=1) (sz:=1) rfl oa (Lu _))).S ?_
  rintro kk kn ⟨h5,gw⟩;rw[hW,O4 rfl]at h5;subst h5;have h6:=h1.I gw;have h7:=T.J h6;refine QB U<|Qa<|Qa<|xp (g:=YT) (i:=1) Uu h7.arr U U oe λko gx=>x (Qy gx rfl)<|Qo<|Zb [[sS 2],[sS 0]] λkq kr h8 kt gy =>
   Qx<|(UR (l:=I.2) (l':=[2,0]) ((h7.each I oe).J h8) (gy.arr (L:=[]) oe (n:=2) (cap:=2) (sz:=1) rfl oa (Lu _))).S ?_
  rintro ku kv ⟨h9,gz⟩;rw[hX,O4 rfl]at h9;subst h9;have hc:=(ht.I h6).I (h8.I gz);have hA:=gk.J hc;have hB:=(gc.J ho).J hc;refine QB U<|Qa<|Qa<|xb (QW U U) (λhD=>?_) (λhD=>O3 U hD);refine QB U<|Qa<|Qm U hA U U<|QE hB U<|xb (QW U U) (λhE=>?_) (λhE=>O3 U hE);refine QB U<|Qa<|Qm U hA U U<|xie (i:=1) hB U U oh λkw g0=>x (Qu g0 U U)<|x (Qv ⟨U,U,U,La⟩)<|xb (QbI (p:=(0,3,1)) (q:=(0,3,1)) U U) (λhF=>?_) (λhF=>O3 U hF);refine QB U<|Qb<|⟨(),Lb,hc⟩
 rintro z g kx g2;exact Qi ⟨[.bool true],Lb,U,(((hG.I hI).I hg).I ha).I g2⟩
theorem Qi1 (w:O8):QZ sV 61 [] w λr w'=>r=.bool true/\sW w w':=by
 refine Zt func61 ?_;refine Qc<|Qb<|Qc<|Qx<|(Qij w).S ?_;rintro r1 H ⟨rfl,E⟩;refine Qb<|Qi ⟨[.bool true],Lb,U,E⟩
theorem CL.cel_rq {c:CL}{k:Zy}(h:c.Z=k)(v:O9)(qs:List IV):(CL.mk c.ve c.vc v c.vx c.vk c.ev c.co qs c.ex c.cs).Z={ k with rq:=qs.map IV.it }:=by rw[<-h];rfl
theorem CL.cel_ex {c:CL}{k:Zy}(h:c.Z=k)(v:O9)(qs:List XV):(CL.mk c.ve c.vc c.vr v c.vk c.ev c.co c.rq qs c.cs).Z={ k with ex:=qs.map XV.x }:=by rw[<-h];rfl
theorem CL.cel_cs {c:CL}{k:Zy}(h:c.Z=k)(v:O9)(qs:List KV):(CL.mk c.ve c.vc c.vr c.vx v c.ev c.co c.rq c.ex qs).Z={ k with cs:=qs.map KV.k }:=by rw[<-h];rfl
theorem QeR {c:CL}{k:Zy}(h:ZG [] ↑w c)(O:c.Z=k)(H:Yo k=0)(S:Kb w 4096):
  QZ sV 53 [c.val] w λr w'=>sW w w'/\∃va vm ve v1 v2 v3 E,r=.tuple #[.agg #[va,sS (spc k).a.st,vm,ve,v1,v2,v3,E],sS 0]/\Zj [va,sS (spc k).a.st,vm,ve,v1,v2,v3,E]/\Zk [] ↑w' E (spc k).fb.length 4 ((spc k).fb.flatMap ZV):=by
 refine(UG h S).S ?_;rintro r w' ⟨T,v,rfl,⟨us,V,_,I⟩,J⟩;rw[O]at J ⊢;obtain⟨va,vm,ve,v1,v2,v3,E,cos,rqs,rfl,_,_,hA⟩:=J H;have Y:us=[va,sS (spc k).a.st,vm,ve,v1,v2,v3,E]:=by
  simpa using(O2 (λv=>match v with|Value.agg cs=>cs.toList|_=>[]) V).symm
 rw[Y]at I;exact⟨T,va,vm,ve,v1,v2,v3,E,by rw[H],I,(hA [] oe).2.2.2.2⟩
theorem QrG {c:CL}{k:Zy}(h:ZG [] ↑w c)(E:c.Z=k)(H:Yo k=0)(I:(spc k).a.st<4096)(J:Qhl k=true)(O:Kb w 4096):
  QZ sV 119 [c.val] w λr w'=>sW w w'/\∃xa xm xe vb,r=.tuple #[.agg #[xa,sS ((spc k).a.st+1),xm,xe],vb,sS 0]/\Zj [xa,xm,xe]/\Qp 3 ↑w w' vb (cmB k):=by
 subst E;exact Qey h O H I J
abbrev QqN:LV:=[nS,sS 0,nS,nS,nS,nS,nS,nS]
theorem Qtf {P:Prop}{a b:Int}(e:a=b)(h:¬a=b):P:=O3 e h
theorem Qfi (ha:Kb w 4096):QZ sV 60 [] w λr w'=>r=.bool true/\sW w w':=by
 refine Zt func60 ?_;refine Qc<|Qb<|Qc<|Qx<|(Kz 1 oh w).S ?_;rintro r1 w1 ⟨hG,c1,rfl,gz,g0⟩;refine Qx<|(Kz 2 oh w1).S ?_;rintro r2 w2 ⟨h0,c2,rfl,g2,g3⟩;refine Qx<|(Kz 2 oh w2).S ?_;rintro r3 w3 ⟨hc,c3,rfl,g4,g5⟩;have hH:=((g0 [] oe).J h0).J hc;have hI:=(g3 [] oe).J hc;have hJ:=g5 [] oe;refine QL Z3 λb1 w4 g6 p1 hK=>QL Z3 λb2 w5 hL p2 hM=>QL Z3 λE w6 h1 p3 O=>?_;have p4:=hK.lt;have p5:=hM.lt;have p6:=O.lt;refine QJ c1.cells ((hK.J hL).J h1) hH.ones λw7 he g7=>QJ c2.cells ((hM.J h1).O he ol) hI.ones λw8 hg g8 =>
  QJ c3.cells ((O.O he ol).O hg ol) hJ.ones λw9 hh g9=>xe ?_
 have hi:sW w3 w9:=((((g6.I hL).I h1).Q he oa).Q hg oa).Q hh oa;have O:∀b∈[b1,b2,E],↑w3<=b/\b<w6.heap.size:=λb I=>by
  simp only[oM,oL,or_false]at I;rcases I with rfl|rfl|rfl <;> omega
 have m1:∀b∈[b1],b∈[b1,b2,E]:=oe
 have m2:∀b∈[b2],b∈[b1,b2,E]:=oe
 have m3:∀b∈[E],b∈[b1,b2,E]:=oe
 have p7:w6.heap.size<=w9.heap.size:=by have:=he.size;have:=hg.size;have:=hh.size;omega
 have nB:∀b,↑w9<=b->b∉[b1,b2,E]:=λb I hm=>ov (O b hm).2
 refine Qc<|Qo<|Zb [[sS 1]] λhj p8 hN p9 ka=>Qo<|Zb [[sS 0]] λhl qc h2 qf kb=>x (Qv ⟨U,U,U,La⟩) <|
  x (Q8 [(0,[.string UX]),(1,[sL hj 1 1,sS 1,sL hl 1 1,nS])] ⟨U,U,U,U,La⟩) <|
  Qo<|Zb [[.string UX,sL hj 1 1,sS 1,sL hl 1 1,nS]] λh3 kc h4 ql ke=>?_
 have hn:=(hN.I h2).I h4;refine QN rfl<|Qo<|Qw (j:=2) (u:=sL h3 1 1) (((g7.O hg ol).O hh ol).J hn) U U oe rfl λh5 ho kf=>xe ?_;have qo:=hN.size;have qr:=h2.size;have Y:xj [b1,b2,E] w9 h5:=hn.any.V (ho.S m1);have kg:ZG [b1,b2,E] ↑h5 (CL.mk c1.ve c1.vc (sL h3 1 1) c1.vx c1.vk c1.ev c1.co [⟨UX,⟨sL hj 1 1,sL hl 1 1,nS,Qca.a⟩⟩] c1.ex c1.cs):=by
  have H:=((hH.up (L':=[b1,b2,E]) (λb I=>.inr (O b I).1)).J hi).st Y;refine⟨H.ev,H.co,XX.st (w:=kc) ⟨ke.arr (nB _ oa) (n:=1) (cap:=1) (sz:=5) U oh (Lu _),λq J=>?_,λq J=>?_⟩ (ho.S m1),H.ex,H.cs⟩
  .rw[Lc.1 J];exact⟨((ka.J h2).J h4).arr (nB _ oa) (n:=1) (cap:=1) (sz:=1) U oh (Lu _),(kb.J h4).arr (nB _ oa) (n:=1) (cap:=1) (sz:=1) U oh (Lu _),Zk.nil _ _ 3⟩
  rw[Lc.1 J];exact Xx oh
 refine Qc<|x (Qv ⟨U,U,La⟩)<|x (Qv ⟨U,U,La⟩)<|Qo<|Zb [QD (0,1),QD (1,1)] λh6 q0 hO q1 kh=>x (Qv ⟨U,U,La⟩) <|
  Qo<|Zb [[.string Y7,sL h6 2 2]] λh7 ki hP q2 kj=>?_
 have hp:=hO.I hP;refine QN rfl<|Qo<|Qw (j:=3) (u:=sL h7 1 1) (((g8.O hh ol).O (hn.any.V ho) ol).J hp) U U oe rfl λh8 hr kk=>xe ?_;have q3:=hO.size;have Z:xj [b1,b2,E] h5 h8:=hp.any.V (hr.S m2);have q4:=Z.size;have q5:=Y.size;have kn:ZG [b1,b2,E] ↑h8 (CL.mk c2.ve c2.vc c2.vr (sL h7 1 1) c2.vk c2.ev c2.co c2.rq [⟨Y7,sL h6 2 2,[(0,1),(1,1)]⟩] c2.cs):=by
  have H:=((hI.up (L':=[b1,b2,E]) (λb I=>.inr (O b I).1)).J hi).st (Y.V Z);refine⟨H.ev,H.co,H.rq,jT.st (w:=ki) ⟨kj.arr (nB _ oa) (n:=1) (cap:=1) (sz:=2) U oh (Lu _),λq J=>?_,λq J=>?_⟩ (hr.S m2),H.cs⟩
  .rw[Lc.1 J];exact(kh.J hP).arr (nB _ oa) (n:=2) (cap:=2) (sz:=2) U oh (Lu _)
  rw[Lc.1 J];exact Xx oh
 refine Qc<|x (Qv ⟨U,U,La⟩)<|x (Qv ⟨U,U,La⟩)<|Qo<|Zb [QD (0,1),QD (1,1)] λhA za hQ zb ko=>x (Qv ⟨U,U,U,La⟩) <|
  Qo<|Zb [[.string QbT,sL hA 2 2,sS 1]] λhB kq hR zv kr=>?_
 have hs:=hQ.I hR;refine QN rfl<|Qo<|Qw (j:=4) (u:=sL hB 1 1) (((g9.O (hn.any.V ho) ol).O (hp.any.V hr) ol).J hs) U U oe rfl λT ht kt=>xe ?_;have z1:=hQ.size;have hv:xj [b1,b2,E] h8 T:=hs.any.V (ht.S m3);have ku:ZG [b1,b2,E] ↑T (CL.mk c3.ve c3.vc c3.vr c3.vx (sL hB 1 1) c3.ev c3.co c3.rq c3.ex [⟨QbT,sL hA 2 2,[(0,1),(1,1)],1⟩]):=by
  have H:=((hJ.up (L':=[b1,b2,E]) (λb I=>.inr (O b I).1)).J hi).st ((Y.V Z).V hv);refine⟨H.ev,H.co,H.rq,H.ex,jK.st (w:=kq) ⟨kr.arr (nB _ oa) (n:=1) (cap:=1) (sz:=3) U oh (Lu _),λq J=>?_,λq J=>?_⟩ (ht.S m3)⟩
  .rw[Lc.1 J];exact(ko.J hR).arr (nB _ oa) (n:=2) (cap:=2) (sz:=2) U oh (Lu _)
  rw[Lc.1 J];exact Xx oh
 have hS:ZG [] ↑T _:=((kg.st Z).st hv).up (L':=[]) oe;have kv:ZG [] ↑T _:=(kn.st hv).up (L':=[]) oe;have kw:ZG [] ↑T _:=ku.up (L':=[]) oe;have hT:=(kf.O (hp.any.V hr) ol).O (hs.any.V ht) ol;have hU:sW w T:=(((hG.I h0).I hc).I hi).G ((Y.V Z).V hv) (λb I=>.inr (oy (O b I).1 ((hG.I h0).I hc).size));have hV:=CL.cel_rq gz (sL h3 1 1) [⟨UX,⟨sL hj 1 1,sL hl 1 1,nS,Qca.a⟩⟩];refine Qc<|QV hT U U<|Qx<|(QeR (k:=k1C) hS hV QsN (ha.J hU)).S ?_;rintro z2 kx ⟨kz,sa,sm,se,s1,s2,s3,s4,rfl,k0,hW⟩;rw[QsM]at hW;refine Qa<|QS U U<|QS U U<|QL QqN λb4 z3 k4 k5 k6=>QJ [sa,sS (spc k1C).a.st,sm,se,s1,s2,s3,s4] k6 k0 λk7 k8 k9=>Qb ?_;have hX:sW kx k7:=k4.Q k8 k5;have hw:=kz.I hX;have hY:=hU.I hw;refine Qc<|QV (hT.J hw) U U<|Qx<|(QrG (k:=k1C) (hS.J hw) hV QsN (by rw[QpW];decide) Qq3 (ha.J hY)).S ?_;rintro z5 hZ ⟨ma,xa,xm,mf,vb,rfl,hC,ga⟩;rw[Qq4]at ga;have mg:QG [] ↑hZ vb [2]:=Qp.ints (L:=[]) ga oe oe;refine Qa<|QS U U<|QS U U<|QS U U<|QL XD λb6 w24 mh mj mo=>QJ [xa,sS ((spc k1C).a.st+1),xm,mf] mo ⟨hC.1,U,hC.2.1,hC.2.2.1,La⟩ λmq ms mt=>x Qh<|Qb ?_;have gb:sW hZ mq:=mh.Q ms mj;have hy:=ma.I gb;have hD:=hw.I hy;have gc:=hY.I hy;refine Qc<|x (ZN ((kk.O (hs.any.V ht) ol).J hD) U U)<|Qx<|(QeR (k:=k2C) (kv.J hD) (CL.cel_ex g2 (sL h7 1 1) [⟨Y7,sL h6 2 2,[(0,1),(1,1)]⟩]) Qt2 (ha.J gc)).S ?_;rintro r26 mu ⟨mv,ta,tm,te,t1,t2,t3,t4,rfl,mw,gg⟩;rw[QsK]at gg;refine Qa<|QS U U<|QS U U<|QL QqN λb9 w27 my mz m4=>QJ [ta,sS (spc k2C).a.st,tm,te,t1,t2,t3,t4] m4 mw λm5 m6 m7=>Qb ?_;have gh:sW mu m5:=my.Q m6 mz;have V:=mv.I gh;have gi:=hD.I V;have gj:=gc.I V;refine Qc<|QV (kt.J gi) U U<|Qx<|(QeR (k:=k3C) (kw.J gi) (CL.cel_cs g4 (sL hB 1 1) [⟨QbT,sL hA 2 2,[(0,1),(1,1)],1⟩]) Qt1 (ha.J gj)).S ?_;rintro r29 m8 ⟨m9,ua,um,ue,u1,u2,u3,u4,rfl,pa,gk⟩;rw[QsI]at gk;refine Qa<|QS U U<|QS U U<|QL QqN λb11 w30 pc pd pf=>QJ [ua,sS (spc k3C).a.st,um,ue,u1,u2,u3,u4] pf pa λgl pg ph=>Qb ?_;have gm:sW m8 gl:=pc.Q pg pd;have S:=m9.I gm;have gn:=m7.J S;refine QX (α:=Unit) [(0,0),(55,105)] (λz=>[(0,.bool true)]) (λz w'=>sW gl w') om ?_ ?_
 .refine Qq<|Qa<|xb (QW U U) (λgo=>?_) (λgo=>O3 U go);refine Qa<|Qa<|xb (QW U U) (λgp=>?_) (λgp=>O3 U gp);refine QB U<|Qa<|Qa<|xb (QW U U) (λgq=>?_) (λgq=>O3 U gq);refine QB U<|Qa<|Qa<|xb (QW U U) (λgr=>?_) (λgr=>O3 U gr);refine QB U<|Qa<|QN U<|x (Qk (((k9.J hy).J V).J S) U U)<|x (Qv ⟨U,U,U,U,La⟩)<|Qo<|Zb [ZV ⟨1,3,0,1⟩] λb73 w32 gs hb73 pj =>
   Qx<|(qY (l:=[⟨1,3,0,1⟩]) ((((((hW.J hX).J hy).J V).J S)).J gs) (pj.arr (L:=[]) oe (n:=1) (cap:=1) (sz:=4) rfl oh (Lu _))).S ?_
  rintro r74 w33 ⟨rfl,pm⟩;have hE:=gs.I pm;refine QB U<|Qa<|QN U<|x (Qk (((mt.J V).J S).J hE) U U)<|xb (QW U U) (λgt=>?_) (λgt=>Qtf (by rw[QpW];rfl) gt);refine QB U<|Qa<|Qa<|Qo<|Zb [[sS 2]] λb83 w34 gu hb83 pn =>
   Qx<|(JR (l:=[2]) (l':=[2]) (((((mg.J gb).J V).J S).J hE).J gu) (pn.arr (L:=[]) oe (n:=1) (cap:=1) (sz:=1) rfl oa (Lu _))).S ?_
  rintro r84 w35 ⟨gv,po⟩;rw[O4 rfl]at gv;subst gv;have hz:=hE.I (gu.I po);refine QB U<|Qa<|QN U<|Qm U (gn.J hz) U U<|xb (QW U U) (λgw=>?_) (λgw=>Qtf QsJ gw);refine QB U<|Qa<|Qm U (gn.J hz) U U<|x (Qv ⟨U,U,U,U,La⟩)<|Qo<|Zb [ZV ⟨3,1,0,-1⟩] λb96 w36 gx hb96 pp =>
   Qx<|(qY (l:=[⟨3,1,0,-1⟩]) ((((gg.J gh).J S).J hz).J gx) (pp.arr (L:=[]) oe (n:=1) (cap:=1) (sz:=4) rfl oh (Lu _))).S ?_
  rintro r97 w37 ⟨rfl,pu⟩;have hF:=hz.I (gx.I pu);refine QB U<|Qa<|Qm U (ph.J hF) U U<|x (Qv ⟨U,U,U,U,La⟩)<|Qo<|Zb [ZV ⟨3,2,0,-1⟩] λb103 w38 gy hb103 pw =>
   Qx<|(qY (l:=[⟨3,2,0,-1⟩]) (((gk.J gm).J hF).J gy) (pw.arr (L:=[]) oe (n:=1) (cap:=1) (sz:=4) rfl oh (Lu _))).S ?_
  rintro r104 w39 ⟨rfl,pz⟩;refine QB U<|Qb<|⟨(),Lb,hF.I (gy.I pz)⟩
 rintro z g w40 p0;exact Qi ⟨[.bool true],Lb,U,(gj.I S).I p0⟩
section
variable {s:QU}{l:List UL}
end
section
variable {s:QU}{l:List UL}
end
def xU (n:Nat)(d:LI):Prop:=∀x,x<n->0<=xo d x->xo d x<=x/\xo d (xo d x).toNat=xo d x
section
variable {s:QU}{l:List UL}
end
section
variable {p s:QU}{pairs:List (LI)}
end
section
variable {s:QU}{l:List UL}
end
section
variable {s:QU}{l:List UL}{nm:LI}
end
section
variable {s:QU}{l:List UL}
end
theorem Qbc (E:Zo a):Zo (Yg a):=by
 have Z:=E.st0;have h1:=E.st1;by_cases V:a.st=0
 .unfold Yg;rw[O1 V];exact⟨E.al,E.ali,oe,oe,oe,oe,oe,oe⟩
 obtain⟨ord,h⟩:=QiN E oa;have hl:ord.length<=a.st.toNat:=xO _ _ h.nd (λx hx=>ov (h.bd x hx));refine⟨by rw[h.al];exact E.al,by rw[h.al];exact E.ali,by rw[h.st];omega,by rw[h.st];omega,λs I=>?_,?_,λe O=>?_,?_⟩
 .rw[h.mk2]at I;simp only[OB,OL,OC]at I;obtain⟨i,⟨hi,_⟩,rfl⟩:=I;rw[h.st];omega
 .rw[h.mk2];unfold Yp;rw[MC];refine List.Pairwise.sublist Na ?_;exact(Nt (s:=0) (n:=ord.length)).imp (λh=>oa)
 .rw[h.ed]at O;obtain⟨j,J,hd⟩:=Mr.1 O;rw[ML]at J;unfold cnR at hd;obtain⟨d,S,rfl⟩:=Ly.1 hd;have:=MR (h.cl j oa d S);rw[h.st,h.al];unfold cnF;exact⟨og,og,((E.ed d (ZY S).1).2.2.1),og,og⟩
 rw[h.ed];have key:∀n,((oS 0 n).flatMap (cnR a ord)).Pairwise λx y:Ed=>x.1<y.1\/(x.1=y.1/\x.2.1<y.2.1):=by
  intro n;induction n with
  | zero=>simp
  | succ n ih =>
   rw[MI,LC,LS,Mj];refine⟨ih,?_,λx hx y H=>?_⟩
   .simp only[Od,OS,Ol];unfold cnR;rw[MC];have Y:(Z2 a.ed (Yb ord n)).Pairwise λx y:Ed=>x.1<y.1\/(x.1=y.1/\x.2.1<y.2.1):=List.Pairwise.sublist Na E.edi;refine List.Pairwise.imp_of_mem (λ{x y} hx H ha=>?_) Y;have e1:=(ZY hx).2;have e2:=(ZY H).2;right;exact⟨U,by show x.2.1<y.2.1;omega⟩
   obtain⟨j,J,T⟩:=Mr.1 hx;rw[ML]at J;simp only[Od,OS,Ol]at H;unfold cnR at T H;obtain⟨d,_,rfl⟩:=Ly.1 T;obtain⟨d',_,rfl⟩:=Ly.1 H;left;show(j:Int)<(n:Int);omega
 exact key _
theorem Qh7 (E:Zo a):Zo ⟨a.al,0,[],[]⟩:=
 ⟨E.al,E.ali,Ng _,(by decide:(0:Int)<=4096),(λs H=>by cases H),List.Pairwise.nil,(λe I=>by cases I),List.Pairwise.nil⟩
theorem QhI (E:Zo a)(lf:Lf):Zo (QeL a lf):=by
 unfold QeL;split
 .exact Qh7 E
 exact Qbc (Qav E lf)
theorem QjB (h:suE c=0):Zo (suA c):=QhI (Qbv h).1 _
theorem Qkr {m:Vw}(h:msE c m=0):Zo (msA c m):=by
 have E:msE c m=if qR c m≠0 then qR c m else suE (Jr c m):=rfl
 rw[E]at h;split at h
 .rename_i H;exact O3 h H
 exact QjB h
theorem Qds {c:Zy}:∀{l:List Vw},msL c l=0->∀m∈l,msE c m=0
 | [],_,m,E=>by cases E
 | x::l,h,m,E=>by
  rw[Qdt]at h;by_cases H:msE c x≠0
  .rw[O1 H]at h;exact O3 h H
  rw[O0 H]at h;rcases Lk.1 E with rfl|E
  .exact Lq.1 H
  exact Qds h m E
theorem QcU (h:UO c=0):∀a∈zG c,Zo a:=by
 rw[QjA]at h;by_cases H:Zf c≠0
 .rw[O1 H]at h;exact O3 h H
 rw[O0 H]at h;have J:zG c=(xq c).map (msA c)++(rem c).map (coA c):=rfl;intro a E;rw[J]at E;rcases Lh.1 E with E|E
 .obtain⟨m,O,rfl⟩:=Ly.1 E;exact Qkr (Qds h m O)
 obtain⟨i,hi,rfl⟩:=Ly.1 E;have S:=yK i hi;have I:i.toNat<c.co.length:=oa
 have e:coA c i=(c.co[i.toNat]'I).a:=by unfold coA;simp[oQ,I]
 rw[e];exact(ZO (Lq.1 H)).co _ (Lm I)
theorem Qsl (c:Zy):jU c=if UO c≠0 then UO c else Ug (zG c):=rfl
theorem QfZ (E:Kb w 4096):QZ sV 21 [] w λr w'=>r=.bool true/\sW w w':=by
 refine Zt func21 ?_;refine Qc<|Qb<|QX (α:=Unit) [(0,4)] (λz=>[(0,.bool true)]) (λz w'=>sW w w') om ?_ ?_
 .refine Qq<|Qx<|(Qfi E).S ?_;rintro r1 H ⟨rfl,I⟩;refine Qa<|Qx<|(Qi1 H).S ?_;rintro r2 S ⟨rfl,J⟩;refine QB U<|Qb<|⟨(),Lb,I.I J⟩
 rintro z g T O;exact Qi ⟨[.bool true],Lb,U,O⟩
def Y6:ByteArray:=⟨#[98,117,102,102,101,114]⟩
def U4:Y0:=⟨Y6,⟨[1,2],2,[0,1],[(0,1,1),(1,2,0)]⟩⟩
def Qb6:Zy:={ mzC 3 with rq:=[U4],ex:=[Qlp 1 2] }
theorem Qq2:Zf Qb6=0:=od
theorem QbX {α:Type}(q:α->Bool)(x:Int):∀(l:List α) (i:Nat),x∈ixs q i l↔∃k,∃h:k<l.length,x=((i+k:Nat):Int)/\q (l[k]'h)=true
 | [],i=>by simp[ixs]
 | y::l,i=>by
  rw[ixs];have ih:=QbX q x l (i+1);constructor
  .intro h;by_cases J:q y=true
   .rw[O1 J]at h;rcases Lk.1 h with h|h
    .exact⟨0,oe,by rw[h];simp,J⟩
    obtain⟨k,hk,E,H⟩:=ih.1 h;exact⟨k+1,by simp;omega,by rw[E];congr 1;omega,H⟩
   rw[O0 J]at h;obtain⟨k,hk,E,H⟩:=ih.1 h;exact⟨k+1,by simp;omega,by rw[E];congr 1;omega,H⟩
  rintro⟨k,hk,E,H⟩;cases k with
  | zero =>
   have I:q y=true:=H;rw[O1 I];exact Lk.2 (.inl (by rw[E];simp))
  | succ k =>
   have I:=ih.2 ⟨k,oA hk,by rw[E];congr 1;omega,H⟩;split
   .exact Ll _ I
   exact I
theorem Qb8 {α:Type}(q:α->Bool):∀(l:List α) (i:Nat),Yp (ixs q i l)
 | [],_=>List.Pairwise.nil
 | y::l,i=>by
  rw[ixs];split
  .refine L6.2 ⟨λx hx=>?_,Qb8 q l (i+1)⟩;obtain⟨k,_,E,_⟩:=(QbX q x l (i+1)).1 hx;omega
  exact Qb8 q l (i+1)
open Go.ChangeShapes Go.WideShapes Go.RowKit
section
variable {H:Type}{enc:TypeId×O9->H}
theorem Qa8 (I:laidOutB P=true){W W':O8}(hS:sW W W'){sp:Nat->Bool}:∀{ts:List TypeId}{vs:LV}{ds:List (DataW H)}{ps:List MemPlace},
  (ts.all λt=>P.readableRec t && decide (t<P.types.size))=true->DataW.TrodAll enc P W 0 (λ_=>true) true ts vs ds ps->(∀x∈ps,x.block<↑W)->(∀x∈ps,sp x.block=true)->DataW.TrodAll enc P W' 0 sp true ts vs ds ps
 | [],vs,ds,ps,_,h,_,_=>by
  obtain⟨rfl,rfl,rfl⟩:=trodAll_nil h;exact trodAll_mk0
 | t::ts,vs,ds,ps,E,h,J,hsp=>by
  obtain⟨v,V,d,ds1,a,b,rfl,rfl,rfl,O,S⟩:=trodAll_cons h;simp only[Ok,oO,decide_eq_true_eq]at E;have T:Below ↑W W W':=hS.below;refine trodAll_cons_mk (WideElems.Trod_stays I E.1.1 E.1.2 O (λx hx=>T.same (J x (L7 _ hx))) (λx hx=>hsp x (L7 _ hx))) ?_;exact Qa8 I hS (oA E.2) S (λx hx=>J x (MM _ hx)) (λx hx=>hsp x (MM _ hx))
theorem QkC {f:Func}{s:ChangeSpec}{apart fresh handsOn again:Bool}{W:O8}{args:Array O9}{ds gs:List (DataW H)}{before:List MemPlace}{tb:TypeId}
  (hl:laidOutB P=true) (hg:(f.params.toList.all λt=>P.readableRec t && decide (t<P.types.size))=true) (O:f.resultTypes=#[tb]) (S:P.underlying tb=some .bool) (T:s.vars=[])
  (E:s.fn H (ds++gs)={ results:=[.lit (.bool true)],args:=ds })
  (I:DataW.Whole enc P f.params.toList s.vars apart W args.toList ds gs before) (hS:sW W W'):s.post enc P f apart fresh handsOn again W args (.bool true) W':=by
 have J:=I.lt;have hh:=I;obtain⟨p,q,hA,hV,rfl,hz,hn⟩:=I;rw[T]at hV;obtain⟨rfl,rfl⟩:=trodVars_none hV;rw[LT]at *;have V:∀sp:Nat->Bool,(∀x∈p,sp x.block=true)->DataW.TrodAll enc P W' 0 sp true f.params.toList args.toList ds p:=λsp hsp=>Qa8 hl hS hg hA J hsp;have Y:∀(b:Nat) (sp:Nat->Bool) (hd:Bool),DataW.TrodAll enc P W' b sp hd f.resultTypes.toList ((Value.bool true).resultList f.resultTypes.size) [.lit (.bool true)] []:=λb sp hd=>by
  rw[O];exact trodAll_mk1 (shut_bool S true)
 have Z:Below ↑W W W':=hS.below;have hc:∀sp:Nat->Bool,DataW.TrodVars enc P W' sp s.vars ([]:List (DataW H)) []:=λsp=>by rw[T];rfl
 have hi:(s.fn H ds).results=[.lit (.bool true)]:=by rw[E]
 have hj:(s.fn H ds).args=ds:=by rw[E]
 have hm:(s.fn H ds).vars=[]:=by rw[E]
 have ho:∀(j:Nat) (t:TypeId) (r:O9),f.resultTypes[j]?=some t->((Value.bool true).resultList f.resultTypes.size)[j]?=some r->Value.okWide P W' .any 0 t r:=ok_one O U (okWide_bool_mk S true);refine⟨ds,[],p,[],p,[],hh,?_,?_,?_,?_,λ_=>⟨ho,[.lit (.bool true)]++ds,[],([]++p)++[],⟨[]++p,[],?_,?_,U,?_,?_⟩,?_⟩⟩
 .rw[LT,hi];exact Y _ _ _
 .rw[LT,hj];exact V _ (λx hx=>oA (J x hx))
 .rw[LT,hm];exact hc _
 .exact World.keptBut_mono (λ_ f=>f.elim) (Z.frame (λ_=>False))
 .exact trodAll_append (V _ (λ_ _=>U)) (Y _ _ _)
 .exact hc _
 .intro b off hp;have he:MemPlace.cell b off∈p:=by simpa using hp
  rw[Z.frozen (p:=⟨b,off,none⟩) (J _ he)];exact hz b off he
 .intro ha;have:=hn ha;simpa using this
 intro x hx _;simpa using hx
end
open Go.ChangeShapes Go.WideShapes Go.RowKit Go.Lg
theorem QfN:∀(l:LV),(∀v∈l,∃n:Nat,v=.int .u8 (n:Int)/\n<256)->∃ns:LN,l=bys ns/\ns.length=l.length/\∀n∈ns,n<256
 | [],_=>⟨[],U,U,oe⟩
 | v::l,h=>by
  obtain⟨n,rfl,H⟩:=h v Lr;obtain⟨ns,I,J,O⟩:=QfN l (λv S=>h v (Ll _ S));refine⟨n::ns,by rw[I];rfl,by simp[J],λm E=>?_⟩;rcases Lk.1 E with rfl|E
  .exact H
  exact O m E
theorem Qqf {n:Int}(h:(Lit.int .u8 n).wf=true):∃m:Nat,n=m/\m<256:=by
 simp only[Lit.wf,oO,decide_eq_true_eq]at h;rw[show IntKind.u8.min=0 from rfl,show IntKind.u8.max=255 from rfl]at h;exact⟨n.toNat,oa,oa⟩
theorem Qqo {s:TypeId×Nat}(h:w.shape? b=some s):b<w.heap.size:=by
 unfold World.shape? at h;cases E:w.heap[b]? with
 | none=>simp[E]at h
 | some o=>exact(LP.1 E).1
theorem Qou {base:Nat}{a:Addr}{e:TypeId}(h:w.has P .any base a e n):a.block<w.heap.size:=by
 obtain⟨_,_,row,cells,E,_⟩:=h;exact Qqo E
theorem Qnn {base:Nat}{t e:TypeId}{a:Addr}{c:Nat}(E:P.underlying t=some (.slice e))(h:Cell.okWide P w .any base t (.slice (some a) n c)):a.block<w.heap.size:=by
 simp only[Cell.okWide,Cell.ok,E]at h;exact Qou h.2.2
theorem Qfg {α:Type}{p:Nat->α->Prop}:∀(n:Nat),(∀i,i<n->∃e,p i e)->∃l:List α,l.length=n/\∀i (h:i<l.length),p i (l[i]'h)
 | 0,_=>⟨[],U,λi h=>by simp at h⟩
 | n+1,h=>by
  obtain⟨l,E,J⟩:=Qfg n (λi hi=>h i oa);obtain⟨e,O⟩:=h n oa;refine⟨l++[e],by simp[E],λi hi=>?_⟩;by_cases I:i<l.length
  .rw[Ml I];exact J i I
  have:i=n:=by simp at hi;omega
  subst this;rw[M8 oa];simpa[E]using O
theorem VH {α:Type}{f:α->Option O9}:∀{L:List α}{l:LV},L.mapM f=some l->l.length=L.length/\∀(i:Nat) (a:α),L[i]?=some a->f a=l[i]?
 | [],l,h=>by
  simp at h;subst h;exact⟨U,λi a h=>by simp at h⟩
 | x::L,l,h=>by
  simp only[List.mapM_cons,Option.bind_eq_bind,Option.pure_def,Option.bind_eq_some_iff]at h;obtain⟨v,E,T,I,J⟩:=h;cases J
  obtain⟨O,S⟩:=VH I;refine⟨by simp[O],λi a hi=>?_⟩;cases i with
  | zero=>simp at hi;subst hi;simpa using E
  | succ i=>simpa using S i a (oA hi)
def kT (P:xh)(k:IntKind):Nat->TypeId->Bool
 | 0,_=>false
 | m+1,t=>match P.underlying t with
  | some (.int k')=>k' == k
  | some (.array n e)=>kT P k m e && decide (0<P.cellsOf e) && decide (P.cellsOf t=n*P.cellsOf e)
  | some (.struct fs)=>(oT (P.cellsOf t)).all λj=>fs.toList.any λf=>kT P k m f.type && decide (f.offset<=j/\j<f.offset+P.cellsOf f.type)
  | _=>false
theorem Qcs {o:Nat}{c:O9}(h:cs[j]?=some c)(E:o<=j)(I:j<o+n):c∈(cs.drop o).take n:=by
 refine MA (i:=j - o) ?_;rw[L3,O1 oa,MF,show o+(j - o)=j by omega];exact h
section
variable {H:Type}{enc:TypeId×O9->H}{W:O8}{base b0:Nat}{sp:Nat->Bool}{held:Bool}
theorem VK {k:IntKind}:∀(m:Nat) {t:TypeId}{cs:LV}{fuel:Nat}{x:DataW H×List MemPlace},kT P k m t=true->DataW.trod enc P W b0 sp held fuel t cs=some x->∀c∈cs,∃n,c=.int k n/\(Lit.int k n).wf=true
 | 0,_,_,_,_,h,_,_,_=>by cases h
 | m+1,t,cs,fuel,x,h,hf,c,J=>by
  unfold kT at h;obtain⟨j,T,V⟩:=LM J;have S:cs[j]?=some c:=by rw[LE T,V]
  split at h
  .rename_i k' hu;have hk:k'=k:=by simpa using h
   subst hk;obtain⟨n,O,_,E⟩:=DataW.trod_int hu hf;rw[O]at J;exact⟨n,Lc.1 J,E⟩
  .rename_i n e hu;simp only[oO,decide_eq_true_eq]at h;obtain⟨⟨O,E⟩,h3⟩:=h;obtain⟨xs,Y,_,_,Z,ha,hx⟩:=DataW.trod_array hu hf;have hb:=Nat.div_add_mod j (P.cellsOf e);have hn:=NF j E;have hi:j / P.cellsOf e<n:=by
    refine(Nat.div_lt_iff_lt_mul E).2 ?_;omega
   have I:=hx (j / P.cellsOf e) hi;rw[LE (show j / P.cellsOf e<xs.length by omega)]at I;rw[Nat.mul_comm]at hb;exact VK m O I c (Qcs S oa oa)
  .rename_i fs hu;obtain⟨xs,Y,_,_,Z,ha,hx⟩:=DataW.trod_struct hu hf;obtain⟨f,he,E⟩:=NK.1 (My.1 h j (MQ.2 oa));simp only[oO,decide_eq_true_eq]at E;obtain⟨i,hi,hg⟩:=LM he;have hh:i<fs.size:=by simpa using hi
   have hm:fs[i]?=some f:=by rw[MG hh,<-hg];simp
   have I:=hx i f hm;rw[LE (show i<xs.length by omega)]at I;exact VK m E.1 I c (Qcs S E.2.1 E.2.2)
  cases h
theorem qa {k:IntKind}{m:Nat}{fs:Array Field}{xs:List (DataW H×List MemPlace)}{I:Nat}(T:xs.length=fs.size)
  (hx:∀(i:Nat) (f:Field),fs[i]?=some f->DataW.trod enc P W b0 sp held I f.type ((cs.drop f.offset).take (P.cellsOf f.type))=xs[i]?)  {f:Field} {c:O9} (hf:fs[i]?=some f) (hk:kT P k m f.type=true) (J:f.offset<=j) (O:j<f.offset+P.cellsOf f.type) (S:cs[j]?=some c):
  ∃n,c=.int k n/\(Lit.int k n).wf=true:=by
 have E:=hx i f hf;have hi:i<fs.size:=(LP.1 hf).1;rw[LE (show i<xs.length by omega)]at E;exact VK m hk E c (Qcs S J O)
theorem yv {c:O9}(h:∃n,c=.int .u8 n/\(Lit.int .u8 n).wf=true):∃n:Nat,c=.int .u8 (n:Int)/\n<256:=by
 obtain⟨n,rfl,E⟩:=h;obtain⟨m,rfl,I⟩:=Qqf E;exact⟨m,U,I⟩
end
theorem QsB {W:O8}{base:Nat}{ts:List TypeId}{cs:Array O9}(h:∀(i:Nat) (v:O9),cs[i]?=some v->∃u,ts[i % ts.length]?=some u/\Cell.okWide P W .any base u v)(i:Nat)(t:TypeId)(v:O9)(E:cs[i]?=some v)(I:ts[i % ts.length]?=some t):Cell.okWide P W .any base t v:=by
 obtain⟨u,hu,k⟩:=h i v E;rw[I]at hu;cases hu
 exact k
theorem Qrg {H:Type}{enc:TypeId×O9->H}{W:O8}{b0 m:Nat}{sp:Nat->Bool}{held:Bool}{fs:Array Field}{xs:List (DataW H×List MemPlace)}
  (h:∀(i:Nat) (f:Field),fs[i]?=some f->DataW.trod enc P W b0 sp held m f.type ((cs.drop f.offset).take (P.cellsOf f.type))=xs[i]?) (i:Nat) {f:Field} {o:Nat} {c:O9} (hf:fs[i]?=some f) (E:f.type=t) (I:f.offset=o) (J:P.cellsOf t=1) (O:(cs.drop o).take 1=[c]) (hi:i<xs.length):
  DataW.trod enc P W b0 sp held m t [c]=some (xs[i]'hi):=by
 have e:=h i f hf;rw[E,I,J,O]at e;rw[e];simp[hi]
theorem QnN {W:O8}{base e:Nat}{v:O9}(E:P.underlying t=some (.slice e))(h:Value.okWide P W .any base t v):∃a n c,v=.slice a n c:=okWide_slice E h
theorem Qsm {W:O8}{l:List (String×DataW Unit)}{a b:String×DataW Unit}(E:l=[a,b,("internal/strconv.uint64pow10",Lib.tabData .u64 Lib.pow10Tab)]) (h:laidMetH sV l W) (I:(l.all λx=>x.2.handleName?.isNone)=true):Tb W:=by
 rw[Go.MakeChecks.laidMetH_plain _ _ _ I,E]at h;exact Lib.tabIs_of_head (n:=20) (g:=0) od (t:=476) od od (e:=364) od od od h.tail.tail
structure PwV where
 ns:LN
 ad:Option Addr
 n:Nat
 cp:Nat
 f0:Int
 f1:Int
 f2:Int
 bd:Int
def PwV.pl (l:PwV)(rs:List X4V):PlV:=⟨l.ns,.slice l.ad l.n l.cp,rs,l.f0,l.f1,l.f2,l.bd⟩
abbrev Jg (l:PwV):LV:=bys l.ns++[.slice l.ad l.n l.cp,.int .i8 l.f0,.int .i8 l.f1,.int .i8 l.f2,.int .i8 l.bd]
structure PwA (w:O8)(l:PwV):Prop where
 n:l.ns.length=147
 b:∀n∈l.ns,n<256
 f0:i8R l.f0
 f1:i8R l.f1
 f2:i8R l.f2
 bd:i8R l.bd
 r:l.n<=4->∃rs:List X4V,rs.length=l.n/\Zk [] ↑w (.slice l.ad l.n l.cp) l.n 4 (rs.flatMap Xl)
theorem PwA.pl {w w':O8}{l:PwV}(h:PwA w l)(I:sW w w')(J:l.n<=4):∃rs,PlA [] ↑w' (l.pl rs)/\rs.length=l.n:=by
 obtain⟨rs,E,O⟩:=h.r J;exact⟨rs,⟨h.n,h.b,by show Zk _ _ _ rs.length 4 _;rw[E];exact O.J I,h.f0,h.f1,h.f2,h.bd⟩,E⟩
theorem Qsu {l:PwV}(h:l.ns.length=147):(Jg l)[147]?=some (.slice l.ad l.n l.cp):=by
 show(Jg l)[147+0]?=_;rw[Jg,MX (by rw[XW];omega),XW,h,MW];rfl
theorem QgV {c:O9}(h:∃n,c=.int .i8 n/\(Lit.int .i8 n).wf=true):∃n:Int,c=.int .i8 n/\i8R n:=by
 obtain⟨n,rfl,h⟩:=h;simp only[Lit.wf,oO,decide_eq_true_eq]at h;rw[show IntKind.i8.min=-128 from rfl,show IntKind.i8.max=127 from rfl]at h;exact⟨n,U,oa⟩
def Qp4 (P:xh)(fs:Array Field)(n:Nat):Bool:=(oT n).all λj=>fs.toList.any λf=>kT P .u8 5 f.type && decide (f.offset<=j/\j<f.offset+P.cellsOf f.type)
section
variable {H:Type}{enc:TypeId×O9->H}{W:O8}{base b0:Nat}{sp:Nat->Bool}{held:Bool}
theorem Qmc {fs:Array Field}{m:Nat}{xs:List (DataW H×List MemPlace)}(h:Qp4 P fs n=true)(I:xs.length=fs.size)
  (hx:∀(i:Nat) (f:Field),fs[i]?=some f->DataW.trod enc P W b0 sp held m f.type ((cs.drop f.offset).take (P.cellsOf f.type))=xs[i]?)  {c:O9} (J:j<n) (O:cs[j]?=some c):∃k:Nat,c=.int .u8 (k:Int)/\k<256:=by
 obtain⟨f,S,E⟩:=NK.1 (My.1 h j (MQ.2 J));simp only[oO,decide_eq_true_eq]at E;obtain⟨i,hi,T⟩:=LM S;have V:i<fs.size:=by simpa using hi
 have Y:fs[i]?=some f:=by rw[MG V,<-T];simp
 exact yv (qa I hx Y E.1 E.2.1 E.2.2 O)
theorem Qtc {t e:TypeId}{c:O9}{fuel:Nat}{x:DataW H×List MemPlace}(O:P.underlying t=some (.slice e))(he:kT P .u8 5 e=true)(hc:P.cellsOf e=4)
  (hb:Cell.okWide P W .any base t c) (hg:DataW.trod enc P W b0 sp held fuel t [c]=some x):∃a n cp,c=.slice a n cp/\(n<=12->∃u:List X4V,u.length=n/\Zk [] ↑W (.slice a n cp) n 4 (u.flatMap Xl)):=by
 rcases DataW.trod_slice O hg with⟨E,_⟩|⟨a,len,cap,elems,rest,m,_,E,_,_,hl,_,ho,hh,_,_⟩
 .simp at E;subst E;exact⟨none,0,0,U,λ_=>⟨[],U,Zk.nil _ _ _⟩⟩
 simp at E;subst E;refine⟨some a,len,cap,U,λhp=>?_⟩;have each:∀i,i<len->∃d:X4V,∀r v,(Xl d)[r]?=some v->W.cell? (a.add (i*4+r))=some v:=by
  intro i hi;have S:=hh i hi;rw[hc,LE (show i<elems.length by omega)]at S;obtain⟨cs,E,hm⟩:=MZ.1 S;obtain⟨ns,h1,h2,J⟩:=QfN cs (λv I=>yv ((VK 5 he hm) v I));unfold World.cells? at E;split at E
  .have hq:cs.length=4:=by
    simpa using(VH E).1
   refine⟨⟨ns,oa,J⟩,λr v I=>?_⟩;have T:cs[r]?=some v:=by rw[h1];exact I
   have hn:r<4:=by have:=(Me.1 T).1;omega
   have V:=(VH E).2 r r (by simp[hn]);rw[Lg.Addr.add_add,T]at V;exact V
  cases E
 obtain⟨u,Y,hu⟩:=Qfg len each;refine⟨u,Y,?_⟩;have Z:(u.flatMap Xl).length=u.length*4:=Go.Lg.YC Xl 4 yu u;refine⟨by rw[Z,Y],oa,.inr ⟨a,cap,rfl,oa,λ_ _=>oe,λ_ _=>Qnn O hb,λj v I=>?_⟩⟩;have hj:j<u.length*4:=by
  rw[<-Z];exact(Me.1 I).1
 have hi:j / 4<u.length:=oa
 have ha:j=j / 4*4+j % 4:=oa
 have J:(Xl (u[j / 4]'hi))[j % 4]?=some v:=by
  rw[<-(Xo Xl 4 yu u (j / 4) hi),L3,O1 (NF _ oa),MF,<-ha];exact I
 rw[<-JT];have:=hu (j / 4) hi (j % 4) v J;rw[<-ha]at this;exact this
theorem QiR {v:O9}{d:DataW H}{ps:List MemPlace}{tp te:Nat}{fs:Array Field}{T O S:Field}(hu:P.underlying t=some (.struct fs))(ha:(P.cellTypes P.depth t).map (λts=>(ts.length,ts[147]?))=some (152,some tp))(hc:P.cellsOf t=152)
  (g7:fs[7]?=some T) (V:fs[8]?=some O) (g9:fs[9]?=some S) (hn:T.type=tp) (o7:T.offset=147) (o8:O.offset=148) (o9:S.offset=151) (c7:P.cellsOf tp=1) (c8:P.cellsOf O.type=3) (c9:P.cellsOf S.type=1)
  (kb:Qp4 P fs 147=true) (Y:kT P .i8 5 O.type=true) (k9:kT P .i8 5 S.type=true) (ho:P.underlying tp=some (.slice te)) (hp:kT P .u8 5 te=true) (hq:P.cellsOf te=4)
  (hb:Value.okWide P W .any base t v) (h:DataW.Trod enc P W b0 sp held t v d ps):∃l:PwV,v=sT (Jg l)/\PwA W l:=by
 simp only[Value.okWide,hu]at hb;obtain⟨cs,rfl,he,ts,hr,_,hs⟩:=hb;rw[hr]at ha;have hg:=Option.some.inj ha;have ht:ts.length=152:=O2 Prod.fst hg;have hv:ts[147]?=some tp:=O2 Prod.snd hg;rw[hc]at he;obtain⟨l⟩:=cs;have hl:l.length=152:=he;obtain⟨fuel,hf⟩:=h;obtain⟨xs,m,_,_,_,I,hw⟩:=DataW.trod_struct hu hf;have E:∀(i:Nat) (f:Field),fs[i]?=some f->DataW.trod enc P W b0 sp held m f.type ((l.drop f.offset).take (P.cellsOf f.type))=xs[i]?:=hw;have h1:7<fs.size:=(LP.1 g7).1;have g0:∀c∈l.take 147,∃n:Nat,c=.int .u8 (n:Int)/\n<256:=λc hm=>by
  obtain⟨j,hj,hh⟩:=LM hm;have hy:j<147:=by simp at hj;omega
  have hz:l[j]?=some c:=by
   rw[Nj]at hh;rw[LE oa,hh]
  exact Qmc kb I E hy hz
 obtain⟨ns,e1,e2,e3⟩:=QfN _ g0;have h0:ns.length=147:=by rw[e2];simp;omega
 have J:∀j,j<152->∃c,l[j]?=some c:=λj hj=>⟨l[j]'oa,LE oa⟩;obtain⟨Z,q1⟩:=J 147 oa;obtain⟨x2,q2⟩:=J 148 oa;obtain⟨x3,q3⟩:=J 149 oa;obtain⟨x4,q4⟩:=J 150 oa;obtain⟨x5,q5⟩:=J 151 oa;have hi:l.drop 147=[Z,x2,x3,x4,x5]:=by
  apply Nh;intro i;rw[MF]
  match i with
  | 0=>exact q1
  | 1=>exact q2
  | 2=>exact q3
  | 3=>exact q4
  | 4=>exact q5
  | i+5=>rw[MS oa];rfl
 obtain⟨y2,rfl,z2⟩:=QgV (qa I E V Y oa oa q2);obtain⟨y3,rfl,z3⟩:=QgV (qa I E V Y oa oa q3);obtain⟨y4,rfl,z4⟩:=QgV (qa I E V Y oa oa q4);obtain⟨y5,rfl,z5⟩:=QgV (qa I E g9 k9 oa oa q5);obtain⟨a,n,cp,rfl,hP⟩:=Qtc ho hp hq (QsB hs 147 tp Z (oA q1) (by rw[ht];exact hv)) (Qrg (c:=Z) E 7 g7 hn o7 c7 (by rw[hi];rfl) oa);refine⟨⟨ns,a,n,cp,y2,y3,y4,y5⟩,?_,h0,e3,z2,z3,z4,z5,λh3=>hP (by have h4:n<=4:=h3;omega)⟩;show Value.agg l.toArray=sT (bys ns++_);rw[<-e1,<-hi,MT]
end
theorem Qtd {H:Type}{enc:TypeId×O9->H}{W:O8}{base b0:Nat}{sp:Nat->Bool}{held:Bool}{v:O9}{d:DataW H}{ps:List MemPlace}(E:Value.okWide sV W .any base 36 v)(h:DataW.Trod enc sV W b0 sp held 36 v d ps):
  ∃l:PwV,v=sT (Jg l)/\PwA W l :=
 QiR underlying36 (tp:=32) od od U U U U U U U od od od od od od underlying32 od od E h
theorem Qmt {l:PwV}(h:PwA w l):QZ sV 6 [sT (Jg l)] w λr w'=>r=.bool (decide (l.n<=4))/\sW w w':=by
 refine Zt func6 ?_;refine Qc<|Zg (Jg l) λb1 I E J H=>Qb<|Qc<|Qm U H U (Qsu h.n)<|x (Un U)<|x (KL U U)<|Qb<|Qi ⟨[_],Lb,?_,E⟩;exact O2 Value.bool (decide_eq_decide.2 oa)
theorem jP {ps:List AV}(h:JL [] ↑w vl ps)(Z:∀p∈ps,Zo p.a)(ha:Kb w 4096):
  QZ sV 49 [vl] w λr w'=>sW w w'/\∃va,r=.tuple #[va,sS (Ug (ps.map (·.a)))]/\(Ug (ps.map (·.a))≠0->va=zA)/\(Ug (ps.map (·.a))=0->Xi ↑w ↑w' va (syA (ps.map (·.a)))):=by
 refine Zt func49 ?_;refine Qc<|QL XD λb2 w1 E hb O=>Qb<|Qj<|Qx<|(jF (km:=4096) (h.J E) (ha.J E) oh (QbO Z)).S ?_;rintro r2 w2 ⟨he,vA,vt,c,rfl,hR⟩;have I:=hR.e;obtain⟨a,xa,xm,H,qs,rfl,S,hn,_⟩:=hR.shape;refine Qa<|QS U U<|QS U U<|QS U U<|QL XD λb4 w3 hg hh hi=>QJ [xa,sS a.st,xm,H] hi S λw4 hj hl =>
  x Qh<|Qb ?_
 have T:sW w2 w4:=hg.Q hj hh;have V:=he.I T;refine Qc<|QV hl U U<|Qa<|QJ [xa,sS a.st,xm,H] (O.J V) S λw5 Y hm=>Qb<|Qi ⟨[.agg #[xa,sS a.st,xm,H],sS c],⟨YO hm,U,La⟩,(E.I V).Q Y hb,.agg #[xa,sS a.st,xm,H],?_,λJ=>?_,λJ=>?_⟩
 .show Value.tuple _=Value.tuple _;rw[I]
 .exact(hR.bad (by rw[I];exact J)).1
 have h1:=(hR.good (by rw[I];exact J)).1;exact(XY (h1.J T) O.lt Y).S E.size
theorem Qeu {c:CL}(h:ZG [] ↑w c)(V:Kb w 4096):
  QZ sV 15 [c.val] w λr w'=>sW w w'/\∃va,r=.tuple #[va,sS (jU c.Z)]/\(jU c.Z≠0->va=zA)/\(jU c.Z=0->Xi ↑w ↑w' va (tgA c.Z)):=by
 have H:=Qsl c.Z;refine Zt func15 ?_;refine Qc<|Zg c.cells λb1 w1 Y hw hl=>QL XD λb2 w2 Z hy O=>Qb ?_;have S:=Y.I Z;have hz:=Y.size;have h1:=O.lt;refine Qc<|QV (hl.J Z) U U<|Qx<|(jG (h.J S) (V.J S)).S ?_;rintro r3 w3 ⟨J,vl,rfl,h2,hm⟩;refine Qa<|QS U U<|QS U U<|x Qh<|Qb ?_;have T:=S.I J;have h3:=J.size;refine Qd<|Qj<|Zu U U<|xe<|QY rfl (λI=>?_) (λI=>?_)
 .rw[O1 I]at H;refine Qc<|x (Qv La)<|Qa<|QJ XD (O.J J) oD λw4 hn ho=>Qb<|Qi ⟨[sT XD,sS (UO c.Z)],⟨YO ho,U,La⟩,T.Q hn oa,zA,?_,λ_=>U,λE=>O3 E (by rw[H];exact I)⟩;show Value.tuple _=Value.tuple _;rw[H];rfl
 rw[O0 I]at H;have ha:=Lq.1 I;obtain⟨h4,ps,hb,hq⟩:=hm ha;have hr:∀p∈ps,Zo p.a:=λp hp=>QcU ha p.a (by rw[<-hb];exact LK hp);have hC:=jP (hq [] oe) hr (V.J T);rw[hb,<-H]at hC;refine Qe<|Qj<|Qx<|hC.S ?_;rintro r5 w5 ⟨hc,va,rfl,he,hg⟩;have hs:∃us,va=sT us/\us.length=4/\Zj us:=by
  by_cases E:jU c.Z=0
  .exact Xw (hg E)
  exact⟨XD,he E,U,U,U,U,U,La⟩
 obtain⟨us,hh,hi,ht⟩:=hs;refine QS rfl U<|QS U U<|Qo<|ZA (us:=us) (O.J (J.I hc)) U (show Go.Lg.ev _ _=_ from hh) hi U ht λw6 hj hv=>Qb<|Qi ⟨[sT us,sS (jU c.Z)],⟨⟨_,U,ZR hi (hv.at (L:=[]) oe).cells⟩,rfl,La⟩,(T.I hc).Q hj oa,va,?_,he,λE=>?_⟩
 .show Value.tuple _=Value.tuple _;rw[hh]
 exact(XY (hg E) oa hj).S oa
section
variable {P:LI->Prop}
end
abbrev mB (c:Zy)(m:Vw):QU:=(spc (Jr c m)).a
abbrev mL (c:Zy)(m:Vw):Lf:=Xq (mB c m) (fbs (spc (Jr c m))) (unc c.ev)
theorem Ql5 {o:LI}{v:Int}(h:i<o.length):xo (o.set i v) j=if j=i then v else xo o j:=by
 by_cases e:j=i
 .rw[O1 e,e];unfold xo;simp[oQ,h]
 rw[O0 e];unfold xo;simp[oQ,OE (Ne.symm e)]
theorem Qk1 {es:List Ed}{e:Ed}{s:Nat}(E:e∈es)(h:e.2.2=(s:Int)):e.1∈YJ es s:=by
 unfold YJ;exact Ly.2 ⟨e,LY.2 ⟨E,O4 h⟩,U⟩
theorem Qcx {lf:Lf}:∀(l:LI) (i k:Nat),k<l.length->lf.getD (i+k) false=true->xo l k<0->((i+k:Nat):Int)∈Je lf i l
 | [],_,k,h,_,_=>by simp at h
 | d::l,i,0,_,H,I=>by
  have E:d<0:=I;rw[Je,O1 ⟨oA H,E⟩];simp
 | d::l,i,k+1,h,H,I=>by
  have E:=Qcx l (i+1) k (oA h) (by rw[show i+1+k=i+(k+1) by omega];exact H) I;rw[show i+1+k=i+(k+1) by omega]at E;rw[Je];split
  .exact Ll _ E
  exact E
structure DsQ (a:QU)(lf:Lf)(z:LI×LI):Prop where
 q:∀k,(h:k<z.2.length)->lft lf (z.2[k]'h)=true/\(z.2[k]'h∈a.mr\/∃j,∃hj:j<z.2.length,j<k/\∃v,(z.2[k]'h,v,z.2[j]'hj)∈a.ed)
 r:∀i:Nat,0<=xo z.1 i->i<z.1.length->(i:Int)∈z.2
theorem DsQ.add {z:LI×LI}{x y:Int}(h:DsQ a lf z)(hi:i<z.2.length)(hx:z.2[i]'hi=x)(hy:0<=y)(T:∃v,(y,v,x)∈a.ed):
  DsQ a lf (Vu lf x z y)/\∃V:i<(Vu lf x z y).2.length,(Vu lf x z y).2[i]'V=x:=by
 unfold Vu;by_cases E:lft lf y=true/\xo z.1 y.toNat<0
 .rw[O1 E];refine⟨⟨λk hk=>?_,λj H O=>?_⟩,by simp;omega,by simp only[];rw[Ml hi];exact hx⟩
  .simp only[oN,oP]at hk;by_cases e:k=z.2.length
   .subst e;simp only[List.getElem_append_right (OX _),OW,List.getElem_cons_zero];refine⟨E.1,.inr ⟨i,by simp;omega,hi,?_⟩⟩;obtain⟨v,I⟩:=T;exact⟨v,by rw[Ml hi,hx];exact I⟩
   have S:k<z.2.length:=oa
   simp only[List.getElem_append_left S];obtain⟨Y,Z⟩:=h.q k S;refine⟨Y,Z.imp id ?_⟩;rintro⟨j,H,ha,v,I⟩;exact⟨j,by simp;omega,ha,v,by rw[Ml H];exact I⟩
  simp only[Oq]at O;by_cases e:j=y.toNat
  .refine MM _ ?_;rw[Lc];omega
  refine L7 _ (h.r j ?_ O);have J:0<=xo (z.1.set y.toNat (xo z.1 x.toNat+1)) j:=H;unfold xo at J ⊢;rw[LR,MP (Ne.symm e),<-LR]at J;exact J
 rw[O0 E];exact⟨h,hi,hx⟩
theorem DsQ.adds {a:QU}{lf:Lf}{x:Int}{i:Nat}:∀(ys:LI) (z:LI×LI),DsQ a lf z->(hi:i<z.2.length)->z.2[i]'hi=x->(∀y∈ys,0<=y/\∃v,(y,v,x)∈a.ed)->DsQ a lf (ys.foldl (Vu lf x) z)
 | [],_,h,_,_,_=>h
 | y::ys,z,h,hi,hx,E=>by
  obtain⟨H,I,J⟩:=(h.add hi hx (E y Lr).1 (E y Lr).2);exact DsQ.adds ys _ H I J (λq O=>E q (Ll _ O))
theorem QlC {a:QU}(J:Zo a){lf:Lf}:∀(f i:Nat) (z:LI×LI),DsQ a lf z->(∀x∈z.2,0<=x)->DsQ a lf (dsL a.ed lf f i z)
 | 0,_,z,h,_=>h
 | f+1,i,z,h,O=>by
  rw[dsL];split
  .rename_i hi;have hx:z.2[i]'hi=xo z.2 i:=Zx hi;have V:=O _ (Lm hi);rw[hx]at V;refine QlC J f (i+1) _ (h.adds (i:=i) _ _ hi hx (λy E=>?_)) (λx Y=>?_)
   .obtain⟨e,I,S,T⟩:=KR E;have ha:=J.ed e I;rw[show(((xo z.2 i).toNat:Nat):Int)=xo z.2 i by omega]at T;exact⟨oa,e.2.1,by rw[<-S,<-T];exact I⟩
   have key:∀(ys:LI) (z:LI×LI),(∀y∈ys,0<=y)->(∀x∈z.2,0<=x)->∀x∈(ys.foldl (Vu lf (xo z.2 i)) z).2,0<=x:=by
    intro ys z;generalize xo z.2 i=x0;intro E H;have k2:∀(ys:LI) (z:LI×LI),(∀y∈ys,0<=y)->(∀x∈z.2,0<=x)->∀x∈(ys.foldl (Vu lf x0) z).2,0<=x:=by
     intro ys;induction ys with
     | nil=>intro z _ H;exact H
     | cons y ys ih =>
      intro z E H;rw[LZ];refine ih _ (λq Z=>E q (Ll _ Z)) (λx hx=>?_);unfold Vu at hx;split at hx
      .rcases Lh.1 hx with hx|hx
       .exact H x hx
       rw[Lc.1 hx];exact E y Lr
      exact H x hx
    exact k2 ys z E H
   exact key _ z (λy E=>by
    obtain⟨e,I,S,_⟩:=KR E;have:=(J.ed e I).1;omega) O x Y
  exact h
theorem QlF (H:Zo a)(lf:Lf):DsQ a lf (ds0 a lf)/\∀x∈(ds0 a lf).2,0<=x:=by
 rw[q7 (λx hx=>(H.mr x hx).1)];refine⟨⟨λk hk=>?_,λi hi E=>?_⟩,λx hx=>(H.mr x (LY.1 hx).1).1⟩
 .have:=LY.1 (Lm hk);exact⟨this.2,.inl this.1⟩
 simp only[]at hi E;rw[<-Zx E]at hi;rw[Kx]at E;simp only[zg,OG,OK]at hi;split at hi
 .assumption
 omega
theorem Qck {es:List Ed}{lf:Lf}:∀(f i:Nat) (z:LI×LI),(dsL es lf f i z).1.length=z.1.length
 | 0,_,_=>rfl
 | f+1,i,z=>by
  rw[dsL];split
  .rw[Qck f];have k2:∀(x:Int) (ys:LI) (z:LI×LI),(ys.foldl (Vu lf x) z).1.length=z.1.length:=by
    intro x ys;induction ys with
    | nil=>intro z;rfl
    | cons y ys ih2 =>
     intro z;rw[LZ,ih2];unfold Vu;split
     .simp
     rfl
   exact k2 _ _ _
  rfl
section
variable (h:D25 c)
abbrev suL (c:Zy):Lf:=Xq (spc c).a (fbs (spc c)) (unc c.ev)
end
theorem jq {x y:Int}{z:LI×LI}(E:0<=xo z.1 x.toNat)(h:0<=xo z.1 j):0<=xo (Vu lf x z y).1 j:=by
 unfold Vu;split
 .show 0<=xo (z.1.set y.toNat (xo z.1 x.toNat+1)) j;unfold xo at *;rw[LR,List.getElem?_set];split
  .split
   .show 0<=z.1.getD x.toNat 0+1;omega
   exact Ng _
  rw[<-LR];exact h
 exact h
theorem QoS {x y:Int}{z:LI×LI}(J:0<=xo z.1 x.toNat)(H:lft lf y=true):0<=xo (Vu lf x z y).1 y.toNat:=by
 by_cases E:xo z.1 y.toNat<0
 .have I:y.toNat<z.1.length:=Oe λO=>by
   unfold xo at E;rw[LR,MS oa]at E;exact O3 E oh
  unfold Vu;rw[O1 ⟨H,E⟩];show 0<=xo (z.1.set y.toNat (xo z.1 x.toNat+1)) y.toNat;unfold xo at *;rw[LR,List.getElem?_set,O1 rfl,O1 I];show 0<=z.1.getD x.toNat 0+1;omega
 unfold Vu;rw[O0 λh=>E h.2];omega
theorem QdW {lf:Lf}{x:Int}:∀(l:LI) (z:LI×LI),0<=xo z.1 x.toNat->(∀j,0<=xo z.1 j->0<=xo (l.foldl (Vu lf x) z).1 j)/\∀y∈l,lft lf y=true->0<=xo (l.foldl (Vu lf x) z).1 y.toNat
 | [],_,_=>⟨λ_ h=>h,λy I=>by cases I⟩
 | y::l,z,E=>by
  have ih:=QdW (lf:=lf) l (Vu lf x z y) (jq E E);refine⟨λj J=>ih.1 j (jq E J),λu hu H=>?_⟩;rcases Lk.1 hu with rfl|hu
  .exact ih.1 _ (QoS E H)
  exact ih.2 u hu H
theorem QfA {a:QU}(Y:Zo a){n:Nat}(Z:a.st=(n:Int)){lf:Lf}:∀(f i:Nat) (z:LI×LI),DsI n z->n<=i+f->(∀e∈a.ed,lft lf e.1=true->∀k,k<i->z.2[k]?=some e.2.2->0<=xo z.1 e.1.toNat) ->
  (∀j,0<=xo z.1 j->0<=xo (dsL a.ed lf f i z).1 j)/\∀e∈a.ed,lft lf e.1=true->e.2.2∈(dsL a.ed lf f i z).2->0<=xo (dsL a.ed lf f i z).1 e.1.toNat
 | 0,i,z,I,hf,J=>⟨λ_ h=>h,λe E H S=>by
  obtain⟨k,hk,e1⟩:=LM (show e.2.2∈z.2 from S);have:=I.le;exact J e E H k oa (by rw[LE hk,e1])⟩
 | f+1,i,z,I,hf,J=>by
  rw[dsL];split
  .rename_i hi;have hx:xo z.2 i=z.2[i]'hi:=(Zx hi).symm;have ha:=Lm hi;have hh:=I.ok.q _ ha;have hb:=I.s0 _ ha;rw[hx];generalize hp:z.2[i]'hi=x at *;have hq:∀y∈YJ a.ed x.toNat,0<=y/\y<(n:Int):=λy hy=>by
    obtain⟨e,E,T,_⟩:=KR hy;have:=(Y.ed e E);rw[<-Z,<-T];exact⟨this.1,this.2.1⟩
   obtain⟨T,r,h2⟩:=Qcm (lf:=lf) hh _ z I hb hq;have V:=QdW (lf:=lf) (x:=x) (YJ a.ed x.toNat) z hb;have ih:=QfA Y Z (lf:=lf) f (i+1) _ T oa (λe E H k hk O=>by
    rw[h2,Mo oa]at O;by_cases hr:k=i
    .subst hr;rw[LE hi,hp]at O;have hs:=Option.some.inj O;exact V.2 e.1 (Qk1 E (by rw[<-hs];omega)) H
    exact V.1 _ (J e E H k oa O))
   exact⟨λj hj=>ih.1 j (V.1 j hj),ih.2⟩
  rename_i hi;refine⟨λ_ h=>h,λe E H S=>?_⟩;obtain⟨k,hk,e1⟩:=LM S;exact J e E H k oa (by rw[LE hk,e1])
inductive WR (a:QU) (G:Nat->Prop):Nat->Prop
 | mk {s:Nat}:(s:Int)∈a.mr->WR a G s
 | st {s u:Nat} {v:Int}:((s:Int),v,(u:Int))∈a.ed->G u->WR a G u->WR a G s
theorem Qqe (E:Zo a)(hp:0<=a.st){G:Nat->Prop}(T:∀s,G s->lft lf s=true){s:Nat}(h:WR a G s)(I:lft lf s=true):0<=xo (dsts a lf) s:=by
 have J:a.st=((a.st.toNat:Nat):Int):=oa
 have hd:=Qco (lf:=lf) E J;have O:=QlF E lf;have V:DsQ a lf (dsL a.ed lf a.st.toNat 0 (ds0 a lf)):=QlC E _ _ _ O.1 O.2;have S:=QfA E J (lf:=lf) a.st.toNat 0 (ds0 a lf) hd oa (λe H hl k hk=>oa);have ha:(dsL a.ed lf a.st.toNat 0 (ds0 a lf)).1.length=a.st.toNat:=by
  rw[Qck,q7 (λx hx=>(E.mr x hx).1)];exact Kx _ _
 unfold dsts;induction h with
 | @mk s Y =>
  refine S.1 _ ?_;have:(s:Int)∈(ds0 a lf).2:=by
   rw[q7 (λx hx=>(E.mr x hx).1)];exact LY.2 ⟨Y,I⟩
  have:=hd.s0 _ this;simpa using this
 | @st s u v H hu _ ih =>
  have Z:=ih (T u hu);have h2:=(E.ed _ H).2.2.2;have hb:0<=(u:Int)/\(u:Int)<a.st:=h2;have h3:=V.r u Z oa;have h4:=S.2 _ H I h3;simpa using h4
theorem Qhw {lf:Lf}{x:Int}:∀(l:LI) (i:Nat),x∈Je lf i l->∃k,x=((i+k:Nat):Int)/\k<l.length/\xo l k<0
 | [],_,h=>by cases h
 | d::l,i,h=>by
  have go:x∈Je lf (i+1) l->∃k,x=((i+k:Nat):Int)/\k<(d::l).length/\xo (d::l) k<0:=λh=>by
   obtain⟨k,E,H,I⟩:=Qhw l (i+1) h;exact⟨k+1,by rw[E];congr 1;omega,oA H,I⟩
  rw[Je]at h;split at h
  .rename_i J;rcases Lk.1 h with h|h
   .exact⟨0,h,oe,J.2⟩
   exact go h
  exact go h
section
variable (k:α->Int)
def Qfq (x:α):List α->List α
 | []=>[x]
 | y::l=>if k x<=k y then x::y::l else y::Qfq x l
def isrt (l:List α):List α:=l.foldr (Qfq k) []
theorem qV (x:α):∀l,(Qfq k x l).Perm (x::l)
 | []=>.refl _
 | y::l=>by
  rw[Qfq];split
  .exact .refl _
  exact((qV x l).cons y).I (.swap _ _ _)
theorem qT:∀l,(isrt k l).Perm l
 | []=>.refl _
 | x::l=>(qV k x _).I ((qT l).cons x)
theorem QaP (x:α):∀{l:List α},l.Pairwise (λa b=>k a<=k b)->(Qfq k x l).Pairwise (λa b=>k a<=k b)
 | [],_=>by rw[Qfq];simp
 | y::l,h=>by
  rw[Qfq];obtain⟨I,J⟩:=L6.1 h;split
  .rename_i H;refine L6.2 ⟨λz E=>?_,h⟩;rcases Lk.1 E with rfl|E
   .exact H
   exact Int.le_trans H (I z E)
  rename_i H;refine L6.2 ⟨λz E=>?_,QaP x J⟩;rcases Lk.1 ((qV k x l).mem_iff.1 E)with rfl|E
  .omega
  exact I z E
theorem QaN:∀l:List α,(isrt k l).Pairwise (λa b=>k a<=k b)
 | []=>.nil
 | x::l=>QaP k x (QaN l)
theorem Qgb:∀{l m:List α},l.Perm m->l.Pairwise (λa b=>k a<=k b)->m.Pairwise (λa b=>k a<=k b)->(l.map k).Nodup->l=m
 | [],m,E,_,_,_=>(List.Perm.nil_eq E)
 | x::l,[],E,_,_,_=>by have:=E.length_eq;simp at this
 | x::l,y::m,E,I,J,O=>by
  obtain⟨S,l2⟩:=L6.1 I;obtain⟨m1,T⟩:=L6.1 J;have V:(k x::l.map k).Nodup:=O;obtain⟨n1,Y⟩:=Nm.1 V;have e:x=y:=by
   have hx:x∈y::m:=E.mem_iff.1 Lr;have Z:y∈x::l:=E.mem_iff.2 Lr;rcases Lk.1 hx with h|h
   .exact h
   rcases Lk.1 Z with H|H
   .exact H.symm
   exact O3 (Ly.2 ⟨y,H,Int.le_antisymm (m1 x h) (S y H)⟩) n1
  subst e;rw[Qgb ((List.perm_cons x).1 E) l2 T Y]
theorem Qop {l m:List α}(E:m.Perm l)(H:m.Pairwise (λa b=>k a<=k b))(I:(l.map k).Nodup):m=isrt k l :=
 Qgb k (E.I (qT k l).symm) H (QaN k l) ((E.map _).nodup_iff.2 I)
end
abbrev UB (c:Zy):LI×LI×List Q4:=(j2 (suL c) (spc c).a.st.toNat,kpD (suL c) (dsts (spc c).a (suL c)) (spc c).a.st.toNat,rmS (spc c).a (fbs (spc c)) (unc c.ev))
open Go.Sort
def DsW (a:QU)(lf:Lf)(z:LI×LI):Prop:=∀i:Nat,i<z.1.length->0<=xo z.1 i->(xo z.1 i=0/\(i:Int)∈a.mr)\/∃e∈a.ed,e.1=(i:Int)/\lft lf e.2.2=true/\0<=xo z.1 e.2.2.toNat/\xo z.1 e.2.2.toNat<xo z.1 i
theorem DsW.e {a:QU}{lf:Lf}{z:LI×LI}{x y:Int}(h:DsW a lf z)(hx:0<=xo z.1 x.toNat)(S:lft lf x=true)(hy:0<=y)(T:∃v,(y,v,x)∈a.ed):DsW a lf (Vu lf x z y):=by
 unfold Vu;by_cases H:lft lf y=true/\xo z.1 y.toNat<0
 .rw[O1 H];intro i hi hd;have I:i<z.1.length:=by simpa using hi
  by_cases V:y.toNat<z.1.length
  .have Y:∀j,xo (z.1.set y.toNat (xo z.1 x.toNat+1)) j=if j=y.toNat then xo z.1 x.toNat+1 else xo z.1 j:=λj=>Ql5 V
   simp only[Y]at hd ⊢;by_cases e:i=y.toNat
   .obtain⟨v,Z⟩:=T;refine .inr ⟨_,Z,by show y=_;omega,S,?_⟩;have E:x.toNat≠y.toNat:=λe=>by rw[e]at hx;omega
    rw[O0 E,O1 e];exact⟨hx,Int.lt_add_one_of_le (Ng _)⟩
   rw[O0 e]at hd ⊢;refine(h i I hd).imp id ?_;rintro⟨J,ha,h1,h2,O,h4⟩;have E:J.2.2.toNat≠y.toNat:=λe=>by rw[e]at O;omega
   exact⟨J,ha,h1,h2,by rw[O0 E];exact O,by rw[O0 E];exact h4⟩
  have e:z.1.set y.toNat (xo z.1 x.toNat+1)=z.1:=List.set_eq_of_length_le oa;simp only[e]at hd ⊢;exact h i I hd
 rw[O0 H];exact h
theorem DsW.es {a:QU}{lf:Lf}{x:Int}(H:lft lf x=true):∀(ys:LI) (z:LI×LI),DsW a lf z->0<=xo z.1 x.toNat->(∀y∈ys,0<=y/\∃v,(y,v,x)∈a.ed)->DsW a lf (ys.foldl (Vu lf x) z)
 | [],_,h,_,_=>h
 | y::ys,_,h,hx,E=>DsW.es H ys _ (h.e hx H (E y Lr).1 (E y Lr).2) (jq hx hx) λq I=>E q (Ll _ I)
theorem Qp1 {a:QU}(O:Zo a){n:Nat}(S:a.st=(n:Int)){lf:Lf}:∀(f i:Nat) (z:LI×LI),DsI n z->DsQ a lf z->DsW a lf z->DsW a lf (dsL a.ed lf f i z)
 | 0,_,_,_,_,h=>h
 | f+1,i,z,I,T,h=>by
  rw[dsL];split
  .rename_i hi;have hx:z.2[i]'hi=xo z.2 i:=Zx hi;have V:=Lm hi;have Y:=I.ok.q _ V;have J:=I.s0 _ V;have Z:=(T.q i hi).1;rw[hx]at Y J Z;have H:∀y∈YJ a.ed (xo z.2 i).toNat,(0<=y/\y<(n:Int))/\∃v,(y,v,xo z.2 i)∈a.ed:=λy E=>by
    obtain⟨e,he,h1,h2⟩:=KR E;have hb:=O.ed e he;rw[show(((xo z.2 i).toNat:Nat):Int)=xo z.2 i by omega]at h2;refine⟨by rw[<-S,<-h1];exact⟨hb.1,hb.2.1⟩,e.2.1,?_⟩;rw[<-h1,<-h2];exact he
   exact Qp1 O S f (i+1) _ (Qcm Y _ z I J λy E=>(H y E).1).1 (T.adds (i:=i) _ _ hi hx λy E=>⟨(H y E).1.1,(H y E).2⟩)
    (h.es Z _ _ J λy E=>⟨(H y E).1.1,(H y E).2⟩)
  exact h
theorem qd (E:Zo a)(lf:Lf):(dsts a lf).length=a.st.toNat:=by
 unfold dsts;rw[Qck,q7 (λx hx=>(E.mr x hx).1)];exact Kx _ _
theorem Qrq (E:Zo a)(lf:Lf)(i:Nat)(hi:(i:Int)<a.st)(O:0<=xo (dsts a lf) i):(xo (dsts a lf) i=0/\(i:Int)∈a.mr)\/∃e∈a.ed,e.1=(i:Int)/\lft lf e.2.2=true/\0<=xo (dsts a lf) e.2.2.toNat/\xo (dsts a lf) e.2.2.toNat<xo (dsts a lf) i:=by
 have I:a.st=((a.st.toNat:Nat):Int):=by have:=E.st0;omega
 have S:=QlF E lf;have T:=qd E lf;refine Qp1 E I a.st.toNat 0 (ds0 a lf) (Qco E I) S.1 (λj H hd=>.inl ?_) i (by show i<(dsts a lf).length;omega) O;rw[q7 (λx hx=>(E.mr x hx).1)]at H hd ⊢;simp only[]at H hd ⊢;have e:=Zx H;rw[<-e]at hd ⊢;simp only[zg,OG,OK]at hd ⊢;split at hd
 .rename_i J;rw[O1 J];exact⟨U,(LY.1 J).1⟩
 omega
theorem QoQ (E:Zo a){e:Ed}(H:e∈a.ed)(I:lft lf e.1=true)(h:0<=xo (dsts a lf) e.2.2.toNat):0<=xo (dsts a lf) e.1.toNat:=by
 have J:a.st=((a.st.toNat:Nat):Int):=by have:=E.st0;omega
 have O:=QlF E lf;have T:=(E.ed e H).2.2.2;have V:=qd E lf;have S:=(QlC E a.st.toNat 0 _ O.1 O.2).r e.2.2.toNat h (by show _<(dsts a lf).length;omega);rw[show((e.2.2.toNat:Nat):Int)=e.2.2 by omega]at S;exact(QfA E J (lf:=lf) a.st.toNat 0 (ds0 a lf) (Qco E J) oa (λe H I k hk=>oa)).2 e H I S
theorem Qn0 {p:Int×Int}(E:p∈lost a ul lf):∃e∈a.ed,e.1=p.1/\e.2.1=p.2/\lft lf e.2.2=false/\e.2.1∈ul:=by
 have key:∀(l:List Ed) (out:xF),(∀e∈l,e∈a.ed)->(∀p∈out,∃e∈a.ed,e.1=p.1/\e.2.1=p.2/\lft lf e.2.2=false/\e.2.1∈ul)->∀p∈l.foldl (X9 ul lf) out,∃e∈a.ed,e.1=p.1/\e.2.1=p.2/\lft lf e.2.2=false/\e.2.1∈ul:=by
  intro l;induction l with
  | nil=>intro out _ h;exact h
  | cons e l ih =>
   intro out H h;refine ih _ (λe J=>H e (Ll _ J)) λp E=>?_;unfold X9 at E;split at E
   .exact h p E
   rename_i I;split at E
   .exact h p E
   rcases Lh.1 E with E|E
   .exact h p E
   rw[Lc.1 E];refine⟨e,H e Lr,U,U,?_,?_⟩
   .cases O:lft lf e.2.2 with
    | false=>rfl
    | true=>exact O3 (.inr (.inl O)) I
   exact Oe λS=>I (.inr (.inr S))
 exact key a.ed [] (λ_ h=>h) (λp E=>(by cases E)) p E
theorem Qkz (T:Zo a)(ul:LI)(lf:Lf):Yp ((lost a ul lf).map (·.1)):=by
 have key:∀(l:List Ed) (out:xF),l.Pairwise (λx y=>x.1<y.1\/(x.1=y.1/\x.2.1<y.2.1))->Yp (out.map (·.1))->(∀p∈out,∀e∈l,p.1<=e.1)->Yp ((l.foldl (X9 ul lf) out).map (·.1)):=by
  intro l;induction l with
  | nil=>intro out _ h _;exact h
  | cons e l ih =>
   intro out V hi J;obtain⟨Y,Z⟩:=L6.1 V;have ha:∀H∈l,e.1<=H.1:=λH I=>ov (Y H I)
   refine ih _ Z ?_ ?_
   .unfold X9;split
    .exact hi
    split
    .exact hi
    rename_i hc;rw[Ls];refine Mj.2 ⟨hi,Ns _ _,λx hx y O=>?_⟩;rw[M2,Lc]at O;subst O;obtain⟨p,E,rfl⟩:=Ly.1 hx;have h1:=J p E e Lr;refine Int.lt_iff_le_and_ne.2 ⟨h1,λe1=>hc ?_⟩;obtain⟨S,q,rfl⟩:∃S q,out=S++[q]:=⟨out.dropLast,out.getLast (List.ne_nil_of_mem E),(Nu _).symm⟩;rw[List.getLast?_concat];show some q.1=some e.1;have h2:=J q oe e Lr;rw[Ls]at hi;have h3:=(Mj.1 hi).2.2;rcases Lh.1 E with E|E
    .have:=h3 p.1 (LK E) q.1 oe;omega
    rw[<-Lc.1 E,e1]
   unfold X9;intro p E H I;split at E
   .exact J p E H (Ll _ I)
   split at E
   .exact J p E H (Ll _ I)
   rcases Lh.1 E with E|E
   .exact J p E H (Ll _ I)
   rw[Lc.1 E];exact ha H I
 exact key a.ed [] T.edi .nil (λp E=>(by cases E))
theorem jB (lf:Lf):∀(l:LI) (i:Nat),Yp (Je lf i l)
 | [],_=>.nil
 | d::l,i=>by
  rw[Je];split
  .refine L6.2 ⟨λx hx=>?_,jB lf l (i+1)⟩;have:=((Vk lf l (i+1)).1 x hx).2.1;omega
  exact jB lf l (i+1)
theorem QnP (E:Zo a)(ul:LI)(lf:Lf):Yp (nxs a ul lf):=by
 unfold nxs;split
 .exact Qkz E ul lf
 exact jB _ _ _
theorem VI {s:Int}:∀(xs:LI) (l:Lf),lft (xs.foldl cut l) s=false->lft l s=false\/∃x∈xs,x.toNat=s.toNat
 | [],l,h=>.inl h
 | x::xs,l,h=>by
  rcases VI xs (cut l x) h with E|⟨y,H,e⟩
  .by_cases e:x.toNat=s.toNat
   .exact .inr ⟨x,Lr,e⟩
   unfold lft cut at E;rw[LR,MP e,<-LR]at E;exact .inl E
  exact .inr ⟨y,Ll _ H,e⟩
theorem Qgk {r:Int×xF}{q:Q4}(h:q∈rmR rk r):∃p∈r.2,q=(p.1,rk,r.1,p.2):=by
 obtain⟨p,E,e⟩:=Ly.1 h;exact⟨p,E,e.symm⟩
theorem US :(rmR rk (nxR a ul lf)).map (·.1)=nxs a ul lf:=by
 rw[<-Qgz];unfold rmR;rw[L4];rfl
def RmB (lf:Lf)(M:List Q4)(s:Int)(T:Q4->Prop):Prop:=lft lf s=false\/∃q∈M,q.1=s/\T q
def RmT (a:QU)(ul:LI)(lf:Lf)(M:List Q4)(q:Q4):Prop :=
 (q.2.2.1=2/\∃e∈a.ed,e.1=q.1/\e.2.1=q.2.2.2/\e.2.1∈ul/\RmB lf M e.2.2 λp=>p.2.1<q.2.1) \/
 (q.2.2.1=3/\q.2.2.2=-1/\q.1∉a.mr/\∀e∈a.ed,e.1=q.1->RmB lf M e.2.2 λp=>p.2.1<q.2.1\/(p.2.1=q.2.1/\p.2.2.1=3))
theorem QtY (E:Zo a)(_hl:lf.length=a.st.toNat){q:Q4}(h:q∈rmR rk (nxR a ul lf))(N:List Q4):q.2.1=rk/\RmT a ul lf (rmR rk (nxR a ul lf)++N) q:=by
 obtain⟨p,H,rfl⟩:=Qgk h;refine⟨U,?_⟩;unfold RmT;by_cases T:(lost a ul lf).length≠0
 .have e:nxR a ul lf=(2,lost a ul lf):=O1 T;rw[e]at H ⊢;obtain⟨e,I,J,h2,h3,h4⟩:=Qn0 H;exact .inl ⟨U,e,I,J,h2,h4,.inl h3⟩
 have e:nxR a ul lf=(3,blP (Je lf 0 (dsts a lf))):=O0 T;rw[e]at H h ⊢;have O:p.1∈Je lf 0 (dsts a lf)/\p.2=-1:=by
  unfold blP at H;obtain⟨x,hx,rfl⟩:=Ly.1 H;exact⟨hx,U⟩
 obtain⟨k,hk,hg,hh⟩:=Qhw _ _ O.1;have S:=((Vk lf _ 0).1 _ O.1).1;rw[LS]at hk;have hi:=qd E lf;refine .inr ⟨U,O.2,λhm=>?_,λe I J=>?_⟩
 .have V:p.1∈a.mr:=hm;rw[hk]at V S;have:=Qqe E E.st0 (G:=λs=>lft lf s=true) (λ_ h=>h) (WR.mk V) S;omega
 have Y:e.1=p.1:=J;have hj:=(E.ed e I).2.2.2;cases Z:lft lf e.2.2 with
 | false=>exact .inl Z
 | true =>
  have hd:xo (dsts a lf) e.2.2.toNat<0:=Oe λhn=>by
   have h5:=QoQ E I (by rw[Y];exact S) oa;rw[Y,hk,MK]at h5;omega
  have ha:=Qcx (lf:=lf) (dsts a lf) 0 e.2.2.toNat oa (by rw[LS];exact Z) hd;rw[LS,show((e.2.2.toNat:Nat):Int)=e.2.2 by omega]at ha;refine .inr ⟨(e.2.2,rk,3,-1),L7 _ (Ly.2 ⟨(e.2.2,-1),?_,U⟩),U,.inr ⟨U,U⟩⟩;exact Ly.2 ⟨e.2.2,ha,U⟩
theorem RmB.later (H:Zo a)(I:lf.length=a.st.toNat){N:List Q4}(Y:0<=s){T:Q4->Prop}(h:RmB ((nxs a ul lf).foldl cut lf) N s T)(J:∀q:Q4,q.2.1=rk->T q):RmB lf (rmR rk (nxR a ul lf)++N) s T:=by
 rcases h with h|⟨q,E,O,S⟩
 .rcases VI _ _ h with h|⟨x,hx,e⟩
  .exact .inl h
  have Z:=hx;have h0:=(QbS (n:=a.st.toNat) H (ov H.st0) I x hx).1;rw[<-US (rk:=rk)]at hx;obtain⟨q,E,V⟩:=Ly.1 hx;refine .inr ⟨q,L7 _ E,by rw[V];omega,J q ?_⟩;obtain⟨p,_,rfl⟩:=Qgk E;rfl
 exact .inr ⟨q,MM _ E,O,S⟩
theorem Qgl {a:QU}(E:Zo a){ul:LI}:∀(f:Nat) (rk:Int) (lf:Lf),lf.length=a.st.toNat->∀q∈rmL a ul f rk lf,(0<=q.1/\q.1<a.st)/\lft lf q.1=true/\rk<=q.2.1/\q.2.1<rk+VP lf/\RmT a ul lf (rmL a ul f rk lf) q
 | 0,_,_,_,_,h=>by cases h
 | f+1,rk,lf,H,q,h=>by
  by_cases J:(nxs a ul lf).length=0
  .rw[yH J]at h;cases h
  rw[yG J]at h ⊢;have hc:=yU J;have V:=QbS (ul:=ul) (n:=a.st.toNat) E (ov E.st0) H;rcases Lh.1 h with h|h
  .obtain⟨S,O⟩:=QtY E H h (rmL a ul f (rk+1) ((nxs a ul lf).foldl cut lf));have T:q.1∈nxs a ul lf:=by rw[<-US (rk:=rk)];exact LK h
   have Y:=V _ T;exact⟨⟨Y.1,oa⟩,Qe9 _ T,oa,oa,O⟩
  obtain⟨S,O,h3,h4,Z⟩:=Qgl E f (rk+1) _ (by rw[KU];exact H) q h;refine⟨S,(J1 _ _ O).1,oa,oa,?_⟩;rcases Z with⟨g1,e,I,g2,g3,g4,g5⟩|⟨g1,g2,g3,g4⟩
  .exact .inl ⟨g1,e,I,g2,g3,g4,g5.later E H (E.ed e I).2.2.2.1 λp hp=>oa⟩
  exact .inr ⟨g1,g2,g3,λe I ha=>(g4 e I ha).later E H (E.ed e I).2.2.2.1 λp hp=>.inl oa⟩
theorem QbG {a:QU}(H:Zo a){ul:LI}:∀(f:Nat) (rk:Int) (lf:Lf),lf.length=a.st.toNat->((rmL a ul f rk lf).map (·.1)).Nodup/\(∀q∈rmL a ul f rk lf,lft (VB a ul f lf) q.1=false)/\∀s,0<=s->lft lf s=true->lft (VB a ul f lf) s=true\/∃q∈rmL a ul f rk lf,q.1=s
 | 0,_,_,_=>⟨.nil,λ_ h=>(by cases h),λ_ _ h=>.inl h⟩
 | f+1,rk,lf,J=>by
  by_cases I:(nxs a ul lf).length=0
  .rw[yH I,Qaw I];exact⟨.nil,λ_ h=>(by cases h),λ_ _ h=>.inl h⟩
  rw[yG I,qF I];have O:((nxs a ul lf).foldl cut lf).length=a.st.toNat:=by rw[KU];exact J
  obtain⟨T,V,Y⟩:=QbG H (ul:=ul) f (rk+1) _ O;have Z:=Qgl H (ul:=ul) f (rk+1) _ O;have ha:=QbS (ul:=ul) (n:=a.st.toNat) H (ov H.st0) J;refine⟨?_,λq E=>?_,λs he hs=>?_⟩
  .rw[Ls,US];refine Mi.2 ⟨(QnP H ul lf).imp λh=>oa,T,λx hx y hy e=>?_⟩;obtain⟨q,E,rfl⟩:=Ly.1 hy;exact(J1 _ _ (Z q E).2.1).2 x hx (by rw[e])
  .rcases Lh.1 E with E|E
   .have hm:q.1∈nxs a ul lf:=by rw[<-US (rk:=rk)];exact LK E
    refine Bool.eq_false_iff.2 λh=>?_;exact(J1 _ _ (Qb1 _ _ h)).2 _ hm U
   exact V q E
  cases S:lft ((nxs a ul lf).foldl cut lf) s with
  | true=>exact(Y s he S).imp id λ⟨q,E,e⟩=>⟨q,MM _ E,e⟩
  | false =>
   rcases VI _ _ S with h|⟨x,hx,e⟩
   .rw[hs]at h;cases h
   have hb:=ha x hx;rw[<-US (rk:=rk)]at hx;obtain⟨q,E,hg⟩:=Ly.1 hx;exact .inr ⟨q,L7 _ E,by rw[hg];omega⟩
abbrev q40:Q4:=(0,0,0,0)
def xM (R:List Q4)(s:Int):Q4:=R.getD s.toNat q40
abbrev stF {α:Type}(z:List α)(p:Nat×α):List α:=z.set p.1 p.2
def dsA (n:Nat)(kp ds:LI)(k:Nat):LI:=(oT k).foldl (λz i=>z.set (xo kp i).toNat (xo ds i)) (oK n 0)
def rmQ (n:Nat)(rm:List Q4):List Q4:=rm.foldl (λz r=>z.set r.1.toNat r) (oK n q40)
def VX (c b:Ed->Bool)(z:List Bool)(e:Ed):List Bool:=if c e=true then z.set e.1.toNat (lft z e.1 || b e)else z
abbrev flC (K:List Bool)(e:Ed):Bool:=lft K e.1 && lft K e.2.2
abbrev flB (D:LI)(e:Ed):Bool:=decide (xo D e.2.2.toNat<xo D e.1.toNat)
abbrev rsC (K:List Bool)(R:List Q4)(e:Ed):Bool:=!lft K e.1 && decide ((xM R e.1).2.2.1=2)
abbrev rsB (K C:List Bool)(R:List Q4)(e:Ed):Bool:=decide (e.2.1=(xM R e.1).2.2.2) && (lft C e.2.1 && (!lft K e.2.2 && decide ((xM R e.2.2).2.1<(xM R e.1).2.1)))
structure KpH (a:QU)(K:List Bool)(D:LI)(M F C:List Bool):Prop where
 k1:∀e∈a.ed,lft K e.1=true->lft K e.2.2=false->lft C e.2.1=false
 k2:∀s:Nat,(s:Int)<a.st->lft K s=true->lft F s=false/\0<=xo D s/\(xo D s=0->lft M s=true)/\(0<xo D s->lft (a.ed.foldl (VX (flC K) (flB D)) (oK a.st.toNat false)) s=true)
structure RmH (a:QU)(K:List Bool)(R:List Q4)(M F C:List Bool):Prop where
 r1:∀e∈a.ed,lft K e.1=false->(xM R e.1).2.2.1=3->lft K e.2.2=false/\(xM R e.2.2).2.1<=(xM R e.1).2.1/\((xM R e.2.2).2.1=(xM R e.1).2.1->(xM R e.2.2).2.2.1=3)
 r2:∀s:Nat,(s:Int)<a.st->lft K s=false->1<=(xM R s).2.1/\(xM R s).2.1<=4097/\((xM R s).2.2.1=1->(xM R s).2.2.2=-1/\lft F s=true) /\
  ((xM R s).2.2.1=2->lft (a.ed.foldl (VX (rsC K R) (rsB K C R)) (oK a.st.toNat false)) s=true)/\((xM R s).2.2.1=3->(xM R s).2.2.2=-1/\lft M s=false)
structure VrH (a:QU)(fb ul kp ds:LI)(rm:List Q4):Prop where
 ok:Zo a
 hu:(∀x∈ul,0<=x/\x<32)/\Yp ul
 hf:(∀x∈fb,0<=x/\x<a.st)/\Yp fb
 hk:(∀x∈kp,0<=x/\x<a.st)/\Yp kp
 ln:ds.length=kp.length
 rg:∀q∈rm,0<=q.1/\q.1<a.st
 ri:Yp (rm.map (·.1))
 rk:∀q∈rm,q.2.2.1=1\/q.2.2.1=2\/q.2.2.1=3
 n:(kp.length:Int)+rm.length=a.st
 nk:∀q∈rm,lft (flg a.st.toNat kp) q.1=false
 k:KpH a (flg a.st.toNat kp) (dsA a.st.toNat kp ds kp.length) (flg a.st.toNat a.mr) (flg a.st.toNat fb) (flg 32 ul)
 r:RmH a (flg a.st.toNat kp) (rmQ a.st.toNat rm) (flg a.st.toNat a.mr) (flg a.st.toNat fb) (flg 32 ul)
theorem Qga {α:Type}:∀(l:List (Nat×α)) (z:List α),(l.foldl stF z).length=z.length
 | [],_=>rfl
 | p::l,z=>by rw[LZ,Qga l];exact L9 ..
theorem QjD {α:Type}{d:α}{i:Nat}:∀(l:List (Nat×α)) (z:List α),(∀p∈l,p.1≠i)->(l.foldl stF z).getD i d=z.getD i d
 | [],_,_=>rfl
 | p::l,z,h=>by
  rw[LZ,QjD l _ λq E=>h q (Ll _ E)];rw[LR,MP (h p Lr),<-LR]
theorem QeP {α:Type}{d:α}:∀(l:List (Nat×α)) (z:List α),(∀p∈l,p.1<z.length)->(l.map (·.1)).Nodup->∀p∈l,(l.foldl stF z).getD p.1 d=p.2
 | [],_,_,_,_,h=>(by cases h)
 | q::l,z,I,J,p,E=>by
  obtain⟨n1,O⟩:=Nm.1 J;rw[LZ];rcases Lk.1 E with e|E
  .subst e;rw[QjD l _ λr H e=>n1 (Ly.2 ⟨r,H,e⟩)];rw[LR,List.getElem?_set_self (I p Lr)];rfl
  exact QeP l _ (λr H=>by rw[L9];exact I r (Ll _ H)) O p E
theorem Qk3 (h:Yp l)(E:∀x∈l,0<=x):(l.map Int.toNat).Nodup:=by
 unfold List.Nodup;rw[MC];exact h.imp_of_mem λH I J=>oy (E _ H) (E _ I)
theorem qX (H:0<=s)(h:s.toNat<n):lft (flg n l) s=decide (s∈l):=by
 have E:s.toNat<(flg n l).length:=by rw[V0];exact h
 unfold lft;rw[LR,LE E,Qce E,show((s.toNat:Nat):Int)=s by omega];rfl
theorem UV (c b:Ed->Bool):∀(l:List Ed) (z:List Bool),(l.foldl (VX c b) z).length=z.length
 | [],_=>rfl
 | e::l,z=>by
  rw[LZ,UV c b l];unfold VX;split
  .exact L9 ..
  rfl
theorem Qe6 {c b:Ed->Bool}{s:Int}(Y:0<=s):∀(l:List Ed) (z:List Bool),s.toNat<z.length->(∀e∈l,0<=e.1)->(lft z s=true\/∃e∈l,e.1=s/\c e=true/\b e=true)->lft (l.foldl (VX c b) z) s=true
 | [],z,_,_,h=>by
  rcases h with h|⟨e,E,_⟩
  .exact h
  cases E
 | e::l,z,H,J,h=>by
  have O:∀(v:Bool),lft (z.set e.1.toNat v) s=if e.1=s then v else lft z s:=λv=>by
   have Z:=J e Lr;unfold lft;rw[LR];by_cases e1:e.1=s
   .rw[O1 e1,e1,List.getElem?_set_self H];rfl
   rw[O0 e1,MP oa,<-LR]
  rw[LZ];refine Qe6 Y l _ ?_ (λe E=>J e (Ll _ E)) ?_
  .unfold VX;split
   .rw[L9];exact H
   exact H
  rcases h with h|⟨e',I,S,T,V⟩
  .refine .inl ?_;unfold VX;split
   .rw[O];split
    .rename_i e1;rw[e1,h];rfl
    exact h
   exact h
  rcases Lk.1 I with e1|I
  .refine .inl ?_;subst e1;unfold VX;rw[O1 T,O,O1 S,V,Bool.or_true]
  exact .inr ⟨e',I,S,T,V⟩
section
variable (ho:Zo a)(hfb:∀x∈fb,0<=x/\x<a.st)(hfi:Yp fb)
include ho hfb
theorem QpN:∀q∈rmA a fb ul,(0<=q.1/\q.1<a.st)/\lft (Xq a fb ul) q.1=false/\(1<=q.2.1/\q.2.1<=4097)/\((q.2.2.1=1/\q.2.2.2=-1/\q.1∈fb) \/
  (q.2.2.1=2/\∃e∈a.ed,e.1=q.1/\e.2.1=q.2.2.2/\e.2.1∈ul/\∃p∈rmA a fb ul,p.1=e.2.2/\p.2.1<q.2.1) \/
  (q.2.2.1=3/\q.2.2.2=-1/\q.1∉a.mr/\∀e∈a.ed,e.1=q.1->∃p∈rmA a fb ul,p.1=e.2.2/\(p.2.1<q.2.1\/(p.2.1=q.2.1/\p.2.2.1=3)))):=by
 intro q Y;have h0:=ho.st0;have O:=ho.st1;have S:=U1 a.st.toNat fb;have V:∀(s:Int) (T:Q4->Prop),0<=s->s<a.st->(∀q:Q4,q.2.1=1->T q)->RmB (lf0 a.st.toNat fb) (rmL a ul (a.st.toNat+1) 2 (lf0 a.st.toNat fb)) s T->∃p∈rmA a fb ul,p.1=s/\T p:=by
  intro s T ha hg Z h;rcases h with h|⟨p,I,h2,h3⟩
  .rcases VI _ _ h with h|⟨x,hx,e⟩
   .unfold lft at h;rw[LR,List.getElem?_replicate,O1 oa]at h;exact O3 h oe
   have:=(hfb x hx).1;exact⟨(x,1,1,-1),L7 _ (Ly.2 ⟨x,hx,U⟩),by show x=s;omega,Z _ U⟩
  exact⟨p,MM _ I,h2,h3⟩
 rcases Lh.1 Y with h|h
 .obtain⟨y,J,rfl⟩:=Ly.1 h;have H:=hfb y J;refine⟨H,Bool.eq_false_iff.2 λe=>QkB e y J U,⟨Ng _,by show(1:Int)<=4097;decide⟩,.inl ⟨U,U,J⟩⟩
 obtain⟨g1,g2,g3,g4,g5⟩:=Qgl ho _ _ _ S q h;have hc:=Qct (lf0 a.st.toNat fb);refine⟨g1,(QbG ho _ _ _ S).2.1 q h,⟨oa,oa⟩,.inr ?_⟩;rcases g5 with⟨k1,e,E,k2,k3,k4,k5⟩|⟨k1,k2,k3,k4⟩
 .have H:=ho.ed e E;exact .inl ⟨k1,e,E,k2,k3,k4,V _ _ H.2.2.2.1 H.2.2.2.2 (λp I=>oa) k5⟩
 exact .inr ⟨k1,k2,k3,λe E O=>V _ _ (ho.ed e E).2.2.2.1 (ho.ed e E).2.2.2.2 (λp I=>.inl oa) (k4 e E O)⟩
theorem QnB:∀s:Int,0<=s->s<a.st->lft (Xq a fb ul) s=true\/∃q∈rmA a fb ul,q.1=s:=by
 intro s H J;cases E:lft (lf0 a.st.toNat fb) s with
 | true=>exact((QbG ho (a.st.toNat+1) 2 _ (U1 a.st.toNat fb)).2.2 s H E).imp id λ⟨q,I,e⟩=>⟨q,MM _ I,e⟩
 | false =>
  rcases VI _ _ E with h|⟨x,hx,e⟩
  .unfold lft at h;rw[LR,List.getElem?_replicate,O1 oa]at h;exact O3 h oe
  have:=(hfb x hx).1;exact .inr ⟨(x,1,1,-1),L7 _ (Ly.2 ⟨x,hx,U⟩),by show x=s;omega⟩
theorem Qqu:((rmA a fb ul).map QcQ).map (·.1)=rmA a fb ul:=by
 rw[L4];refine(MU λq E=>?_).I (List.map_id _);have h:=(QpN ho hfb q E).1;have:=ho.st1;show(QcQ q).1=q;unfold QcQ;rw[dif_pos ⟨h.1,oa⟩]
theorem Qda:(rmS a fb ul).Perm (rmA a fb ul):=by
 unfold rmS;refine List.Perm.I (List.Perm.map _ ?_) (List.Perm.of_eq (Qqu ho hfb));generalize (rmA a fb ul).map QcQ=l;have h:=((pdq_sorts (ltOf λx y:Rz=>x.1.1 - y.1.1) QbB l.toArray 0 l.toArray.size (Go.Lib.bitLen l.toArray.size) true true (Lp _) (Lu _) (Or.inl U)).1);have E:=h.2.2;rw[Array.extract_eq_self_of_le (by rw[h.1];exact Lu _),Array.extract_eq_self_of_le (Lu _)]at E;exact E
include hfi
theorem Qny:Yp ((rmS a fb ul).map (·.1)):=by
 have S:((rmS a fb ul).map (·.1)).Nodup:=by
  refine((Qda ho hfb).map (·.1)).nodup_iff.2 ?_;have e:(rmA a fb ul).map (·.1)=fb++(rmL a ul (a.st.toNat+1) 2 (lf0 a.st.toNat fb)).map (·.1):=by
   unfold rmA rmF;rw[Ls,L4];exact O2 (·++_) (List.map_id _)
  rw[e];refine Mi.2 ⟨hfi.imp λh=>oa,(QbG ho _ _ _ (U1 _ _)).1,λx hx y T e=>?_⟩;obtain⟨q,V,rfl⟩:=Ly.1 T;exact(J1 _ _ (Qgl ho _ _ _ (U1 _ _) q V).2.1).2 x hx (by rw[e])
 have key:∀D:Array Rz,(∀i j,0<=i->i<j->j<D.size->ltOf (λx y:Rz=>x.1.1 - y.1.1) D[j]! D[i]! = false)->(D.toList.map λx:Rz=>x.1.1).Pairwise (·<=·):=by
  intro D hD;rw[Mq];intro i j hi E H;rw[Lj,Array.length_toList]at hi E;have I:=hD i j (Lp _) H E;rw[getElem!_pos D j E,getElem!_pos D i hi]at I;rw[LW,LW,Array.getElem_toList,Array.getElem_toList];unfold ltOf at I;simp only[decide_eq_false_iff_not]at I;omega
 have Y:((rmS a fb ul).map (·.1)).Pairwise (·<=·):=by
  unfold rmS;generalize (rmA a fb ul).map QcQ=l;rw[L4];have h:=((pdq_sorts (ltOf λx y:Rz=>x.1.1 - y.1.1) QbB l.toArray 0 l.toArray.size (Go.Lib.bitLen l.toArray.size) true true (Lp _) (Lu _) (Or.inl U)));have J:=h.1.1;have O:=h.2;exact key _ λi j Z H E=>O i j Z H (by rw[J]at E;exact E)
 refine(Y.and S).imp λ⟨J,O⟩=>?_;omega
end
theorem Qg0 {α:Type}(q:α->Bool):∀l:List α,(l.filter q).length+(l.filter λx=>!q x).length=l.length
 | []=>rfl
 | x::l=>by
  have:=Qg0 q l;rw[Mg,Mg];cases q x <;> simp <;> omega
theorem Qb3 {x:Int}:x∈j2 lf n↔(0<=x/\x<(n:Int))/\lft lf x=true:=by
 unfold j2 kpI lft;rw[Ly];constructor
 .rintro⟨i,hi,rfl⟩;obtain⟨H,E⟩:=LY.1 hi;have:=MQ.1 H;exact⟨oa,oA E⟩
 rintro⟨H,E⟩;exact⟨x.toNat,LY.2 ⟨MQ.2 oa,E⟩,oa⟩
theorem Qgi {q:Nat->Bool}:Yp (((oT n).filter q).map λi:Nat=>(i:Int)):=
 MC.2 (((List.pairwise_lt_range (n:=n)).filter q).imp λh=>oa)
theorem Qqs {rm:List Q4}(E:∀q∈rm,0<=q.1/\q.1<(n:Int))(hi:Yp (rm.map (·.1)))(q:Q4)(H:q∈rm):xM (rmQ n rm) q.1=q:=by
 have e:rmQ n rm=(rm.map λr=>(r.1.toNat,r)).foldl stF (oK n q40):=by unfold rmQ;rw[List.foldl_map]
 unfold xM;rw[e];refine QeP (d:=q40) _ _ (λp I=>?_) ?_ (q.1.toNat,q) (Ly.2 ⟨q,H,U⟩)
 .obtain⟨x,hx,rfl⟩:=Ly.1 I;have:=E x hx;rw[ME];show x.1.toNat<n;omega
 have h:=Qk3 hi λx hx=>by
  obtain⟨r,J,rfl⟩:=Ly.1 hx;exact(E r J).1
 rw[L4]at h ⊢;exact h
theorem Qrs {kp ds:LI}(H:∀x∈kp,0<=x/\x<(n:Int))(hi:Yp kp)(h:i<kp.length):xo (dsA n kp ds kp.length) (xo kp i).toNat=xo ds i:=by
 have e:dsA n kp ds kp.length=((oT kp.length).map λi=>((xo kp i).toNat,xo ds i)).foldl stF (oK n 0):=by unfold dsA;rw[List.foldl_map]
 unfold xo at *;rw[e];refine QeP (d:=(0:Int)) _ _ (λp J=>?_) ?_ ((kp.getD i 0).toNat,ds.getD i 0) (Ly.2 ⟨i,MQ.2 h,U⟩)
 .obtain⟨j,E,rfl⟩:=Ly.1 J;have I:=MQ.1 E;have O:kp.getD j 0∈kp:=by rw[LR,LE I];exact Lm I
  have:=H _ O;rw[ME];show(kp.getD j 0).toNat<n;omega
 have h:=Qk3 hi λx hx=>(H x hx).1;rw[L4];have e2:(oT kp.length).map ((λx=>x.1) ∘ λi=>((kp.getD i 0).toNat,ds.getD i 0))=kp.map Int.toNat:=by
  refine Mh oe λj T S=>?_;have E:j<kp.length:=by simpa using S
  simp[oQ,E]
 rw[e2];exact h
theorem QqT (I:Zo a){s:Nat}(O:(s:Int)<a.st)(J:lft (Xq a fb ul) s=true):0<=xo (dsts a (Xq a fb ul)) s:=by
 have E:=QjR a fb ul;have S:(Je (Xq a fb ul) 0 (dsts a (Xq a fb ul))).length=0:=by
  unfold nxs at E;by_cases H:(lost a ul (Xq a fb ul)).length≠0
  .rw[O1 H,Lj]at E;exact O3 E H
  rw[O0 H]at E;exact E
 have T:=qd I (Xq a fb ul);refine Oe λV=>?_;have:=List.length_pos_of_mem (Qcx (lf:=Xq a fb ul) (dsts a (Xq a fb ul)) 0 s oa (by rw[LS];exact J) oa);omega
theorem Qo8 (T:Zo a)(hu:(∀x∈ul,0<=x/\x<32)/\Yp ul)(hf:(∀x∈fb,0<=x/\x<a.st)/\Yp fb):
  VrH a fb ul (j2 (Xq a fb ul) a.st.toNat) (kpD (Xq a fb ul) (dsts a (Xq a fb ul)) a.st.toNat) (rmS a fb ul):=by
 have hn:a.st=((a.st.toNat:Nat):Int):=by have:=T.st0;omega
 have S:=QpN T (ul:=ul) hf.1;have hA:=QnB T (ul:=ul) hf.1;have hM:∀q,q∈rmS a fb ul↔q∈rmA a fb ul:=λq=>(Qda T (ul:=ul) hf.1).mem_iff;have hI:=Qny T (ul:=ul) hf.1 hf.2;have hw:=λe=>Qn6 (a:=a) (fb:=fb) (ul:=ul) (e:=e);have hy:=λs=>QkB (a:=a) (fb:=fb) (ul:=ul) (s:=s);have hz:=λs=>QqT T (fb:=fb) (ul:=ul) (s:=s);have hj:=Qrq T (Xq a fb ul);generalize rmS a fb ul=RS at *;generalize rmA a fb ul=RA at *;generalize Xq a fb ul=lf at *;generalize dsts a lf=D at *;generalize ha:a.st.toNat=n at *;have hc:(∀x∈j2 lf n,0<=x/\x<(n:Int))/\Yp (j2 lf n):=⟨λx hx=>(Qb3.1 hx).1,Qgi⟩;have hl:∀q∈RS,0<=q.1/\q.1<(n:Int):=λq I=>by rw[<-hn];exact(S q ((hM q).1 I)).1
 have hK:∀s:Int,0<=s->s<(n:Int)->lft (flg n (j2 lf n)) s=lft lf s:=λs h0 H=>by
  rw[qX h0 oa];cases e:lft lf s with
  | true=>exact O4 (Qb3.2 ⟨⟨h0,H⟩,e⟩)
  | false=>exact O6 λh=>by rw[(Qb3.1 h).2]at e;cases e
 have hR:∀q∈RA,xM (rmQ n RS) q.1=q:=λq I=>Qqs hl hI q ((hM q).2 I);have hQ:∀s:Int,0<=s->s<(n:Int)->lft lf s=false->∃q∈RA,q.1=s/\xM (rmQ n RS) s=q:=λs h0 H E=>by
  rcases hA s h0 oa with h|⟨q,I,rfl⟩
  .rw[h]at E;cases E
  exact⟨q,I,U,hR q I⟩
 have h6:(kpD lf D n).length=(j2 lf n).length:=by unfold kpD j2;rw[Lj,Lj]
 have hD:∀s:Nat,s<n->lft lf s=true->xo (dsA n (j2 lf n) (kpD lf D n) (j2 lf n).length) s=xo D s:=λs H E=>by
  have Z:s∈kpI lf n:=LY.2 ⟨MQ.2 H,by unfold lft at E;simpa using E⟩;obtain⟨i,hi,e⟩:=LM Z;have h7:i<(j2 lf n).length:=by unfold j2;rw[Lj];exact hi
  have e1:xo (j2 lf n) i=(s:Int):=by unfold j2;rw[Qp3 hi,e]
  have e2:xo (kpD lf D n) i=xo D s:=by unfold kpD;rw[Qp3 hi,e]
  have:=Qrs (ds:=kpD lf D n) hc.1 hc.2 h7;rw[e1,e2]at this;exact this
 have V:=T.ed;have h8:=T.al;rw[hn]at V;have ht:∀e∈a.ed,lft (flg 32 ul) e.2.1=decide (e.2.1∈ul):=λe O=>by
  have:=h8 _ (V e O).2.2.1;exact qX this.1 oa
 refine⟨T,hu,hf,by rw[hn];exact hc,h6,by rw[hn];exact hl,hI,λq I=>?_,?_,λq I=>?_,?_,?_⟩
 .rcases(S q ((hM q).1 I)).2.2.2 with h|h|h
  .exact .inl h.1
  .exact .inr (.inl h.1)
  exact .inr (.inr h.1)
 .have e:RS.map (·.1)=((oT n).filter λi=>!lf.getD i false).map λi:Nat=>(i:Int):=by
   refine Yp.J hI Qgi λx=>?_;constructor
   .intro hx;obtain⟨q,I,rfl⟩:=Ly.1 hx;obtain⟨H,E,_⟩:=S q ((hM q).1 I);refine Ly.2 ⟨q.1.toNat,LY.2 ⟨MQ.2 oa,?_⟩,oa⟩;unfold lft at E;rw[E];rfl
   intro hx;obtain⟨i,hi,rfl⟩:=Ly.1 hx;obtain⟨H,E⟩:=LY.1 hi;have H:=MQ.1 H;obtain⟨q,I,e,_⟩:=hQ (i:Int) oa oa (by unfold lft;simpa using E);exact Ly.2 ⟨q,(hM q).2 I,e⟩
  have e2:=O2 oR e;rw[Lj,Lj]at e2;have e3:=Qg0 (λi=>lf.getD i false) (oT n);have e4:(j2 lf n).length=((oT n).filter λi=>lf.getD i false).length:=by unfold j2 kpI;rw[Lj]
  rw[List.length_range]at e3;omega
 .obtain⟨H,E,_⟩:=S q ((hM q).1 I);rw[ha,hK q.1 H.1 oa];exact E
 .rw[ha];refine⟨λe O H E=>?_,λs hs H=>?_⟩
  .have J:=V e O;rw[hK _ J.1 J.2.1]at H;rw[hK _ J.2.2.2.1 J.2.2.2.2]at E;rw[ht e O];exact O6 λZ=>by rw[hw e O H Z]at E;cases E
  have hv:s<n:=oa
  rw[hK s oa oa]at H;have hg:=hz s hs H;rw[hD s hv H];have hh:lft (flg n a.mr) s=decide ((s:Int)∈a.mr):=qX oa oa;refine⟨?_,hg,λE=>?_,λE=>?_⟩
  .rw[qX oa oa];exact O6 λZ=>hy s H _ Z U
  .rw[hh];rcases hj s hs hg with h3|⟨e,_,_,_,h4,h5⟩
   .exact O4 h3.2
   omega
  rcases hj s hs hg with h3|⟨e,O,g1,Y,g3,g4⟩
  .omega
  have J:=V e O;refine Qe6 oa _ _ (by rw[ME];omega) (λe O=>(V e O).1) (.inr ⟨e,O,g1,?_,?_⟩)
  .show(lft _ e.1 && lft _ e.2.2)=true;rw[hK _ J.1 J.2.1,hK _ J.2.2.2.1 J.2.2.2.2,g1,H,Y];rfl
  refine O4 ?_;have h9:lft lf ((e.2.2.toNat:Nat):Int)=true:=by rw[show((e.2.2.toNat:Nat):Int)=e.2.2 by omega];exact Y
  rw[g1,MK,hD s hv H,hD e.2.2.toNat oa h9];exact g4
 rw[ha];refine⟨λe O H E=>?_,λs hs H=>?_⟩
 .have J:=V e O;rw[hK _ J.1 J.2.1]at H;obtain⟨q,I,g1,Y⟩:=hQ _ J.1 J.2.1 H;rw[Y]at E ⊢;rcases(S q I).2.2.2 with h|h|⟨_,_,_,h⟩
  .rw[h.1]at E;exact O3 E oh
  .rw[h.1]at E;exact O3 E oh
  obtain⟨p,hp,k1,k2⟩:=h e O g1.symm;have k3:=hR p hp;rw[k1]at k3;rw[hK _ J.2.2.2.1 J.2.2.2.2,k3,<-k1];exact⟨(S p hp).2.1,oa,λh=>oa⟩
 rw[hK s oa oa]at H;obtain⟨q,I,g1,Y⟩:=hQ s oa oa H;have hr:=(S q I).2.2.1;have hh:lft (flg n a.mr) s=decide ((s:Int)∈a.mr):=qX oa oa;have hB:lft (flg n fb) s=decide ((s:Int)∈fb):=qX oa oa;rw[Y,hh,hB];refine⟨hr.1,hr.2,λE=>?_,λE=>?_,λE=>?_⟩
 .rcases(S q I).2.2.2 with h|h|h
  .exact⟨h.2.1,O4 (g1 ▸ h.2.2)⟩
  .rw[h.1]at E;exact O3 E oh
  rw[h.1]at E;exact O3 E oh
 .rcases(S q I).2.2.2 with h|⟨_,e,O,k1,k2,k3,p,hp,k4,k5⟩|h
  .rw[h.1]at E;exact O3 E oh
  .have J:=V e O;have k6:=hR p hp;rw[k4]at k6;have k7:xM (rmQ n RS) e.1=q:=by rw[k1,g1];exact Y
   refine Qe6 oa _ _ (by rw[ME];omega) (λe O=>(V e O).1) (.inr ⟨e,O,k1.I g1,?_,?_⟩)
   .show(!lft _ e.1 && decide _)=true;rw[k7,E,hK _ J.1 J.2.1,k1,g1,H];rfl
   show(decide (e.2.1=_) && (lft _ e.2.1 && (!lft _ e.2.2 && decide _)))=true;rw[k7,k6,ht e O,hK _ J.2.2.2.1 J.2.2.2.2,<-k4,(S p hp).2.1,O4 k2,O4 k3,O4 k5];rfl
  rw[h.1]at E;exact O3 E oh
 rcases(S q I).2.2.2 with h|h|h
 .rw[h.1]at E;exact O3 E oh
 .rw[h.1]at E;exact O3 E oh
 exact⟨h.2.1,O6 (g1 ▸ h.2.2.1)⟩
structure Yd where
 kd:Int
 nm:ByteArray
 a:QU
 ls:List (ByteArray×Int)
 ts:List (ByteArray×Int)
 bd:Int
abbrev Vv:QU:=⟨[],0,[],[]⟩
abbrev qk:Zy:=⟨[],[],[],[],[]⟩
def UA (k:Int)(n:ByteArray)(x:Yd):Bool:=decide (x.kd=k) && decide (x.nm=n)
def YK (l:List Yd)(k:Int)(n:ByteArray):Nat:=l.findIdx (UA k n)
def Ve (l:List Yd)(k:Int)(n:ByteArray):Bool:=decide (YK l k n<l.length)
def Qbh (a:QU):Bool:=decide (a.st=0) && decide ((a.al.length:Int)+(a.mr.length:Int)+(a.ed.length:Int)=0)
def yO (x:Yd):Bool:=if x.kd=3 then Qbh x.a && decide ((x.ts.length:Int)=0) && decide (x.bd=0)else if x.kd=4 then Qbh x.a && decide ((x.ls.length:Int)=0)else decide ((x.ls.length:Int)+(x.ts.length:Int)=0) && decide (x.bd=0)
def dk1 (l:List Yd)(i:Nat)(x:Yd):Int :=
 if x.kd<1\/4<x.kd then 11 else if YE x.nm=false then 7 else if Ve (l.take i) x.kd x.nm=true then 8 else if 0<i/\x.kd<(l.getD (i - 1) ⟨0,.empty,Vv,[],[],0⟩).kd then 5 else if yO x=false then 6 else 0
def dkL (l:List Yd):Nat->List Yd->Int
 | _,[]=>0
 | i,x::r=>if dk1 l i x≠0 then dk1 l i x else dkL l (i+1) r
def KE (l:List Yd):Int:=if 76<l.length then 3 else dkL l 0 l
def zO (co:List Y0)(i:Int):Option ByteArray:=if i<0\/(co.length:Int)<=i then none else some (co.getD i.toNat ⟨.empty,Vv⟩).nm
def V6 (co:List Y0):xF->Option (List (ByteArray×Int))
 | []=>some []
 | y::l=>match zO co y.1 with
  | none=>none
  | some n=>(V6 co l).map ((n,y.2)::·)
def JI (co:List Y0):List Uf->Option (List Yd)
 | []=>some []
 | x::l=>match V6 co x.ls with
  | none=>none
  | some r=>(JI co l).map (⟨3,x.nm,Vv,r,[],0⟩::·)
def J8 (co:List Y0):List xT->Option (List Yd)
 | []=>some []
 | x::l=>match V6 co x.ts with
  | none=>none
  | some r=>(J8 co l).map (⟨4,x.nm,Vv,[],r,x.bd⟩::·)
def J7 (k:Int)(x:Y0):Yd:=⟨k,x.nm,x.a,[],[],0⟩
def Qd3 (c:Zy):Option (List Yd):=match JI c.co c.ex,J8 c.co c.cs with
 | some a,some b=>some (c.co.map (J7 1)++(c.rq.map (J7 2)++(a++b)))
 | _,_=>none
def ZT (c:Zy):Int×List Yd:=match Qd3 c with
 | none=>(2,[])
 | some l=>if KE l≠0 then(KE l,[])else(0,l)
def YF (l:List Yd):List (ByteArray×Int)->LI->List (Int×Int)->Int×xF
 | [],_,o=>(0,isrt (·.1) o)
 | y::r,tk,o=>if Ve l 1 y.1=false then(9,[])else if(YK l 1 y.1:Int)∈tk then(8,[])else YF l r (tk++[(YK l 1 y.1:Int)]) (o++[((YK l 1 y.1:Int),y.2)])
def KT (all:List Yd)(x:Yd)(c:Zy):Int×Zy :=
 if x.kd=1 then(0,{ c with co:=c.co++[⟨x.nm,x.a⟩] })else if x.kd=2 then(0,{ c with rq:=c.rq++[⟨x.nm,x.a⟩] })else
 if x.kd=3 then(if(YF all x.ls [] []).1≠0 then((YF all x.ls [] []).1,qk)else(0,{ c with ex:=c.ex++[⟨x.nm,(YF all x.ls [] []).2⟩] }))else
 if x.kd=4 then(if(YF all x.ts [] []).1≠0 then((YF all x.ts [] []).1,qk)else(0,{ c with cs:=c.cs++[⟨x.nm,(YF all x.ts [] []).2,x.bd⟩] }))else(0,c)
def QiI (all:List Yd):List Yd->Zy->Int×Zy
 | [],c=>(0,c)
 | x::l,c=>if(KT all x c).1≠0 then((KT all x c).1,qk)else QiI all l (KT all x c).2
def Uj (ev:List Kf)(l:List Yd):Int×Zy:=if KE l≠0 then(KE l,qk)else QiI l l ⟨ev,[],[],[],[]⟩
def zQ (l:List Yd)(x:Yd):Int×List Yd :=
 if KE l≠0 then(KE l,[])else if KE [x]≠0 then(KE [x],[])else if Ve l x.kd x.nm=true then(0,l.set (YK l x.kd x.nm) x)else if l.length=76 then(3,[])else
 (0,l.take (l.findIdx λy=>decide (x.kd<y.kd))++x::l.drop (l.findIdx λy=>decide (x.kd<y.kd)))
def zR (l:List Yd)(k:Int)(n:ByteArray):Int×List Yd :=
 if KE l≠0 then(KE l,[])else if Ve l k n=false then(10,[])else(0,l.take (YK l k n)++l.drop (YK l k n+1))
def j5 (l:List Yd)(e:Bool×Yd):Int×List Yd:=if e.1=true then zR l e.2.kd e.2.nm else zQ l e.2
def Qcr:List (Bool×Yd)->List Yd->Int×List Yd
 | [],l=>(0,l)
 | e::r,l=>if(j5 l e).1≠0 then((j5 l e).1,[])else Qcr r (j5 l e).2
def j4 (l:List Yd)(es:List (Bool×Yd)):Int×List Yd:=if KE l≠0 then(KE l,[])else Qcr es l
theorem Qhy {b:QU}:a=b↔(a.al=b.al/\a.st=b.st/\a.mr=b.mr/\a.ed=b.ed):=⟨λh=>by subst h;exact⟨U,U,U,U⟩,λh=>by cases a;cases b;simp_all⟩
theorem Qg4 {a b:Kf}:a=b↔(a.nm=b.nm/\a.co=b.co/\a.ob=b.ob/\a.fo=b.fo/\a.fl=b.fl):=⟨λh=>by subst h;exact⟨U,U,U,U,U⟩,λh=>by cases a;cases b;simp_all⟩
theorem QgS {a b:Y0}:a=b↔(a.nm=b.nm/\a.a=b.a):=⟨λh=>by subst h;exact⟨U,U⟩,λh=>by cases a;cases b;simp_all⟩
theorem yn {a b:Uf}:a=b↔(a.nm=b.nm/\a.ls=b.ls):=⟨λh=>by subst h;exact⟨U,U⟩,λh=>by cases a;cases b;simp_all⟩
theorem qg {a b:xT}:a=b↔(a.nm=b.nm/\a.ts=b.ts/\a.bd=b.bd):=⟨λh=>by subst h;exact⟨U,U,U⟩,λh=>by cases a;cases b;simp_all⟩
theorem Qht {a b:Zy}:a=b↔(a.ev=b.ev/\a.co=b.co/\a.rq=b.rq/\a.ex=b.ex/\a.cs=b.cs):=⟨λh=>by subst h;exact⟨U,U,U,U,U⟩,λh=>by cases a;cases b;simp_all⟩
instance:DecidableEq QU:=λ_ _=>decidable_of_iff _ Qhy.symm
instance:DecidableEq Kf:=λ_ _=>decidable_of_iff _ Qg4.symm
instance:DecidableEq Y0:=λ_ _=>decidable_of_iff _ QgS.symm
instance:DecidableEq Uf:=λ_ _=>decidable_of_iff _ yn.symm
instance:DecidableEq xT:=λ_ _=>decidable_of_iff _ qg.symm
instance:DecidableEq Zy:=λ_ _=>decidable_of_iff _ Qht.symm
abbrev Ky:=Int×ByteArray
structure xR where
 ky:Ky
 vr:Int
 sp:QU
 kp:LI
 ds:LI
 rm:List Q4
 c:Zy
structure Rp where
 kept:List Ky
 made:List Ky
 gone:List Ky
def Ya (c:Zy)(m:Vw):Ky:=(m.kd,if m.kd=1 then(c.rq.getD m.ix.toNat ⟨.empty,Vv⟩).nm else if m.kd=2 then(c.ex.getD m.ix.toNat ⟨.empty,[]⟩).nm else(c.cs.getD m.ix.toNat ⟨.empty,[],0⟩).nm)
def Vo (c:Zy)(v:Int)(m:Vw):xR:=⟨Ya c m,v,suA (Jr c m),(UB (Jr c m)).1,(UB (Jr c m)).2.1,(UB (Jr c m)).2.2,Jr c m⟩
def yS (l:List xR)(k:Ky):Option xR:=l.find? λp=>decide (p.ky=k)
def KK (c:Zy)(bf:List xR)(v:Int)(m:Vw):Int×xR×Bool :=
 if qR c m≠0 then(qR c m,Vo c v m,false)else match yS bf (Ya c m)with
 | some p=>if p.c=Jr c m then(0,p,true)else(Yo (Jr c m),Vo c v m,false)
 | none=>(Yo (Jr c m),Vo c v m,false)
def blL (c:Zy)(bf:List xR)(v:Int):List Vw->List xR->List Ky->List Ky->Int×List xR×List Ky×List Ky
 | [],o,k,n=>(0,o,k,n)
 | m::l,o,k,n=>if(KK c bf v m).1≠0 then((KK c bf v m).1,[],[],[])else
  if(KK c bf v m).2.2=true then blL c bf v l (o++[(KK c bf v m).2.1]) (k++[Ya c m]) n else blL c bf v l (o++[(KK c bf v m).2.1]) k (n++[Ya c m])
def qn (c:Zy)(bf:List xR)(v:Int):=blL c bf v (xq c) [] [] []
def KX (c:Zy)(bf:List xR)(v:Int):Int:=if Zf c≠0 then Zf c else(qn c bf v).1
def jC (c:Zy)(bf:List xR)(v:Int):List xR:=(qn c bf v).2.1
def Quf (c:Zy)(bf:List xR):List Ky:=(bf.filter λp=>decide (p.ky∉(xq c).map (Ya c))).map (·.ky)
def X0 (c:Zy)(bf:List xR)(v:Int):Rp:=⟨(qn c bf v).2.2.1,(qn c bf v).2.2.2,Quf c bf⟩
structure Sys where
 c:Zy
 ps:List xR
 made:Int
 rs:List Rp
 un:List (Zy×List xR)
def qQ (c:Zy):Int:=if(ZT c).1≠0 then(ZT c).1 else if Zf c≠0 then Zf c else KX c [] 0
def jY (c:Zy):Sys:=⟨c,jC c [] 0,((X0 c [] 0).made.length:Int),[],[]⟩
def edI (c:Zy)(es:List (Bool×Yd)):Int×List Yd:=if(ZT c).1≠0 then((ZT c).1,[])else j4 (ZT c).2 es
def q6 (c:Zy)(es:List (Bool×Yd)):Int×Zy:=if(edI c es).1≠0 then((edI c es).1,qk)else if(Uj c.ev (edI c es).2).1≠0 then((Uj c.ev (edI c es).2).1,qk)else if Zf (Uj c.ev (edI c es).2).2≠0 then(Zf (Uj c.ev (edI c es).2).2,qk)else(0,(Uj c.ev (edI c es).2).2)
def edE (s:Sys)(es:List (Bool×Yd)):Int:=if es.length=0 then 12 else if s.un.length=64 then 3 else if(q6 s.c es).1≠0 then(q6 s.c es).1 else KX (q6 s.c es).2 s.ps ((s.un.length:Int)+1)
def edS (s:Sys)(es:List (Bool×Yd)):Sys:=⟨(q6 s.c es).2,jC (q6 s.c es).2 s.ps ((s.un.length:Int)+1),s.made+((X0 (q6 s.c es).2 s.ps ((s.un.length:Int)+1)).made.length:Int),s.rs++[X0 (q6 s.c es).2 s.ps ((s.un.length:Int)+1)],s.un++[(s.c,s.ps)]⟩
def unS (s:Sys):Sys:=⟨(s.un.getLastD (s.c,s.ps)).1,(s.un.getLastD (s.c,s.ps)).2,s.made,s.rs.dropLast,s.un.dropLast⟩
abbrev Vb (k:Ky):LV:=[sS k.1,.string k.2]
theorem QoJ (a b:Kf):Kh (Zs a) (Zs b)=decide (a=b):=by
 rw[NU];simp only[Kh,eqV,oO,beq_iff_eq,decide_eq_true_eq,Qg4,and_true]
theorem Qkc (a b:Int×Int):Kh (QD a) (QD b)=decide (a=b):=by
 rw[NU];simp only[Kh,eqV,oO,beq_iff_eq,decide_eq_true_eq,Prod.ext_iff,and_true]
theorem QqB (a b:Q4):Kh (KM a) (KM b)=decide (a=b):=by
 rw[NU];simp only[Kh,eqV,oO,beq_iff_eq,decide_eq_true_eq,Prod.ext_iff,and_true]
theorem QkD (a b:Ky):Kh (Vb a) (Vb b)=decide (a=b):=by
 rw[NU];simp only[Kh,eqV,oO,beq_iff_eq,decide_eq_true_eq,Prod.ext_iff,and_true]
instance skEvt:Sk sV 169 [1,2,2,2,0]:=⟨⟨_,underlying169,.str oh U underlying9<|.flag oh U underlying4<|.flag oh U underlying4<|.flag oh U underlying4<|.int oh U underlying3 .nil⟩,od,od⟩
instance skLoc:Sk sV 107 [0,0]:=⟨⟨_,underlying107,.int oh U underlying3<|.int oh U underlying3 .nil⟩,od,od⟩
instance skTrm:Sk sV 112 [0,0]:=⟨⟨_,underlying112,.int oh U underlying3<|.int oh U underlying3 .nil⟩,od,od⟩
instance skRmv:Sk sV 261 [0,0,0,0]:=⟨⟨_,underlying261,.int oh U underlying3<|.int oh U underlying3<|.int oh U underlying3<|.int oh U underlying3 .nil⟩,od,od⟩
instance skKey:Sk sV 87 [0,1]:=⟨⟨_,underlying87,.int oh U underlying3<|.str oh U underlying9 .nil⟩,od,od⟩
theorem Qix {v:O9}{l l':List (Kf)}(h:Zk L ↑w v l.length 5 (l.flatMap Zs))(E:Zk L' ↑w v' l'.length 5 (l'.flatMap Zs)):
  QZ sV 147 [v,v'] w λr w'=>r=.bool (decide (l=l'))/\sW w w' :=
 eqG ⟨_,U,func147⟩ V2 (ldA V2) h E λ{_ _ _ _ _ _ _ _ _ a b} _ _ hx H=>(JW (xs:=Zs a) (ys:=Zs b) U hx H).I (by rw[QoJ];simp)
theorem Qiw {v:O9}{l l':xF}(h:Zk L ↑w v l.length 2 (l.flatMap QD))(E:Zk L' ↑w v' l'.length 2 (l'.flatMap QD)):
  QZ sV 151 [v,v'] w λr w'=>r=.bool (decide (l=l'))/\sW w w' :=
 eqG ⟨_,U,func151⟩ Yw (ldA Yw) h E λ{_ _ _ _ _ _ _ _ _ a b} _ _ hx H=>(JW (xs:=QD a) (ys:=QD b) U hx H).I (by rw[Qkc];simp)
theorem Qiv {v:O9}{l l':xF}(h:Zk L ↑w v l.length 2 (l.flatMap QD))(E:Zk L' ↑w v' l'.length 2 (l'.flatMap QD)):
  QZ sV 154 [v,v'] w λr w'=>r=.bool (decide (l=l'))/\sW w w' :=
 eqG ⟨_,U,func154⟩ Yw (ldA Yw) h E λ{_ _ _ _ _ _ _ _ _ a b} _ _ hx H=>(JW (xs:=QD a) (ys:=QD b) U hx H).I (by rw[Qkc];simp)
end Go.Lg
