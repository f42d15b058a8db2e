/- Merged out of 69 texts. -/
import Derived.Test.YtleldcnoenokmaaGreatDoorNca
import Derived.Laws.Strings
import Derived.RangeFuncNested
import Derived.RangeFuncLeaves
import Derived.RangeFuncCalls
import Derived.OrdersIn
import Derived.TacticsIn
set_option maxHeartbeats 40000000
set_option maxRecDepth 100000
set_option linter.all false
open Go Go.Lg
open Go.Value renaming int->oF
open Go.IntKind renaming i64->oG
open _root_.List renaming mem_singleton->oI,not_mem_nil->oJ,mem_cons->oK,length_append->oM,replicate->oN,length_singleton->oO,length->oP,getD->oQ,all_cons->oR,range'->oS,range->oT,mem_append->oU,length_cons->oV,map_cons->oX,getElem?_toArray->oZ,append_assoc->o0,cons_append->Ob,length_map->Oc,size_toArray->Od,getElem?_eq_getElem->Oe,headD_cons->Ok,all_eq_true->Ol,flatMap_cons->Om,tail_cons->On,singleton_append->Ov,range'_succ->Oy,mem_map->OA,mem_range'_1->OE,take_append->OH,map_nil->OI
open _root_.Bool renaming and_eq_true->oL,or_eq_false_iff->Of,not_eq_true'->Oi,true_and->OK
open _root_.Array renaming replicate->oW
open _root_.Nat renaming add_mul->Oo,add_assoc->OJ,zero_mul->OM,beq->OQ
open _root_.Int renaming toNat_natCast->Ot
open _root_.Option renaming map_some->Ox
open Go renaming World->OZ,Value->O0,Operand->O1,Program->O2
open Go.Proofs Go.Proofs.Tryz
variable {w w' W':OZ}{L L' X ds ns av:LN}{n t i sz b T j E N g o id ty cap b1 B kt lo hi b2 et G M gf gp:Nat}{cs us news capt:LV}{H:xx}{a:Zd}{α β:Type}{y:O1}{z va ve vm vt v' vs vl vx vk:O0}{l u al ul out rs:LI}{f f1:Fr}{P:O2}{fn:Func}{aa:List Zd}{s:Int}{es:List Ed}{d:xC}{af:xz}{gd:xo}{K:xu}{k':IntKind}{ops:xA}{rest:xp}{Φ:O0→OZ→Prop}
namespace Go.Lg
section
variable {all:xA}{C:xw}
def yb (all:Array Oper)(i j:Nat)(E G:xp):xp->Array Bool->Bool
 | [],ls=>Region.ready .any all ls == [i,j] && Y9 all E (ls.setIfInBounds i true) && Y9 all G (ls.setIfInBounds j true)
 | (k,q)::pl,ls=>q && (Region.ready .any all ls).contains k && Region.free .any all ls k && yb all i j E G pl (ls.setIfInBounds k true)
def QiN (all:xA)(pl:xp)(i j:Nat)(E G:xp):Bool :=
 Region.noSelect all.toArray && pl.length+1+E.length == all.length && E.length == G.length && yb all.toArray i j E G pl (oW all.length false)
def Fk (P:O2)(all:xA)(C:xw)(K:xu)(i j:Nat)(G H:xp)(f:Fr)(w:OZ):Prop :=
 (Z4 all f (QV all i)=true/\XO P (QV all i) f w λE w'=>C w'/\XP P all C K G E w') /\
 (Z4 all f (QV all j)=true/\XO P (QV all j) f w λE w'=>C w'/\XP P all C K H E w')
theorem Ua {i j:Nat}{G V:xp}(hl:G.length=V.length)(H:Region.noSelect all.toArray=true):∀(pl:xp) (ls:Array Bool) (f:Fr) (w:OZ),ls.size=all.length->C w->yb all.toArray i j G V pl ls=true ->
  XP P all C (Fk P all C K i j G V) pl f w->XA P all C K (pl.length+(1+G.length)) ls f w
 | [],ls,f,w,ha,I,J,h=>by
  simp only[yb,oL,beq_iff_eq]at J;obtain⟨⟨O,h1⟩,h2⟩:=J;simp only[XP]at h;rw[Ng,LX,Na];refine XC (λh0=>(by rw[h0]at O;cases O)) ?_;rw[O];intro k hk o E;have S:(ls.setIfInBounds k true).size=all.length:=by simpa using ha
  simp only[oK,oJ,or_false]at hk;rcases hk with rfl|rfl
  ·have:=h.1;rw[Zq E]at this;rw[this.1,cond_true];exact this.2.mono λv w' hx=>⟨.inr (.inr hx.1),ZN H G _ _ _ S (.inl hx.1) h1 hx.2⟩
  have:=h.2;rw[Zq E]at this;rw[this.1,cond_true,hl];exact this.2.mono λv w' hx=>⟨.inr (.inr hx.1),ZN H V _ _ _ S (.inl hx.1) h2 hx.2⟩
 | (T,q)::pl,ls,f,w,ha,I,J,h=>by
  simp only[yb,oL]at J;obtain⟨⟨⟨rfl,O⟩,hf⟩,hc⟩:=J;simp only[XP]at h;have hb:T∈Region.ready .any all.toArray ls:=by simpa using O
  have e:(oP ((T,true)::pl))+(1+G.length)=(pl.length+(1+G.length))+1:=by simp;omega
  rw[e];cases E:all[T]? with
  | none =>
   exfalso;obtain⟨_,o,hi,_⟩:=mem_ready.1 hb;simp[E]at hi
  | some o =>
   rw[Zq E]at h;have he:∀(j:Nat) (o:Oper) cs b,all[j]?=some o->o.op≠.select cs b:=λj o cs b hj=>Region.noSelect_spec H j o cs b (oz hj);have hh:=λj oj hj=>Region.free_spec (ops:=all.toArray) (md:=.any) (i:=T) (oi:=o) (listed:=ls) (oz E) hf j oj (oz hj);have S:(ls.setIfInBounds T true).size=all.length:=by simpa using ha
   cases Y:Z4 all f o with
   | false =>
    rw[Y]at h;exact Xe (v:=undef) (D:=λw=>U0 o=true->C w) E (λ_ h=>h) he _ ls f w (λ_=>I) hh hb (.inr ⟨Y,U⟩) (Ua hl H pl _ _ _ S I hc h)
   | true =>
    rw[Y]at h;simp only[cond_true]at h;obtain⟨v,hv,hx⟩:=h;exact Xe (v:=v) (D:=λw=>U0 o=true->C w) E (λ_ h=>h) he _ ls f w (λ_=>I) hh hb (.inl ⟨Y,hv⟩) (Ua hl H pl _ _ _ S I hc hx)
theorem Qmu {Q:Exit->Fr->OZ->Prop}(C:xw)(pl:xp)(i j:Nat)(G H:xp)(J:P.follows .mixedOrders=true)(O:X4 n all=true)(E:QiN all pl i j G H=true)
  (S:C { w with drawn:=w.drawn+1 }) (h:XP P all C (Fk P all C (λf w=>Q .normal f w) i j G H) pl f { w with drawn:=w.drawn+1 }):W P n (.region id all.toArray true) Q f w:=by
 simp only[QiN,oL,beq_iff_eq]at E;obtain⟨⟨⟨T,hl⟩,V⟩,E⟩:=E;refine JG C J O ?_;have I:=Ua V T pl _ _ _ oe S E h;rw[<-OJ,hl]at I;exact I
end
theorem ZI (h:i<l.length):l[i]=O4 l i:=by simp[O4,oQ,h]
section
variable {l:xA}{pS:String}{C:xw}{pl:xp}{i0:Nat}
theorem xic {x:O1}{e bys:Nat}[Sl P t e 1 bys z]{li:LI}{v:O0}{k:IntKind}
  (h:QQ L w.heap v li) (E:ev f x=v) (G:ev f y=.int k i) (hi:i<li.length)
  (hK:∀a,At L w.heap a [oF oG (O4 li i)]->XL P ops K l (QY f d (.pointer (some a))) w) (H:Z4 ops f ⟨d,.indexAddr t x y,ty,pS,af,gd⟩=true:=by rfl):
  XL P ops K (⟨d,.indexAddr t x y,ty,pS,af,gd⟩::l) f w :=
 xii h E G hi (λa I=>hK a (by rw[<-ZI hi];exact I)) H
theorem pic {x:O1}{e bys:Nat}[Sl P t e 1 bys z]{li:LI}{v:O0}{k:IntKind}
  (E:QV ops i0=⟨d,.indexAddr t x y,ty,pS,af,gd⟩) (h:QQ L H v li) (G:ev f x=v) (I:ev f y=.int k i) (hi:i<li.length)
  (hK:∀a,At L H a [oF oG (O4 li i)]->XP P ops C K pl (QY f d (.pointer (some a))) w) (J:Z4 ops f (QV ops i0)=true:=by rfl):XP P ops C K ((i0,true)::pl) f w :=
 pii E h G I hi (λa O=>hK a (by rw[<-ZI hi];exact O)) J
end
theorem QhE {a:Nat}(h:a<n):oS a (n - a)=a::oS (a+1) (n - (a+1)):=by
 rw[show n - a=(n - (a+1))+1 by omega,M7]
theorem QkW {a:Nat}(h:n<=a):oS a (n - a)=[]:=by rw[show n - a=0 by omega];rfl
section
variable {pS:String}{κ:Type}[DecidableEq κ]
end
theorem Qeb {aa:List Zd}{i:Nat}{t:LI}(G:∀a∈aa,ZJ a)(H:Vt aa t):∀(vs:LI) (s E:Sy),qv aa s->zu aa i t vs s=some E->qv aa E
 | [],s,E,h,e=>by cases e;exact h
 | v::vs,s,E,h,e=>by
  rw[zu]at e;obtain⟨I,J,O⟩:=MP.1 e;exact Qeb G H vs I E (Qhk G h H J) O
theorem Qhg {aa:List Zd}(G:∀a∈aa,ZJ a):∀(f i:Nat) (s E:Sy),qv aa s->syL aa f i s=some E->qv aa E
 | 0,i,s,E,h,e=>by cases e;exact h
 | f+1,i,s,E,h,e=>by
  rw[syL]at e;split at e
  ·rename_i hi;obtain⟨H,I,J⟩:=MP.1 e;have O:Vt aa (yZ s i):=h.v _ (by unfold yZ;simp[oQ,hi]);exact Qhg G f _ H E (Qeb G O _ _ _ (y0 h) I) J
  cases e;exact h
theorem Qnd (H:∀a∈aa,ZJ a)(I:¬∃a∈aa,a.st=0):qv aa (y8 aa):=by
 refine⟨λt E=>?_,by simp[y8]⟩;simp only[y8,oI]at E;subst E;refine⟨oe,λi J G=>?_⟩;have O:=(H aa[i] (Lm G)).st0;have S:aa[i].st≠0:=λe=>I ⟨aa[i],Lm G,e⟩;simp only[List.getElem_replicate];omega
theorem qZ (E:∀a∈aa,ZJ a){z:Zd×List (LI)}(h:xh aa=some z):(∀t∈z.2,Vt aa t)/\z.2.length<=4096:=by
 unfold xh at h;split at h
 ·cases h;simp
 rename_i G;obtain⟨s,H,rfl⟩:=Mo.1 h;have:=Qhg E _ _ _ _ (Qnd E G) H;exact⟨this.v,this.le⟩
def opC (p s:Zd):Int:=if KD p≠0 then KD p else if KD s≠0 then KD s else if mrg (λp q=>p && !q) s.al p.al=[]then 0 else 9
def opE (p s:Zd):Int:=if opC p s≠0 then opC p s else match xh [p,s]with|none=>3|some _=>0
def opQ (p s:Zd):List (LI):=match xh [p,s]with|none=>[]|some z=>z.2
def Qpq (l:LI):Int:=(l.drop 1).foldl max (O4 l 0)
theorem Kn {v:O0}(h:Jo N w.heap v a)(G:b<N)(H:O3 [b] w w'):Jo N w'.heap v a:=by
 obtain⟨va,vm,ve,I,J⟩:=h;refine⟨va,vm,ve,I,λL O=>?_⟩;exact((J (b::L) (λc E=>by rcases Li.1 E with rfl|E;exact G;exact O c E)).st (H.mono oe)).up (λc E=>.inl (Lk _ E))
theorem Qj0 {v:O0}{l:List (LI)}(h:QdS N w.heap v l)(G:b<N)(H:O3 [b] w w'):QdS N w'.heap v l:=by
 obtain⟨ps,I,J⟩:=h;refine⟨ps,I,λL O=>?_⟩;exact((J (b::L) (λc E=>by rcases Li.1 E with rfl|E;exact G;exact O c E)).st (H.mono oe)).up (λc E=>.inl (Lk _ E))
theorem JH {v:O0}(h:Jo N H v a):∃us,v=.agg us.toArray/\us.length=4/\Zj us:=by
 obtain⟨va,vm,ve,E,G⟩:=h;have:=G [] oe;exact⟨[va,oF oG a.st,vm,ve],E,U,this.al.one,U,this.mr.one,this.ed.one,Z⟩
theorem Qa1 (h:ZK L w.heap va vm ve a):
  Q5 prog 141 [.agg #[va,oF oG a.st,vm,ve]] w λr w'=>O3 [] w w'/\∃v,r=.tuple #[v,oF oG (KD a)]/\(KD a≠0->v=zA)/\(KD a=0->Jo w.heap.size w'.heap v (KT a)):=by
 refine Zs func141 ntmps141 results141 ?_;refine Qe<|Qa<|QS (us:=[va,oF oG a.st,vm,ve]) U λb1 w1 T hl V=>Qa<|Qo (us:=[nS,oF oG 0,nS,nS]) U λb2 w2 G hm H=>Qc ?_;have I:=T.D G;refine Qd<|Qe<|Q2 (V.I G) U U<|Qa<|xf<|(JF (h.I I)).mono ?_;rintro r3 w3 ⟨rfl,E⟩;refine Qc ?_;have hn:=T.size;refine Qm<|ZA U U<|xe<|QZ rfl (λJ=>?_) (λJ=>?_)
 ·refine Qe<|x (Qz Z)<|Qb<|Qa<|Qj (us:=[nS,oF oG 0,nS,nS]) (H.I E) U U U U oC λw4 hf hg=>Qc ?_;exact Ql ⟨[zA,oF oG (KD a)],⟨⟨_,U,Qn U (hg.at (L:=[]) oe).cells⟩,rfl,Z⟩,(I.D E).O hf oa,zA,rfl,λ_=>rfl,λe=>OU e J⟩
 have O:KD a=0:=Lo.1 J;have hh:=(Z6 a).1 O;have ho:=H.lt;have S:=I.D E;refine Qh<|Qe<|Q2 ((V.I G).I E) U U<|Qa<|xf<|(KE (h.I S) hh).mono ?_;rintro v w5 ⟨Y,hF⟩;obtain⟨us,ha,hb,hi⟩:=JH hF;have hp:=E.size;have hj:=S.size;refine Qa<|Qj (us:=us) ((H.I E).I Y) U ha hb U hi λw6 he hk =>
  Qc<|Ql ⟨[.agg us.toArray,oF oG 0],⟨⟨_,U,Qn hb (hk.at (L:=[]) oe).cells⟩,rfl,Z⟩,(S.D Y).O he oa,v,by rw[O,ha];rfl,λe=>OU O e,λ_=>?_⟩
 exact(Kn hF oa he).mono hj
def gget:List ((Int×Int)×Int)->Int×Int->Option Int
 | [],_=>none
 | (k',v)::m,k=>if k'=k then some v else gget m k
def gput:List ((Int×Int)×Int)->Int×Int->Int->List ((Int×Int)×Int)
 | [],k,v=>[(k,v)]
 | (k',v')::m,k,v=>if k'=k then(k',v)::m else(k',v')::gput m k v
def Qqv (s:Zd)(cls:LI)(x:Nat)(m:List ((Int×Int)×Int))(v:Int):List ((Int×Int)×Int):=gput m (O4 cls x,v) (O4 cls (to0 s x v).toNat)
def Qqs (s:Zd)(l:List Ug)(cls:LI)(z:LI×List ((Int×Int)×Int))(x:Nat):LI×List ((Int×Int)×Int):=
 if O4 cls x<0 then z else(if((lget l x).mk' && (lget l x).ps)=true then Qm9 z.1 (O4 cls x)else z.1,(lget l x).en.foldl (Qqv s cls x) z.2)
def Qpd (s:Zd)(l:List Ug)(cls:LI):LI×List ((Int×Int)×Int):=(oS 0 cls.length).foldl (Qqs s l cls) ([],[])
def Qqu (m:List ((Int×Int)×Int))(c:Nat)(v:Int):Option Ed:=(gget m ((c:Int),v)).map λt=>((c:Int),v,t)
def Qqt (m:List ((Int×Int)×Int))(al:LI)(n:Nat):List Ed:=(oS 0 n).flatMap λc=>al.filterMap (Qqu m c)
def Qqw (s:Zd)(l:List Ug)(cls:LI):Zd:=⟨s.al,Qpq cls+1,(Qpd s l cls).1,Qqt (Qpd s l cls).2 s.al (Qpq cls+1).toNat⟩
def red (p s:Zd):Zd:=Qqw s (ctls p s (opQ p s)) (QpU p s (opQ p s))
def xG (p s:Zd):Int:=if opE p s≠0 then opE p s else if opQ p s=[]then 0 else KD (red p s)
theorem Kg (h:i<l.length):O4 l i∈l:=by rw[<-ZI h];exact Lm h
theorem Zk (a:α){Q:Prop}(h:∀b,a=b->Q):Q:=h a U
theorem exN {a:Int}(E:0<=a){Q:Prop}(h:∀u:Nat,a=u->Q):Q:=h a.toNat (Int.toNat_of_nonneg E).symm
theorem j6 {J n1 I:Nat}(S:Q7 H b1 3 (a.al.map (.int .i64)))(T:Q7 H b2 3 (a.mr.map (.int .i64)))(V:Q7 H J 213 (a.ed.flatMap QF))(g1:N<=b1)(g2:N<=b2)(g3:N<=J)
  (Y:a.al.length=n1) (l2:a.mr.length=G) (l3:a.ed.length=I) (m1:n1<=1000) (m2:G<=1000) (m3:I<=1000):
  Jo N H (.agg #[.slice (some ⟨b1,0,none⟩) n1 n1,oF oG a.st,.slice (some ⟨b2,0,none⟩) G G,.slice (some ⟨J,0,none⟩) I I]) a:=by
 subst Y l2 l3;refine⟨_,_,_,U,λL O=>⟨?_,?_,?_⟩⟩
 ·exact S.arr (λE=>ou (O _ E)) oe oa (Lx _)
 ·exact T.arr (λE=>ou (O _ E)) oe oa (Lx _)
 exact V.arr (λE=>ou (O _ E)) (by rw[YZ _ 3 JU]) oa (Lx _)
section
variable {pS:String}
class Ay (P:O2)(t:Nat)(m e sz:outParam Nat):Prop where
 u:P.underlying t=some (.array m e)
 i:(P.info? e).map (·.size)=some sz
theorem Z3 {x:O1}{m e:Nat}[h:Ay P t m e sz]{k:IntKind}(hx:ev f x=.pointer (some ⟨b,o,none⟩))(G:ev f y=.int k i)(H:i<m):
  (execOp (ev f) ⟨d,.indexAddr t x y,ty,pS,af,gd⟩).run P w=.ok (.value (.pointer (some ⟨b,o+i*sz,none⟩))) w:=by
 have hi:=h.i;cases E:P.info? e with
 | none=>simp[E]at hi
 | some ii =>
  simp[E]at hi;simp[execOp,hx,G,Instr.indexAt,asIntOf,run_underlying h.u,Instr.sureAddr,sizeOf,typeInfo,E,hi,Ka];intro I;omega
theorem Qmq {a:Nat}(E:a<256):inK .u8 ((a &&& b:Nat):Int):=by
 have:a &&& b<=a:=Nat.and_le_left;exact⟨oa,oa⟩
theorem zJ {x:O1}{a:Nat}(hx:ev f x=.int .u8 a)(H:ev f y=.int .u8 b)(E:a<256)(I:b<256):
  (execOp (ev f) ⟨d,.binOp .and t x y G,ty,pS,af,gd⟩).run P w=.ok (.value (.int .u8 ((a &&& b:Nat):Int))) w:=by
 refine Jd hx H ?_;simp only[binOp,Op.intBits,BitVec.ofInt_natCast,ne_eq,not_true_eq_false,if_false,Sem.run_pure];rw[BitVec.toNat_and,BitVec.toNat_ofNat,BitVec.toNat_ofNat,M8 (show a<2 ^ IntKind.u8.bits from E),M8 (show b<2 ^ IntKind.u8.bits from I),YD (Qmq E)]
theorem Qae (m i:Nat):((m:Int) / 2 ^ i)=((m / 2 ^ i:Nat):Int):=by rw[Int.natCast_ediv,Int.natCast_pow];rfl
end
inductive Pt where
 | pl (l:xp)
 | fk (pre:xp) (i j:Nat) (t1 t2:Pt)
def Pt.len:Pt->Nat
 | .pl l=>l.length
 | .fk pre _ _ t1 _=>pre.length+(1+t1.len)
def Kq (all:Array Oper):xp->Array Bool->Bool
 | [],_=>true
 | (k,q)::pl,ls=>q && (Region.ready .any all ls).contains k && Region.free .any all ls k && Kq all pl (ls.setIfInBounds k true)
def Z0:xp->Array Bool->Array Bool
 | [],ls=>ls
 | (k,_)::pl,ls=>Z0 pl (ls.setIfInBounds k true)
def XT (P:O2)(all:xA)(C:xw)(K:xu):Pt->Fr->OZ->Prop
 | .pl l=>XP P all C K l
 | .fk pre i j t1 t2=>XP P all C (λf w=>(Z4 all f (QV all i)=true/\XO P (QV all i) f w λE w'=>C w'/\XT P all C K t1 E w') /\
   (Z4 all f (QV all j)=true/\XO P (QV all j) f w λE w'=>C w'/\XT P all C K t2 E w')) pre
section
variable {all:xA}{C:xw}{B:xu}
theorem YG:∀(pl:xp) (ls:Array Bool),(Z0 pl ls).size=ls.size
 | [],_=>rfl
 | (k,q)::pl,ls=>by rw[Z0,YG];simp
theorem YC {m:Nat}(O:Region.noSelect all.toArray=true):∀(pl:xp) (ls:Array Bool) (f:Fr) (w:OZ),C w->Kq all.toArray pl ls=true ->
  (∀f,B f w->XA P all C K m (Z0 pl ls) f w)->XP P all C B pl f w->XA P all C K (pl.length+m) ls f w
 | [],ls,f,w,E,S,H,h=>by
  simp only[XP]at h;rw[Ng,LX];exact H f h
 | (I,q)::pl,ls,f,w,E,S,H,h=>by
  simp only[Kq,oL]at S;obtain⟨⟨⟨rfl,hr⟩,hf⟩,Y⟩:=S;simp only[XP]at h;have T:I∈Region.ready .any all.toArray ls:=by simpa using hr
  have e:(oP ((I,true)::pl))+m=(pl.length+m)+1:=by simp;omega
  rw[e];cases G:all[I]? with
  | none =>
   exfalso;obtain⟨_,o,hc,_⟩:=mem_ready.1 T;simp[G]at hc
  | some o =>
   rw[Zq G]at h;have ha:∀(j:Nat) (o:Oper) cs b,all[j]?=some o->o.op≠.select cs b:=λj o cs b V=>Region.noSelect_spec O j o cs b (oz V);have hb:=λj oj V=>Region.free_spec (ops:=all.toArray) (md:=.any) (i:=I) (oi:=o) (listed:=ls) (oz G) hf j oj (oz V);cases J:Z4 all f o with
   | false =>
    rw[J]at h;exact Xe (v:=undef) (D:=λw=>U0 o=true->C w) G (λ_ h=>h) ha _ ls f w (λ_=>E) hb T (.inr ⟨J,U⟩) (YC O pl _ _ _ E Y H h)
   | true =>
    rw[J]at h;simp only[cond_true]at h;obtain⟨v,hv,hx⟩:=h;exact Xe (v:=v) (D:=λw=>U0 o=true->C w) G (λ_ h=>h) ha _ ls f w (λ_=>E) hb T (.inl ⟨J,hv⟩) (YC O pl _ _ _ E Y H hx)
end
theorem Y1.lt_of {a:Int}(h:Y1 (a::l)){x:Int}(hx:x∈l):a<x:=(L3.1 h).1 x hx
theorem Y1.tail {a:Int}(h:Y1 (a::l)):Y1 l:=(L3.1 h).2
theorem Qlh (keep:Bool->Bool->Bool):∀(n:Nat) (a b:LI),a.length+b.length<=n->Y1 a->Y1 b->∀x,x∈mrg keep a b↔(x∈a\/x∈b)/\keep (decide (x∈a)) (decide (x∈b))=true:=by
 intro n;induction n with
 | zero =>
  intro a b h _ _ x;have S:a=[]:=Lq oa;have T:b=[]:=Lq oa;subst S T;simp[Kw]
 | succ n ih =>
  intro a b H ia ib x;cases a with
  | nil =>
   cases b with
   | nil=>simp[Kw]
   | cons y b =>
    rw[J9 keep oe];have:=ih [] b (by simp at H ⊢;omega) ia ib.tail x;have G:y∉b:=λh=>ou (ib.lt_of h)
    simp only[Jj,tl,hx,cond_true,cond_false,On,Ok,oU];rw[this];by_cases e:x=y
    ·subst e;cases E:keep false true <;> simp[E,G]
    cases keep false true <;> simp[e]
  | cons u a =>
   cases b with
   | nil =>
    rw[J9 keep oe];have:=ih a [] (by simp at H ⊢;omega) ia.tail ib x;have G:u∉a:=λh=>ou (ia.lt_of h)
    simp only[Jj,tl,hx,cond_true,cond_false,On,Ok,oU];rw[this];by_cases e:x=u
    ·subst e;cases E:keep true false <;> simp[E,G]
    cases keep true false <;> simp[e]
   | cons y b =>
    rw[J9 keep oe];have O:u∉a:=λh=>ou (ia.lt_of h)
    have G:y∉b:=λh=>ou (ib.lt_of h)
    rcases Int.lt_trichotomy u y with I|I|I
    ·have J:u∉y::b:=λh=>by
      rcases Li.1 h with h|h
      ·omega
      have:=ib.lt_of h;omega
     have:=ih a (y::b) (by simp at H ⊢;omega) ia.tail ib x;have e1:decide (u<=y)=true:=OV oa;have e2:decide (y<=u)=false:=OX oa;simp only[Jj,tl,hx,e1,e2,cond_true,cond_false,On,Ok,oU];rw[this];by_cases e:x=u
     ·subst e;cases E:keep true false <;> simp[E,O,J]
     cases keep true false <;> simp[e]
    ·subst I;have:=ih a b (by simp at H ⊢;omega) ia.tail ib.tail x;have e1:decide (u<=u)=true:=OV oa;simp only[Jj,tl,hx,e1,cond_true,On,Ok,oU];rw[this];by_cases e:x=u
     ·subst e;cases E:keep true true <;> simp[E,O,G]
     cases keep true true <;> simp[e]
    have J:y∉u::a:=λh=>by
     rcases Li.1 h with h|h
     ·omega
     have:=ia.lt_of h;omega
    have:=ih (u::a) b (by simp at H ⊢;omega) ia ib.tail x;have e1:decide (u<=y)=false:=OX oa;have e2:decide (y<=u)=true:=OV oa;simp only[Jj,tl,hx,e1,e2,cond_true,cond_false,On,Ok,oU];rw[this];by_cases e:x=y
    ·subst e;cases E:keep false true <;> simp[E,G,J]
    cases keep false true <;> simp[e]
theorem zf {keep:Bool->Bool->Bool}{a b:LI}(ia:Y1 a)(ib:Y1 b)(x:Int):x∈mrg keep a b↔(x∈a\/x∈b)/\keep (decide (x∈a)) (decide (x∈b))=true :=
 Qlh keep _ a b (Lx _) ia ib x
def setK (m k:Nat):LI:=((oS 0 k).filter λi=>decide (((m / 2 ^ i) &&& 1)=1)).map λi:Nat=>(i:Int)
theorem UY (m k:Nat):setK m (k+1)=if(m / 2 ^ k) &&& 1=1 then setK m k++[(k:Int)]else setK m k:=by
 unfold setK;rw[MQ,LZ,Lp,LX];by_cases h:(m / 2 ^ k) &&& 1=1
 ·rw[OS h,Mc,OS (OV h)];rfl
 rw[OR h,Mc,OR (by rw[OX h];simp),NL,Nk,LS]
theorem Jw (m:Nat):∀k,(setK m k).length<=k
 | 0=>by simp[setK]
 | k+1=>by
  have:=Jw m k;rw[UY];split
  ·simp;omega
  omega
theorem Qbn (m k:Nat):Y1 (setK m k):=by
 unfold setK Y1;rw[MW];refine List.Pairwise.sublist Nh ?_;exact(NF (s:=0) (n:=k)).imp (λh=>oa)
instance ayCx1:Ay prog 68 4 5 1:=⟨od,od⟩
section
variable {pS:String}
theorem qN {e bys:Nat}[h:Sl P t e sz bys z]{base:Nat}{v:O0}(E:w.ownsRow base e sz v n cs):
  (Builtin.append_ #[t,t] ty #[v,nS]).run P w=.ok v w:=by
 obtain⟨i,hi,_,H,_⟩:=Sl.info h;rcases E.2 with⟨rfl,rfl⟩|⟨g,cap,cur,rfl,I,J,G,O,S,T⟩
 ·simp[Builtin.append_,run_underlying h.u,sizeOf,typeInfo,hi,Builtin.lenOf,Builtin.firstCells]
 simp[Builtin.append_,run_underlying h.u,sizeOf,typeInfo,hi,Builtin.lenOf,Builtin.firstCells,G,storeCells]
theorem Qas {e bys:Nat}[h:Sl P t e sz bys z]{s:O1}{base:Nat}{v:O0}(E:w.ownsRow base e sz v n cs)(I:ev f s=v)
  {v2:O0} {m:Nat}   (G:Zv L w.heap v2 m sz news) (J:ev f y=v2) (O:∀u∈news,u.oneCell'=true)
  (H:n+m<=1099511627776) (S:base<=w.heap.size)
  (hK:∀v' w',w'.ownsRow base e sz v' (n+m) (cs++news)->O3 (ob v) w w'->(∀b∈ob v',b∈ob v\/w.heap.size<=b)->K (QY f d v') w') (T:bys<=128:=by decide):
  XO P ⟨d,.call ⟨.builtin .append,#[s,y],#[t,t]⟩,ty,pS,af,gd⟩ f w K:=by
 rcases G.2.2 with⟨e1,e2⟩|⟨a,c,e1,_,e3⟩
 ·subst e2;have V:news=[]:=Lq (by have:=G.1;simpa using this);subst V;have Y:(execOp (ev f) ⟨d,.call ⟨.builtin .append,#[s,y],#[t,t]⟩,ty,pS,af,gd⟩).run P w=.ok (.value v) w:=by
   simp[execOp,resolve,invoke,builtin,I,J,e1,qN (ty:=ty) E]
  exact xv Y (hK v w (oz E) (O3.Z _ _) (λb H=>.inl H))
 exact Za E I (J.D e1) G.1 e3 O H S hK T
end
theorem QeQ {v:O0}(h:QQ L w.heap v l)(x:Int):
  Q5 prog 160 [v,oF oG x] w λr w'=>r=.bool (decide (x∈l))/\w'=w:=by
 have S:=h.le;refine Zs func160 ntmps160 results160 ?_;refine Qe<|Lg.Qc<|Qd<|Qe<|Lg.Qc<|Qg<|QC (α:=Nat) [(4,17)] (λk=>[(5,oF oG k)]) (λk w'=>w'=w/\k<=l.length/\(x∈l↔x∈l.drop k)) (λk=>l.length - k) ol 0 La ⟨U,Ln _,oe⟩ ?_;rintro k g w' ⟨rfl,T,G⟩;refine Qd<|Qe<|Lg.Qb<|Lg.Qb<|Lg.x (Yo h U)<|Lg.QX U U<|xe<|QG rfl (λJ=>?_) (λJ=>?_)
 ·refine Qx<|Qe<|Lg.Qc<|Ql ⟨[.bool false],La,?_,U⟩;rw[Lr oa]at G;simp[tup,G]
 have I:k<l.length:=oa
 have hd:=Zf I;refine Qh<|Qd<|Qg<|Qe<|Lg.Qb<|Lg.Qb<|xii h U U I λV O=>Lg.x (QD O U)<|Lg.Qb<|Lg.x (Q9 U U)<|xe<|QZ rfl (λH=>?_) (λH=>?_)
 ·refine Qe<|Lg.Qc<|Ql ⟨[.bool true],La,?_,U⟩;have:x∈l:=by rw[G,hd,H];exact Lt
  simp[tup,this]
 refine Qh<|Qw<|Lg.Qb<|Lg.QN U U<|Lg.Qc<|⟨k+1,oa,La,U,oa,?_⟩;rw[G,hd,Li];exact⟨λh=>h.resolve_left (λe=>H e.symm),.inr⟩
theorem Qbg (h:qX L w.heap ve a.ed)(s e:Int)(st:Int):
  Q5 prog 161 [.agg #[va,oF oG st,vm,ve],oF oG s,oF oG e] w λr w'=>r=oF oG (xd a.ed s e)/\O3 [] w w':=by
 have he:=h.le;refine Zs func161 ntmps161 results161 ?_;refine Qe<|Qa<|QS (us:=[va,oF oG st,vm,ve]) U λb3 T J hf G=>Lg.Qc ?_
 replace h:=h.I J;refine Qd<|Qe<|Lg.Qc<|Qg<|QC (α:=Nat) [(6,38)] (λk=>[(7,oF oG k)]) (λk w'=>w'=T/\k<=a.ed.length/\xd (a.ed.drop k) s e=xd a.ed s e) (λk=>a.ed.length - k) ol 0 La ⟨U,Ln _,U⟩ ?_;rintro k g V ⟨rfl,hk,H⟩;refine Qd<|Qe<|Lg.Qb<|Lg.Q0 U<|Lg.x (Qq G U U)<|Lg.x (Yo h U)<|Lg.QX U U<|xe<|QG rfl (λY=>?_) (λY=>?_)
 ·refine Qx<|Qe<|Lg.Qc<|Ql ⟨[oF oG (-1)],La,?_,J⟩;rw[Lr oa]at H;rw[<-H];rfl
 have I:k<a.ed.length:=oa
 have hd:=Zf I;refine Qh<|Qd<|Qg<|Q3 (α:=Bool) [(15,32)] (λz=>[(32,.bool z)]) (λz w'=>w'=V/\z=decide (a.ed[k].1=s/\a.ed[k].2.1=e)) ol ?_ ?_
 ·refine Qw<|Lg.Q0 U<|Lg.x (Qq G U U)<|Lg.Qb<|xie h U U I λhg ha=>Lg.x (Zg U)<|Lg.x (QD (ha.fld 0 _ U) U) <|
   Lg.Qb<|xb (Q9 U U) (λO=>?_) (λO=>?_)
  ·refine Lg.Qb<|Lg.Q0 U<|Lg.x (Qq G U U)<|Lg.Qb<|xie h U U I λhh hb=>Lg.x (Zg U)<|Lg.x (QD (hb.fld 1 _ U) U) <|
    Lg.Qb<|Lg.x (Q9 U U)<|Lg.QK U<|xe ?_
   exact⟨_,La,U,by simp[O]⟩
  refine Lg.Qb<|Qr<|Qr<|Qr<|Qr<|Qr<|Qr<|Qr<|Qr<|Lg.QK U<|xe ?_;exact⟨_,La,U,by simp[O]⟩
 rintro z g w3 ⟨rfl,rfl⟩;refine QZ rfl (λS=>?_) (λS=>?_)
 ·refine Qe<|Lg.Q0 U<|Lg.x (Qq G U U)<|Lg.Qb<|xie h U U I λhi hc=>Lg.x (Zg U)<|Lg.x (QD (hc.fld 2 _ U) U) <|
   Lg.Qc<|Ql ⟨[oF oG a.ed[k].2.2],La,?_,J⟩
  rw[<-H,hd,xd,OS S];rfl
 refine Qh<|Qw<|Lg.Qb<|Lg.QN U U<|Lg.Qc<|⟨k+1,oa,La,U,oa,?_⟩;rw[<-H,hd,xd,OR S]
def zX (l:LI)(n:Int):Int:=if n∈l then(l.idxOf n:Int)else -1
theorem QiD {n:Int}{k:Nat}(h:n∉l.take k)(G:k<l.length)(H:O4 l k=n):zX l n=k:=by
 have I:n∈l:=by rw[<-H,<-ZI G];exact Lm G
 unfold zX;rw[OS I];have J:l=l.take k++l.drop k:=(MB k l).symm;have:l.idxOf n=k:=by
  rw[J,MU,OR h,LE G,List.idxOf_cons,show l[k]=n by rw[ZI G];exact H];simp;omega
 rw[this]
theorem Qgd {v:O0}(h:QQ L w.heap v l)(n:Int):
  Q5 prog 162 [v,oF oG n] w λr w'=>r=oF oG (zX l n)/\w'=w:=by
 have S:=h.le;refine Zs func162 ntmps162 results162 ?_;refine Qe<|Qc<|Qd<|Qe<|Qc<|Qg<|QC (α:=Nat) [(4,18)] (λz=>[(5,oF oG z)]) (λz w'=>w'=w/\z<=l.length/\n∉l.take z) (λz=>l.length - z) ol 0 La ⟨U,Ln _,oe⟩ ?_;rintro k g T ⟨rfl,V,H⟩;refine Qd<|Qm<|Qb<|QL h U<|QX U U<|xe<|QG rfl (λJ=>?_) (λJ=>?_)
 ·refine Qx<|Qe<|Qc ?_;rw[Ls oa]at H;exact Ql ⟨[oF oG (-1)],La,by unfold zX;rw[OR H];rfl,U⟩
 have G:k<l.length:=oa
 refine Qh<|Qd<|Qg<|Qm<|Qb<|xic (i:=k) h U U G λY O=>x (QD O U)<|Qb<|x (Q9 U U)<|xe<|QZ rfl (λI=>?_) (λI=>?_)
 ·refine Qm<|Qc ?_;exact Ql ⟨[oF oG k],La,by rw[QiD H G I];rfl,U⟩
 refine Qh<|Qw<|Qb<|QN U U<|Qc<|⟨k+1,oa,La,U,G,?_⟩;rw[Ll G,ZI G];simp only[oU,oI,not_or];exact⟨H,λe=>I e.symm⟩
theorem qj {v:O0}(h:QQ L w.heap v l)(hl:l.length<=1000000):
  Q5 prog 105 [v] w λr w'=>O3 [] w w'/\∃va,r=.agg #[va,oF oG 0,nS,nS]/\Qu 3 w.heap.size w' va l:=by
 refine Zs func105 ntmps105 results105 ?_;refine Qe<|Qa<|Qo (us:=[nS,oF oG 0,nS,nS]) U λb2 G T he V=>xe ?_;have hf:=T.size;have hg:=V.lt;refine Qe<|Qa<|XQ λb3 w2 H hh hi=>Qb<|?_;have Y:=T.D H;have hp:=H.size;have I:w2.ownsRow G.heap.size 3 1 (.slice (some ⟨b3,0,none⟩) 0 0) 0 []:=hi.own (n:=0) (sz:=1) U oa hh;refine Qa<|Qas I U (h.I Y) U (Uq l) oa oa λva J hj ha hq=>?_;have O:Qu 3 G.heap.size J va l:=by
  have:J.ownsRow G.heap.size 3 1 va (0+l.length) ([]++l.map (.int .i64)):=hj;rw[LX,L8]at this;exact this
 have hA:=Qu.ints (L:=[]) O oa oe;have hk:=(V.I H).J ha (QT I hg);have hm:O3 [] w J:=Y.then ha (λb S=>.inr (ou (Qi I b S).1));refine x (Qz ⟨hA.cells,Z⟩)<|Qa<|Qj (us:=[va,oF oG 0,nS,nS]) hk U U U U ⟨hA.one,U,U,U,Z⟩ λw4 hc hn=>xe ?_;have ho:=Qf O hc (λb S=>by have:=(Qi O b S).1;simp;omega);exact Ql ⟨[.agg #[va,oF oG 0,nS,nS]],⟨⟨_,U,Qn U (hn.at (L:=[]) oe).cells⟩,Z⟩,hm.O hc he,va,rfl,Zy ho hf⟩
theorem xE:∀(n:Nat) (l:LI),l.Nodup->(∀x∈l,0<=x/\x<n)->l.length<=n
 | 0,l,_,h=>by
  cases l with
  | nil=>simp
  | cons a l=>have:=h a Lt;omega
 | n+1,l,hd,h=>by
  by_cases G:(n:Int)∈l
  ·have I:=xE n (l.erase (n:Int)) (hd.erase _) (λx hx=>by
    have H:=(List.Nodup.mem_erase_iff hd).1 hx;have J:=h x H.2;have O:x≠(n:Int):=H.1;omega)
   rw[List.length_erase_of_mem G]at I;omega
  have:=xE n l hd (λx hx=>by
   have J:=h x hx;have O:x≠(n:Int):=λe=>G (by rw[<-e];exact hx);omega)
  omega
def Ue (a:Zd)(s:Int)(out:LI)(v:Int):LI:=if 0<=xd a.ed s v/\xd a.ed s v∉out then out++[xd a.ed s v]else out
def fdR (a:Zd)(out:LI)(s:Int):LI:=a.al.foldl (Ue a s) out
def jG (a:Zd):Nat->Nat->LI->LI
 | 0,_,out=>out
 | f+1,i,out=>if i<out.length then jG a f (i+1) (fdR a out (O4 out i))else out
def fd0 (a:Zd):LI:=if 0<a.st then[0]else[]
def xj (a:Zd):LI:=jG a a.st.toNat 0 (fd0 a)
structure qV (a:Zd)(out:LI):Prop where
 b:∀x∈out,0<=x/\x<a.st
 d:out.Nodup
theorem qV.len (h:qV a out)(G:0<=a.st):out.length<=a.st.toNat:=xE _ _ h.d (λx hx=>ou (h.b x hx))
theorem Qat {v:Int}(h:0<=xd es s v):(s,v,xd es s v)∈es:=by
 induction es with
 | nil=>simp[xd]at h
 | cons e es ih =>
  rw[xd]at h ⊢;split at h
  ·rename_i G;rw[OS G];obtain⟨p,q,r⟩:=e;obtain⟨H,I⟩:=G;simp only[]at H I;subst H I;exact Lt
  rename_i G;rw[OR G];exact Lk _ (ih h)
theorem QiX (I:ZJ a)(h:qV a out)(s v:Int):qV a (Ue a s out v):=by
 unfold Ue;split
 ·rename_i G;have J:=I.ed _ (Qat G.1);refine⟨λx hx=>?_,?_⟩
  ·rcases Lc.1 hx with hx|hx
   ·exact h.b x hx
   simp only[oI]at hx;subst hx;exact⟨G.1,J.2.2.2.2⟩
  rw[My];refine⟨h.d,oe,λx hx y H=>?_⟩;simp only[oI]at H;subst H;exact λe=>G.2 (by rw[<-e];exact hx)
 exact h
theorem QlL {v:Int}:∀x∈out,x∈Ue a s out v:=λx hx=>by unfold Ue;split;exact Mr _ hx;exact hx
theorem Qoc {v:Int}(h:0<=xd a.ed s v):xd a.ed s v∈Ue a s out v:=by
 unfold Ue;by_cases G:xd a.ed s v∈out
 ·rw[OR (λe=>e.2 G)];exact G
 rw[OS ⟨h,G⟩];simp
theorem QiV {a:Zd}(G:ZJ a)(s:Int):∀(vs:LI) (out:LI),qV a out->qV a (vs.foldl (Ue a s) out)
 | [],_,h=>h
 | v::vs,_,h=>QiV G s vs _ (QiX G h s v)
theorem QaM {a:Zd}{s:Int}:∀(vs:LI) (out:LI),∀x∈out,x∈vs.foldl (Ue a s) out
 | [],_,_,hx=>hx
 | _::vs,_,x,hx=>QaM vs _ x (QlL x hx)
theorem QiW {a:Zd}{s:Int}:∀(vs:LI) (out:LI),∀v∈vs,0<=xd a.ed s v->xd a.ed s v∈vs.foldl (Ue a s) out
 | v::vs,out,u,G,h=>by
  rcases Li.1 G with rfl|G
  ·exact QaM vs _ _ (Qoc h)
  exact QiW vs _ u G h
theorem QeT {a:Zd}{s:Int}:∀(vs:LI) (out:LI),∃r,vs.foldl (Ue a s) out=out++r
 | [],out=>⟨[],oe⟩
 | v::vs,out=>by
  obtain⟨r,G⟩:=QeT (a:=a) (s:=s) vs (Ue a s out v);rw[L4,G];unfold Ue;split
  ·exact⟨[xd a.ed s v]++r,oe⟩
  exact⟨r,U⟩
theorem Qct {r:LI}(h:i<l.length):O4 (l++r) i=O4 l i:=by
 rw[<-ZI h,<-ZI (by simp;omega),MC h]
def Cl (a:Zd)(out:LI)(i:Nat):Prop:=∀j,j<i->j<out.length->∀v∈a.al,0<=xd a.ed (O4 out j) v->xd a.ed (O4 out j) v∈out
theorem Cl.next (h:Cl a out i)(hi:i<out.length):Cl a (fdR a out (O4 out i)) (i+1):=by
 intro j S T v H G;obtain⟨r,O⟩:=QeT (a:=a) (s:=O4 out i) a.al out;have I:fdR a out (O4 out i)=out++r:=O;have J:j<out.length:=oa
 rw[I,Qct J]at G ⊢;by_cases e:j=i
 ·subst e;have:=QiW a.al out v H G;rw[<-I];exact this
 exact Mr _ (h j oa J v H G)
theorem QiU {a:Zd}(H:ZJ a):∀(f i:Nat) (out:LI),qV a out->Cl a out i->i+f=a.st.toNat->qV a (jG a f i out)/\Cl a (jG a f i out) (jG a f i out).length
 | 0,i,out,h,G,O=>by
  have:=h.len H.st0;exact⟨h,λj J I=>G j (by rw[jG]at J;omega) I⟩
 | f+1,i,out,h,G,O=>by
  rw[jG];split
  ·rename_i hi;exact QiU H f (i+1) _ (QiV H _ _ _ h) (G.next hi) oa
  rename_i hi;exact⟨h,λj J I=>G j oa I⟩
theorem QiY (a:Zd):qV a (fd0 a):=by
 unfold fd0;split
 ·rename_i h;exact⟨λx hx=>by simp only[oI]at hx;subst hx;exact⟨oa,h⟩,oe⟩
 exact⟨oe,oe⟩
theorem ya (I:ZJ a):qV a (xj a)/\∀s∈xj a,∀v∈a.al,0<=xd a.ed s v->xd a.ed s v∈xj a:=by
 obtain⟨J,O⟩:=QiU I a.st.toNat 0 (fd0 a) (QiY a) (λj G=>oa) oa;refine⟨J,λs S v T H=>?_⟩;obtain⟨j,G,rfl⟩:=LO S;have:=O j G G v T;unfold xj at G H ⊢;rw[ZI G]at H ⊢;exact this H
def KG (a:Zd)(fd:LI)(i:Nat)(v:Int):Option Ed:=if 0<=xd a.ed (O4 fd i) v then some ((i:Int),v,zX fd (xd a.ed (O4 fd i) v))else none
def Y6 (a:Zd)(fd:LI)(n:Nat):LI:=((oS 0 n).filter λi=>decide (O4 fd i∈a.mr)).map λi:Nat=>(i:Int)
def Xk (a:Zd)(fd:LI)(n:Nat):List Ed:=(oS 0 n).flatMap λi=>a.al.filterMap (KG a fd i)
def Xc (a:Zd):Zd:=⟨a.al,(xj a).length,Y6 a (xj a) (xj a).length,Xk a (xj a) (xj a).length⟩
theorem Jh {β:Type}{r:Int->Int->Prop}{q:β->β->Prop}{g:Int->Option β}(G:∀x y u v,r x y->g x=some u->g y=some v->q u v):∀{l:LI},l.Pairwise r->(l.filterMap g).Pairwise q
 | [],_=>oe
 | x::l,h=>by
  obtain⟨I,H⟩:=L3.1 h;rw[Mx];split
  ·exact Jh G H
  rename_i u J;refine L3.2 ⟨λv O=>?_,Jh G H⟩;obtain⟨y,S,T⟩:=MR.1 O;exact G x y u v (I y S) J T
theorem QaU (H:ZJ a):ZJ (Xc a)/\(Xc a).al=a.al/\(Xc a).st<=a.st:=by
 obtain⟨Y,h2⟩:=ya H;have hl:=Y.len H.st0;have h0:=H.st0;have h4:=H.st1;refine⟨⟨H.al,H.ali,by simp[Xc],by simp only[Xc];omega,λs S=>?_,?_,λe J=>?_,?_⟩,U,by simp only[Xc];omega⟩
 ·simp only[Xc,Y6,OA,List.mem_filter,OE]at S;obtain⟨i,⟨hi,_⟩,rfl⟩:=S;simp only[Xc];omega
 ·simp only[Xc,Y6];unfold Y1;rw[MW];refine List.Pairwise.sublist Nh ?_;exact(NF (s:=0) (n:=(xj a).length)).imp (λh=>oa)
 ·simp only[Xc,Xk,List.mem_flatMap,List.mem_filterMap,OE]at J;obtain⟨i,⟨_,hi⟩,v,I,G⟩:=J;unfold KG at G;split at G
  ·rename_i hn;cases G
   have T:i<(xj a).length:=oa
   have V:=h2 (O4 (xj a) i) (by rw[<-ZI T];exact Lm T) v I hn;have hx:=MN V;simp only[Xc];unfold zX;rw[OS V];exact⟨oa,oa,I,oa,oa⟩
  cases G
 simp only[Xc,Xk];have key:∀(is:LN),is.Pairwise (·<·)->(is.flatMap λi=>a.al.filterMap (KG a (xj a) i)).Pairwise λx y:Ed=>x.1<y.1\/(x.1=y.1/\x.2.1<y.2.1):=by
  intro is;induction is with
  | nil=>intro _;simp
  | cons i is ih =>
   intro hp;obtain⟨p1,p2⟩:=L3.1 hp;rw[LM,MI];have from_i:∀(i:Nat) (e:Ed),e∈a.al.filterMap (KG a (xj a) i)->e.1=i:=by
    intro i e J;obtain⟨v,_,G⟩:=MR.1 J;unfold KG at G;split at G
    ·cases G;rfl
    cases G
   refine⟨?_,ih p2,λe J e' ha=>?_⟩
   ·refine Jh (r:=(·<·)) (λx y u v hb O I=>?_) H.ali;unfold KG at O I;split at O
    ·cases O;split at I
     ·cases I;exact .inr ⟨U,hb⟩
     cases I
    cases O
   obtain⟨j,hj,hc⟩:=Mi.1 ha;have e1:=from_i i e J;have e2:=from_i j e' hc;have:=p1 j hj;left;omega
 exact key _ (NF (s:=0) (n:=(xj a).length))
theorem Qgf (h:ZK L w.heap va vm ve a)(ho:ZJ a):
  Q5 prog 159 [.agg #[va,oF oG a.st,vm,ve]] w λr w'=>O3 [] w w'/\Qu 3 w.heap.size w' r (xj a):=by
 have h0:=ho.st0;have h1:=ho.st1;have hU:=ho.al_le;refine Zs func159 ntmps159 results159 ?_;refine Qe<|Qa<|QS (us:=[va,oF oG a.st,vm,ve]) U λb1 O hh hV hs=>Qc<|Qe<|Qc ?_;have h8:=hh.size;refine Q3 (α:=O0) [(3,3),(7,12)] (λz=>[(3,z)]) (λz w'=>O3 [] O w'/\Qu 3 O.heap.size w' z (fd0 a)) ol ?_ ?_
 ·refine Qe<|Qs U hs U U<|x (ZZ U U)<|xe<|QG U (λh9=>?_) (λh9=>?_)
  ·refine Qh ?_;exact⟨nS,La,O3.Z _ _,by unfold fd0;rw[OR h9];exact QJ _ _ _ _⟩
  refine Qw<|Qb<|Qa<|QB (us:=[[oF oG 0]]) U U og oe ⟨rfl,rfl,Z⟩ λhW w2 hv hX hA=>?_;have hn:w2.ownsRow O.heap.size 3 1 (nS) 0 []:=QJ _ _ _ _;have hY:=hv.size;refine Qa<|Za (news:=[oF oG 0]) (L:=[]) hn U U U (hA.at oe) (by simp[Value.oneCell']) oa oa λv3 w3 hB hC hZ =>
   Qc<|⟨v3,La,hv.then hC (λb hb=>by simp[ob]at hb),?_⟩
  unfold fd0;rw[OS h9];exact hB
 rintro v0 g4 w4 ⟨hD,hE⟩;refine Zk (xj a) λT hT=>?_;have hF:jG a a.st.toNat 0 (fd0 a)=T:=hT;refine Qd<|Qe<|Qc<|Qg<|QC (α:=Nat×LI×O0) [(3,6),(13,48)] (λz=>[(3,z.2.2),(4,oF oG z.1)])
  (λz w'=>O3 [] O w'/\Qu 3 O.heap.size w' z.2.2 z.2.1/\qV a z.2.1/\z.1<=z.2.1.length/\jG a (a.st.toNat - z.1) z.1 z.2.1=T) (λz=>a.st.toNat - z.1) ol (0,fd0 a,v0) oA
  ⟨hD,hE,QiY a,Ln _,hF⟩ ?_
 rintro⟨i,out,v⟩ g5 w5 ⟨hj,V,G,hi,Y⟩;simp only[]at V G hi Y;have hw:=G.len h0;have hy:=Qu.ints (L:=[]) V oa oe;refine Qd<|Qm<|Qb<|QL hy U<|QX U U<|xe<|QG rfl (λhz=>?_) (λhz=>?_)
 ·have e:out=T:=by
   rw[<-Y];generalize a.st.toNat - i=f;cases f with
   | zero=>rfl
   | succ f=>rw[jG,OR oa]
  refine Qx<|Qm<|Qc ?_;rw[e]at V;exact Ql ⟨[v],La,hh.D hj,by rw[hT];exact Zy V h8⟩
 have I:i<out.length:=oa
 have hG:a.st.toNat - i=(a.st.toNat - (i+1))+1:=oa
 rw[hG,jG,OS I]at Y;refine Zk (O4 out i) λs J=>?_;rw[J]at Y;refine Zk (fdR a out s) λR hR=>?_;rw[hR]at Y;unfold fdR at hR;refine Qh<|Qd<|Qg<|Qe<|Qc<|Qg<|QC (α:=Nat×LI×O0) [(3,3),(5,6),(19,48)] (λz=>[(3,z.2.2),(5,oF oG z.1)])
  (λz w'=>O3 [] O w'/\Qu 3 O.heap.size w' z.2.2 z.2.1/\qV a z.2.1/\z.1<=a.al.length/\i<z.2.1.length/\O4 z.2.1 i=s/\(a.al.drop z.1).foldl (Ue a s) z.2.1=R) (λz=>a.al.length - z.1) ol (0,out,v) oA
  ⟨hj,V,G,Ln _,I,J,hR⟩ ?_
 clear hj V G hi hw hy I J hR hz;rintro⟨k,out,v⟩ g6 w6 ⟨ha,he,G,hk,I,J,H⟩;simp only[]at he G hk I J H;have hw:=G.len h0;have h2:=(h.al.I hh).I ha;have hl:=hs.I ha;have h3:=Qu.ints (L:=[]) he oa oe;refine Qd<|Qm<|Qs U hl U U<|QL h2 U<|QX U U<|xe<|QG rfl (λhH=>?_) (λhH=>?_)
 ·refine Qx<|Qw<|Qb<|QN U U<|Qc ?_;rw[Lr oa]at H;have hI:out=R:=H;exact⟨(i+1,out,v),oh,oA,ha,he,G,I,by simp only[];rw[hI];exact Y⟩
 have hf:k<a.al.length:=oa
 rw[LE hf,L4,ZI hf]at H;refine Zk (O4 a.al k) λu hu=>?_;rw[hu]at H;have hJ:=(h.ed.I hh).I ha;refine Zk (xd a.ed s u) λt ht=>?_;have hK:Ue a s out u=if 0<=t/\t∉out then out++[t]else out:=by unfold Ue;rw[ht]
 have hm:=QiX ho G s u;rw[hK]at H hm;refine Qh<|Qd<|Qg<|Qd<|QR (O3 [] w6) [oD 0,oD 1,oD 2,oD 3,oD 4,oD 5,oD 6,oD 7,oD 8,oD 9,oE 10,oD 11] mixed ol od (O3.C _ _) ?_;refine pq (λ_ S=>Zx (hl.I S) U U)<|p Qy<|p Qy<|pic (i:=i) U h3 U U I λga h4=>?_;rw[J]at h4;refine pq (λ_ S=>QD (h4.I S) U)<|p (QP U)<|pq (λ_ S=>Qq (hl.I S) U U)<|p Qy <|
  pic (i:=k) U h2 U U hf λgb h5=>?_
 rw[hu]at h5;have hsr:=Qbg (va:=va) (vm:=vm) (a:=a) (hJ.I (O3.C [] w6)) s u a.st;rw[ht]at hsr;refine pq (λ_ S=>QD (h5.I S) U)<|pk<|xf<|hsr.mono ?_;rintro r7 w7 ⟨rfl,hL⟩;have hg:=(O3.C [] w6).D hL;refine⟨hg,p ZH<|pe ?_⟩;have h6:=Qp he hg;have hM:=h3.I hg;refine Q3 (α:=Unit) [(37,44)] (λz=>[(44,.bool (decide (0<=t/\t∉out)))]) (λz w'=>w'=w7) ol ?_ ?_
 ·refine Qw<|Qb<|xb (Yl U U) (λhp=>?_) (λhp=>?_)
  ·refine Qb<|Qb<|Qb<|Qa<|xf<|(QeQ hM t).mono ?_;rintro r8 w8 ⟨rfl,rfl⟩;refine x (Zz U)<|QK U<|xe<|⟨(),⟨OT Value.bool ?_,Z⟩,U⟩;show(!decide (t∈out))=_;rw[Bool.eq_iff_iff];simp[hp]
  refine Qb<|Qr<|Qr<|Qr<|Qr<|QK U<|xe ?_;exact⟨(),⟨OT Value.bool (OX (λe=>hp e.1)).symm,Z⟩,U⟩
 rintro _ g9 w9 rfl;refine QG rfl (λhq=>?_) (λhq=>?_)
 ·rw[OR hq]at H;refine Qh<|Qw<|Qb<|QN U U<|Qc ?_;exact⟨(k+1,out,v),oh,oA,ha.D hg,h6,G,hf,I,J,H⟩
 rw[OS hq]at H hm;have h7:=ha.D hg;have gc:=h7.size;refine Qw<|Qb<|Qb<|Qa<|QB (us:=[[oF oG t]]) U U og oe ⟨rfl,rfl,Z⟩ λgg gh hr gi hN=>?_;have hO:=Qp h6 hr;have gj:=hr.size;refine Qa<|Za (news:=[oF oG t]) (L:=[]) hO U U U (hN.at oe) (by simp[Value.oneCell']) oa oa λhP gk hQ hS gl =>
  Qc ?_
 have hge:=Qi he;refine Qw<|Qb<|QN U U<|Qc<|⟨(k+1,out++[t],hP),oh,oA,(h7.D hr).then hS (λb hb=>.inr (hge b hb).1),Qu.snoc hQ,hm,hf,by simp;omega,?_,H⟩;simp only[];rw[Qct I];exact J
structure CrI (w7:OZ)(b4:Nat)(vcl:O0)(n:Int)(vm vd:O0)(M:LI)(E:List Ed)(w:OZ):Prop where
 st:O3 [b4] w7 w
 B:Q7 w.heap b4 61 [vcl,oF oG n,vm,vd]
 m:Qu 3 w7.heap.size w vm M
 e:YB 213 w7.heap.size w vd E
 dj:Dj vm vd
section
variable {w7 w'':OZ}{b4:Nat}{vcl:O0}{n:Int}{vd:O0}{M:LI}{E:List Ed}
theorem CrI.I (h:CrI w7 b4 vcl n vm vd M E w)(G:O3 [] w w'):CrI w7 b4 vcl n vm vd M E w':=⟨h.st.D G,h.B.I G,Qp h.m G,Qp h.e G,h.dj⟩
theorem CrI.setM (h:CrI w7 b4 vcl n vm vd M E w)(J:b4<w7.heap.size){G:O0}{M':LI}(O:O3 (ob vm) w w')(S:Qu 3 w7.heap.size w' G M')(T:∀b∈ob G,b∈ob vm\/w.heap.size<=b)(H:O3 [b4] w' w'')
  (V:Q7 w''.heap b4 61 [vcl,oF oG n,G,vd]):CrI w7 b4 vcl n G vd M' E w'' :=
 ⟨(h.st.then O (λb J=>.inr (Qi h.m b J).1)).Q H,V,Qf S H (λb I=>by have:=(Qi S b I).1;simp;omega),
  Qf (Qf h.e O h.dj.symm) H (λb I=>by have:=(Qi h.e b I).1;simp;omega),(h.dj.symm.grow T (Zb h.e)).symm⟩
theorem CrI.setE (h:CrI w7 b4 vcl n vm vd M E w)(J:b4<w7.heap.size){G:O0}{E':List Ed}(O:O3 (ob vd) w w')(S:YB 213 w7.heap.size w' G E')(T:∀b∈ob G,b∈ob vd\/w.heap.size<=b)(H:O3 [b4] w' w'')
  (V:Q7 w''.heap b4 61 [vcl,oF oG n,vm,G]):CrI w7 b4 vcl n vm G M E' w'' :=
 ⟨(h.st.then O (λb J=>.inr (Qi h.e b J).1)).Q H,V,Qf (Qf h.m O h.dj) H (λb I=>by have:=(Qi h.m b I).1;simp;omega),
  Qf S H (λb I=>by have:=(Qi S b I).1;simp;omega),h.dj.grow T (Zb h.m)⟩
end
theorem jR (a:Zd)(fd:LI)(k:Nat):Y6 a fd (k+1)=if O4 fd k∈a.mr then Y6 a fd k++[(k:Int)]else Y6 a fd k:=by
 unfold Y6;rw[MQ,LZ,Lp,LX];by_cases h:O4 fd k∈a.mr
 ·rw[OS h,Mc,OS (OV h)];rfl
 rw[OR h,Mc,OR (by rw[OX h];simp),NL,Nk,LS]
theorem Qcw (a:Zd)(fd:LI):∀k,(Y6 a fd k).length<=k
 | 0=>by simp[Y6]
 | k+1=>by
  have:=Qcw a fd k;rw[jR];split
  ·simp;omega
  omega
theorem QgC (a:Zd)(fd:LI)(k:Nat):Xk a fd (k+1)=Xk a fd k++a.al.filterMap (KG a fd k):=by
 unfold Xk;rw[MQ,LA,LX];simp
theorem yP (h:ZK L w.heap va vm ve a)(V:ZJ a):
  Q5 prog 106 [.agg #[va,oF oG a.st,vm,ve]] w λr w'=>O3 [] w w'/\Jo w.heap.size w'.heap r (Xc a):=by
 have h0:=V.st0;have h1:=V.st1;have kw:=V.al_le;have gc:=(ya V).1;have gg:=gc.len h0;refine Zs func106 ntmps106 results106 ?_;refine Zk (xj a) λfd hw=>?_;rw[hw]at gg;have gh:Xc a=⟨a.al,fd.length,Y6 a fd fd.length,Xk a fd fd.length⟩:=by unfold Xc;rw[hw]
 refine Qe<|Qa<|QS (us:=[va,oF oG a.st,vm,ve]) U λb1 w1 gi kx hz=>Qa<|Qo (us:=[nS,oF oG 0,nS,nS]) U λb2 w2 h2 kz hG=>xe ?_;have Y:=gi.D h2;have hfr:=Qgf (h.I Y) V;rw[hw]at hfr;refine Qe<|Q2 (hz.I h2) U U<|Qa<|xf<|hfr.mono ?_;rintro vf w3 ⟨hp,gj⟩;refine Qc ?_;have hH:=Y.D hp;have hJ:=(hz.I h2).I hp;refine Qe<|Qs U hJ U U<|Qa<|xf<|(qj (h.al.I hH) oa).mono ?_;rintro r4 w4 ⟨hK,vcl,rfl,ha⟩;have hL:=Qu.ints (L:=[]) ha oa oe;refine Qa<|Qo (us:=[nS,oF oG 0,nS,nS]) U λb4 w5 gk gl gm =>
  Qa<|Qj (us:=[vcl,oF oG 0,nS,nS]) gm U U U U ⟨hL.one,U,U,U,Z⟩ λw6 gn hM=>xe ?_
 have h3:O3 [] w4 w6:=gk.O gn gl;have he:=hK.D h3;have hN:=Qu.ints (L:=[]) gj oa oe;have k0:=hp.size;have k4:=hK.size;have k5:=h3.size;have k6:=hz.lt;have k7:=hG.lt;have k8:=hM.lt;refine Qm<|QL hN U<|Q0 U<|Qa<|QA (u:=oF oG fd.length) hM U U oe rfl λw7 S go=>xe ?_;have k9:=S.size;have ma:O3 [b4] w3 w7:=(he.any (L:=[b4])).Q S;have hO:O3 [] w w7:=(hH.D he).O S oa;have hP:QQ [b4] w7.heap vf fd:=((hN.up (L':=[b4]) (λb G=>.inr (by simp at G;omega))).I he).st S;have h4:ZK [b4] w7.heap va vm ve a:=(h.up (λb G=>.inr (by simp at G;omega))).I hO;have gp:Qu 3 w3.heap.size w7 vcl a.al:=Qf (Qp ha h3) S (λb G=>by have:=Zb ha b G;simp;omega);have hQ:=(hJ.I he).J S (by simp;omega);have gq:=((hG.I hp).I he).J S (by simp;omega);have hf:b4<w7.heap.size:=oa
 have n1:b1∉[b4]:=by simp;omega
 have n2:b2∉[b4]:=by simp;omega
 refine Qd<|Qe<|Qc<|Qg<|QC (α:=Nat×O0×O0) [(5,7),(16,69)] (λz=>[(5,oF oG z.1)])
  (λz w'=>z.1<=fd.length/\CrI w7 b4 vcl fd.length z.2.1 z.2.2 (Y6 a fd z.1) (Xk a fd z.1) w'/\(Xk a fd z.1).length<=z.1*32) (λz=>fd.length - z.1) ol (0,nS,nS) La
  ⟨Ln _,⟨O3.Z _ _,go,QJ _ _ _ _,QJ _ _ _ _,Dj.nil' _⟩,Ln _⟩ ?_
 rintro⟨i,v1,v2⟩ g8 w8 ⟨hi,I,h5⟩;simp only[]at hi I h5;have gr:=Qcw a fd i;have hR:=hP.st I.st;refine Qd<|Qm<|Qb<|QL hR U<|QX U U<|xe<|QG rfl (λgs=>?_) (λgs=>?_)
 ·have gt:i=fd.length:=oa
  rw[gt]at I h5 gr;refine Qx ?_;have gu:=Qu.ints (L:=[]) I.m oa oe;have gv:=YB.eds (L:=[]) I.e oa oe;refine Qe<|Q2 I.B U U<|Qa<|Qj (us:=[vcl,oF oG fd.length,v1,v2]) (gq.J I.st n2) U U U U ⟨hL.one,U,gu.one,gv.one,Z⟩ λw9 hq gw=>xe ?_;refine Ql ⟨[.agg #[vcl,oF oG fd.length,v1,v2]],⟨⟨_,U,Qn U (gw.at (L:=[]) oe).cells⟩,Z⟩,(hO.O I.st oa).O hq oa,?_⟩;rw[gh];have k1:=Qf (Qf gp I.st (λb G=>by have:=Zb ha b G;simp;omega)) hq (λb G=>by have:=(Qi ha b G).1;simp;omega);have k2:=Qf I.m hq (λb G=>by have:=(Qi I.m b G).1;simp;omega);have k3:=Qf I.e hq (λb G=>by have:=(Qi I.e b G).1;simp;omega);refine⟨vcl,v1,v2,U,λL' h6=>⟨?_,?_,?_⟩⟩
  ·exact Qu.ints k1 (by show a.al.length<=_;omega) (λb G=>ou (h6 b G))
  ·exact Qu.ints k2 (by show(Y6 a fd fd.length).length<=_;omega) (λb G=>ou (h6 b G))
  exact YB.eds k3 (by show(Xk a fd fd.length).length<=_;omega) (λb G=>ou (h6 b G))
 have h7:i<fd.length:=oa
 refine Zk (O4 fd i) λs hr=>?_;have hg:=jR a fd i;rw[hr]at hg;refine Qh<|Qd<|Qg<|Q3 (α:=O0) [(22,34)] (λz=>[]) (λz w'=>CrI w7 b4 vcl fd.length z v2 (Y6 a fd (i+1)) (Xk a fd i) w') ol ?_ ?_
 ·have gx:=h4.st I.st;have gy:=hQ.J I.st n1;refine Qd<|QR (O3 [] w8) [oD 0,oD 1,oD 2,oD 3,oD 4,oD 5,oE 6] mixed ol od (O3.C _ _) ?_;refine p (QP U)<|pq (λ_ H=>Qq (gy.I H) U U)<|p Qy<|p Qy<|pic (i:=i) U hR U U h7 λmf hS=>?_;rw[hr]at hS;refine pq (λ_ H=>QD (hS.I H) U)<|pk<|xf<|(QeQ (gx.mr.I (O3.C [] w8)) s).mono ?_;rintro mg mh ⟨rfl,rfl⟩;have h8:=I.I (O3.C [] w8);refine⟨O3.C _ _,pe ?_⟩;refine QG U (λh9=>?_) (λh9=>?_)
  ·rw[OR h9]at hg;refine Qh ?_;exact⟨v1,Z,by rw[hg];exact h8⟩
  rw[OS h9]at hg;refine Qw<|Qs U h8.B U U<|Qb<|Qa<|QB (us:=[[oF oG i]]) U U og oe ⟨rfl,rfl,Z⟩ λmj mo gz mq g0=>?_;have hh:=h8.I gz;refine Qa<|Za (news:=[oF oG i]) (L:=[]) hh.m U U U (g0.at oe) (by simp[Value.oneCell']) oa hh.st.size λhT g2 g3 Y g4=>?_;have hU:Qu 3 w7.heap.size g2 hT (Y6 a fd i++[(i:Int)]):=Qu.snoc g3;refine Q0 U<|Qa<|QA (hh.B.J Y (QT hh.m hf)) U U oe (Qu.ints (L:=[]) hU (by simp;omega) oe).one λms g5 g6 =>
   xe ?_
  exact⟨hT,Z,by rw[hg];exact hh.setM hf Y hU g4 g5 g6⟩
 rintro v3 mt mu g7;refine Zk (Xk a fd (i+1)) λE1 hA=>?_;have hV:=QgC a fd i;rw[hA]at hV;refine Qe<|Qc<|Qg<|QC (α:=Nat×List Ed×O0) [(6,7),(35,69)] (λz=>[(6,oF oG z.1)])
  (λz w'=>z.1<=a.al.length/\CrI w7 b4 vcl fd.length v3 z.2.2 (Y6 a fd (i+1)) z.2.1 w'/\z.2.1.length<=i*32+z.1/\z.2.1++(a.al.drop z.1).filterMap (KG a fd i)=E1) (λz=>a.al.length - z.1) ol (0,Xk a fd i,v2) La
  ⟨Ln _,g7,h5,hV.symm⟩ ?_
 rintro⟨k,E,vd⟩ mv hB ⟨hk,O,g9,J⟩;simp only[]at hk O g9 J;have hC:=h4.st O.st;have hs:=hQ.J O.st n1;have hW:=hP.st O.st;refine Qd<|Qm<|Qs U hs U U<|QL hC.al U<|QX U U<|xe<|QG rfl (λka=>?_) (λka=>?_)
 ·refine Qx<|Qw<|Qb<|QN U U<|Qc ?_;rw[Lr oa,List.filterMap_nil,LS]at J;refine⟨(i+1,v3,vd),oh,La,h7,?_,?_⟩
  ·simp only[];rw[hA,<-J];exact O
  simp only[];rw[hA,<-J];omega
 have T:k<a.al.length:=oa
 refine Zk (O4 a.al k) λu hu=>?_;rw[LE T,ZI T,hu,Mx]at J;refine Zk (xd a.ed s u) λt ht=>?_;have kb:KG a fd i u=if 0<=t then some ((i:Int),u,zX fd t)else none:=by unfold KG;rw[hr,ht]
 rw[kb]at J;have hsr:=Qbg (va:=va) (vm:=vm) (a:=a) (hC.ed.I (O3.C [] hB)) s u a.st;rw[ht]at hsr;refine Qh<|Qd<|Qg<|Qd<|QR (O3 [] hB) [oD 0,oD 1,oD 2,oD 3,oD 4,oD 5,oD 6,oD 7,oD 8,oD 9,oE 10,oD 11] mixed ol od (O3.C _ _) ?_;refine pq (λ_ H=>Zx (hs.I H) U U)<|p Qy<|p Qy<|pic (i:=i) U hW U U h7 λmw hX=>?_;rw[hr]at hX;refine pq (λ_ H=>QD (hX.I H) U)<|p (QP U)<|pq (λ_ H=>Qq (hs.I H) U U)<|p Qy <|
  pic (i:=k) U hC.al U U T λmy hY=>?_
 rw[hu]at hY;refine pq (λ_ H=>QD (hY.I H) U)<|pk<|xf<|hsr.mono ?_;rintro mz hv ⟨rfl,kc⟩;have hj:=(O3.C [] hB).D kc;refine⟨hj,p ZH<|pe ?_⟩;have hm:=O.I hj;have ke:=hs.I hj;have kf:=hW.I hj;refine Qm<|x (Yl U U)<|xe<|QG rfl (λhD=>?_) (λhD=>?_)
 ·rw[OR hD]at J;refine Qh<|Qw<|Qb<|QN U U<|Qc ?_;exact⟨(k+1,E,vd),oh,La,T,hm,oh,J⟩
 rw[OS hD]at J;have kg:=Qi O.e;have kh:QQ (b4::ob vd) hv.heap va a.al:=(((h4.al.up (L':=b4::ob vd) (λb G=>by
  rcases Li.1 G with rfl|G
  ·exact .inl oe
  exact .inr (kg b G).1)).J O.st oe).I hj)
 have ki:=QT hm.e hf;have kj:b1∉ob vd:=QT hm.e oa;refine QR (O3 (ob vd) hv) [oD 0,oD 1,oD 2,oD 3,oD 4,oD 5,oD 6,oD 7,oD 8,oD 9,oE 10,oD 11,oE 12,oE 13,oD 14,oE 15] mixed ol od (O3.C _ _) ?_;refine p (QP U)<|pq (λ_ H=>Qq (hm.B.J H ki) U U)<|p Qy<|p (QP U)<|pq (λ_ H=>Qq (ke.J H kj) U U) <|
  p Qy<|pic (i:=k) U kh U U T λm2 hZ=>?_
 rw[hu]at hZ;refine pq (λ_ H=>QD (hZ.J H (λb G=>Lk _ G)) U)<|p Qy<|p Qy <|
  pk<|xf<|(Qgd (kf.I (O3.C [] hv)) t).mono ?_
 rintro m3 m4 ⟨rfl,rfl⟩;refine⟨O3.C _ _,p (λ_=>Qz ⟨U,U,U,Z⟩)<|pk<|QB (us:=[QF ((i:Int),u,zX fd t)]) U U og (by exact(by decide:1*3<=1000000)) oA λm5 m6 kk m7 kn=>?_⟩;have hE:=(O3.C [] hv).D kk;have hn:=hm.I hE;refine⟨hE.any,?_⟩;refine pk<|Za (news:=QF ((i:Int),u,zX fd t)) (L:=[]) hn.e U U U (kn.at oe) (λy hy=>by simp only[QF,oK,oJ,or_false]at hy;rcases hy with rfl|rfl|rfl <;> rfl) oa hn.st.size λga ko kq hF kr=>⟨(hE.any (L:=ob vd)).Q hF,?_⟩
 have gb:YB 213 w7.heap.size ko ga (E++[((i:Int),u,zX fd t)]):=YB.snoc kq;refine p (QP U)<|pkl (hl:=by kernel_rfl)<|QA (hn.B.J hF (QT hn.e hf)) U U oe (YB.eds (L:=[]) gb (by simp;omega) oe).one λm8 kt ku =>
  pe ?_
 have kv:=hn.setE hf hF gb kr kt ku;refine Qw<|Qb<|QN U U<|Qc<|⟨(k+1,E++[((i:Int),u,zX fd t)],ga),oh,La,T,kv,by simp;omega,?_⟩;simp only[o0,Ov];exact J
section
variable {pS:String}
theorem zH {x:O1}{k:IntKind}{a b:Int}(hx:ev f x=.int k a)(H:ev f y=.int k b)(I:0<=a)(O:0<b):
  (execOp (ev f) ⟨d,.binOp .rem t x y G,ty,pS,af,gd⟩).run P w=.ok (.value (.int k (a % b))) w:=by
 refine Jd hx H ?_;have J:¬b=0:=oa
 simp[binOp,Op.intDiv,J,Int.tmod_eq_emod_of_nonneg I]
end
instance ayMa1:Ay prog 26 5 22 5:=⟨od,od⟩
instance ayMa2:Ay prog 22 5 5 1:=⟨od,od⟩
abbrev bys (ns:LN):LV:=ns.map λn:Nat=>.int .u8 (n:Int)
theorem qp (h:j<ns.length):(bys ns)[j]?=some (.int .u8 ((ns.getD j 0:Nat):Int)):=by simp[bys,oQ,h]
theorem Qcy:∀(ns:LN),Zj (bys ns)
 | []=>trivial
 | _::ns=>⟨rfl,Qcy ns⟩
theorem Jl (h:∀n∈ns,n<256)(j:Nat):ns.getD j 0<256:=by
 by_cases G:j<ns.length
 ·simp only[oQ,Oe G,Option.getD_some];exact h _ (Lm G)
 simp[oQ,G]
structure GrI (al:LI)(S i k:Nat)(M:LI)(E:List Ed):Prop where
 mb:∀x∈M,0<=x/\x<S
 mi:Y1 M
 ml:∀x∈M,x<(i:Int)+1
 mn:M.length<=S
 eb:∀e∈E,0<=e.1/\e.1<S/\e.2.1∈al/\0<=e.2.2/\e.2.2<S
 ei:E.Pairwise λx y=>x.1<y.1\/(x.1=y.1/\x.2.1<y.2.1)
 el:∀e∈E,e.1<i\/(e.1=i/\e.2.1∈al.take k)
 en:E.length<=i*5+k
theorem QlG {S:Nat}{M:LI}(G:∀x∈M,0<=x/\x<S)(hi:Y1 M):M.length<=S:=xE S M (hi.imp (λh=>oa)) G
theorem GrI.mark {S:Nat}{M:LI}{E:List Ed}(h:GrI al S i 0 M E)(G:∀x∈M,x<(i:Int))(hi:i<S):GrI al S i 0 (M++[(i:Int)]) E:=by
 have H:∀x∈M++[(i:Int)],0<=x/\x<S:=λx hx=>by
  rcases Lc.1 hx with hx|hx
  ·exact h.mb x hx
  simp only[oI]at hx;omega
 have I:Y1 (M++[(i:Int)]):=by
  refine MI.2 ⟨h.mi,oe,λx hx y J=>?_⟩;simp only[oI]at J;subst J;exact G x hx
 refine⟨H,I,λx hx=>?_,QlG H I,h.eb,h.ei,h.el,h.en⟩;rcases Lc.1 hx with hx|hx
 ·have:=G x hx;omega
 simp only[oI]at hx;omega
theorem GrI.skip {S k:Nat}{M:LI}{E:List Ed}(h:GrI al S i k M E)(G:k<al.length):GrI al S i (k+1) M E :=
 ⟨h.mb,h.mi,h.ml,h.mn,h.eb,h.ei,λe H=>(h.el e H).imp id (λx=>⟨x.1,by rw[Ll G];exact Mr _ x.2⟩),ou h.en⟩
theorem GrI.edge {S k:Nat}{M:LI}{E:List Ed}(h:GrI al S i k M E)(H:k<al.length)(O:Y1 al)(hi:i<S){t:Int}(T:0<=t)(V:t<S):GrI al S i (k+1) M (E++[((i:Int),O4 al k,t)]):=by
 have Y:O4 al k∈al:=Kg H;refine⟨h.mb,h.mi,h.ml,h.mn,λe G=>?_,?_,λe G=>?_,by have:=h.en;simp;omega⟩
 ·rcases Lc.1 G with G|G
  ·exact h.eb e G
  simp only[oI]at G;subst G;exact⟨oh,oh,Y,T,V⟩
 ·refine MI.2 ⟨h.ei,oe,λx hx y J=>?_⟩;simp only[oI]at J;subst J;rcases h.el x hx with I|⟨I,h2⟩
  ·left;exact I
  right;refine⟨I,?_⟩;simp only[];have hp:Y1 (al.take k++al.drop k):=by rw[MB];exact O
  refine(MI.1 hp).2.2 _ h2 _ ?_;rw[LE H,ZI H];exact Lt
 rw[Ll H,ZI H];rcases Lc.1 G with G|G
 ·exact(h.el e G).imp id (λx=>⟨x.1,Mr _ x.2⟩)
 simp only[oI]at G;subst G;exact .inr ⟨U,Ns _ oe⟩
theorem GrI.next {S k:Nat}{M:LI}{E:List Ed}(h:GrI al S i k M E)(I:k<=5):GrI al S (i+1) 0 M E :=
 ⟨h.mb,h.mi,λx hx=>ou (h.ml x hx),h.mn,h.eb,h.ei,λe G=>by rcases h.el e G with H|H <;> (left;omega),ou h.en⟩
theorem Qf4 {v:O0}(h:QQ L w.heap v al)(G:∀e∈al,0<=e/\e<32)(hi:Y1 al)(hn:ns.length=27)(hr:∀n∈ns,n<256):
  Q5 prog 48 [v,.agg (bys ns).toArray] w λr w'=>O3 [] w w'/\∃a:Zd,Jo w.heap.size w'.heap r a/\ZJ a/\a.st<=5/\a.al=al /\
   (ns.getD 0 0<250->∃a0:Zd,ZJ a0/\0<a0.st/\a0.st<=((1+ns.getD 0 0 % 5:Nat):Int)/\a=Xc a0):=by
 have k0:al.length<=32:=xE 32 al (hi.imp (λh=>oa)) (λx hx=>ou (G x hx));refine Zs func48 ntmps48 results48 ?_;have g0:=qp (ns:=ns) (j:=0) oa;have g1:=qp (ns:=ns) (j:=1) oa;have l0:=Jl hr 0;have l1:=Jl hr 1;refine Zk (ns.getD 0 0) λs0 hY=>?_;refine Zk (ns.getD 1 0) λm1 hZ=>?_;rw[hY]at g0 l0;rw[hZ]at g1 l1;refine Qe<|Qa<|QS (us:=bys ns) U λb3 w1 ga k4 h5=>Qa<|Qo (us:=[nS,oF oG 0,nS,nS]) U λb4 w2 h6 k5 hs=>xe ?_;have hp:=ga.D h6;have hu:=h5.I h6;have k6:=h5.lt;have k7:=hs.lt;refine Qd<|Qe<|Qs U hu U g0<|x (Yl U U)<|xe<|QZ rfl (λgb=>?_) (λgb=>?_)
 ·refine Qm<|Qa<|xf<|(qj (h.I hp) oa).mono ?_;rintro r3 w3 ⟨h7,vcl,rfl,T⟩;have hv:=Qu.ints (L:=[]) T oa oe;refine Qa<|Qj (us:=[vcl,oF oG 0,nS,nS]) (hs.I h7) U U U U ⟨hv.one,U,U,U,Z⟩ λw4 h8 gc=>xe ?_;have gg:=Qf T h8 (λb G=>by have:=(Qi T b G).1;simp;omega);refine Ql ⟨[.agg #[vcl,oF oG 0,nS,nS]],⟨⟨_,U,Qn U (gc.at (L:=[]) oe).cells⟩,Z⟩,(hp.D h7).O h8 oa,⟨al,0,[],[]⟩,?_,?_,(by decide:(0:Int)<=5),rfl,λh=>OU h oa⟩
  ·exact⟨vcl,_,_,U,λL' gh=>⟨Qu.ints gg (by show al.length<=_;omega) (λb G=>ou (gh b G)),Zv.nil _ _ _,Zv.nil _ _ _⟩⟩
  exact⟨G,hi,(by decide:(0:Int)<=0),(by decide:(0:Int)<=4096),oe,oe,oe,oe⟩
 refine Qh<|Qm<|Qa<|xf<|(qj (h.I hp) oa).mono ?_;rintro r5 w5 ⟨h9,vcl,rfl,T⟩;have hv:=Qu.ints (L:=[]) T oa oe;refine Qa<|Qo (us:=[nS,oF oG 0,nS,nS]) U λI w6 gi gk gl =>
  Qa<|Qj (us:=[vcl,oF oG 0,nS,nS]) gl U U U U ⟨hv.one,U,U,U,Z⟩ λw7 gm hA=>xe ?_
 have hB:O3 [] w5 w7:=gi.O gm gk;have hh:=h9.D hB;have k8:=h9.size;have k9:=hA.lt;refine Zk (1+s0 % 5) λS hS=>?_;have gn:(1:Int)+(s0:Int) % 5=(S:Int):=oa
 refine Qe<|Qs U (hu.I hh) U g0<|x (zH (a:=(s0:Int)) (b:=5) U U oa oa)<|x (Ye (k':=.i64) U ⟨oa,oa⟩)<|QN U U<|x (K4 U) <|
  Qa<|QA (u:=oF oG S) hA U (OT (Value.int .i64) gn) oe rfl λJ he go=>xe ?_
 have ma:=he.size;have mf:O3 [I] w2 J:=(hh.any (L:=[I])).Q he;have hC:O3 [] w J:=(hp.D hh).O he oa;have hD:QQ [I] J.heap v al:=(h.up (L':=[I]) (λb G=>.inr (by simp at G;omega))).I hC;have gp:Qu 3 w2.heap.size J vcl al:=Qf (Qp T hB) he (λb G=>by have:=Zb T b G;simp;omega);have hE:=(hu.I hh).J he (by simp;omega);have gq:=(hs.I hh).J he (by simp;omega);have hj:I<J.heap.size:=oa
 have n3:b3∉[I]:=by simp;omega
 have n4:b4∉[I]:=by simp;omega
 refine Qd<|Qe<|Qc<|Qg<|QC (α:=Nat×O0×O0×LI×List Ed) [(6,8),(22,76)] (λz=>[(6,oF oG z.1)])
  (λz w'=>z.1<=S/\CrI J I vcl S z.2.1 z.2.2.1 z.2.2.2.1 z.2.2.2.2 w'/\GrI al S z.1 0 z.2.2.2.1 z.2.2.2.2/\∀x∈z.2.2.2.1,x<(z.1:Int)) (λz=>S - z.1) ol (0,nS,nS,[],[]) La
  ⟨Ln _,⟨O3.Z _ _,go,QJ _ _ _ _,QJ _ _ _ _,Dj.nil' _⟩,⟨oe,oe,oe,oe,oe,oe,oe,oe⟩,oe⟩ ?_
 rintro⟨i,v1,v2,M,E⟩ g9 w9 ⟨gr,H,O,hM⟩;simp only[]at gr H O hM;have mg:=O.mn;have mh:=O.en;refine Qd<|Qm<|Qs U H.B U U<|QX U U<|xe<|QG rfl (λgs=>?_) (λgs=>?_)
 ·have mj:i=S:=oa
  refine Qx ?_;have gt:=Qu.ints (L:=[]) H.m oa oe;have gu:=YB.eds (L:=[]) H.e oa oe;have gv:Qu 3 w2.heap.size w9 vcl al:=Qf gp H.st (λb G=>by have:=Zb T b G;simp;omega);have gw:ZK [] w9.heap vcl v1 v2 ⟨al,(S:Int),M,E⟩:=⟨Qu.ints gv (by show al.length<=_;omega) oe,gt,gu⟩;have hw:ZJ ⟨al,(S:Int),M,E⟩:=⟨G,hi,oh,oh,O.mb,O.mi,O.eb,O.ei⟩;have hz:=QaU hw;have hH:O3 [] w w9:=hC.O H.st oa;have gx:=gq.J H.st n4;have mo:=H.st.size;refine Qe<|Q2 H.B U U<|Qa<|xf<|(yP (a:=⟨al,(S:Int),M,E⟩) gw hw).mono ?_;rintro vr mq ⟨hJ,hF⟩;obtain⟨us,hK,hL,gy⟩:=JH hF;refine Qa<|Qj (us:=us) (gx.I hJ) U hK hL U gy λms hN gz=>xe ?_;have g2:=hH.size;refine Ql ⟨[.agg us.toArray],⟨⟨_,U,Qn hL (gz.at (L:=[]) oe).cells⟩,Z⟩,(hH.D hJ).O hN oa,Xc ⟨al,(S:Int),M,E⟩,?_,hz.1,?_,hz.2.1,λ_=>⟨⟨al,(S:Int),M,E⟩,hw,oh,oh,U⟩⟩
  ·show Jo _ _ (.agg us.toArray) _;rw[<-hK];exact(Kn hF oa hN).mono g2
  have:=hz.2.2;simp only[]at this;omega
 have h0:i<S:=oa
 refine Qh<|Qd<|Qg<|Q3 (α:=O0×LI) [(28,39)] (λz=>[]) (λz w'=>CrI J I vcl S z.1 v2 z.2 E w'/\GrI al S i 0 z.2 E) ol ?_ ?_
 ·have g3:m1 / 2 ^ i<256:=Nat.lt_of_le_of_lt (Nat.div_le_self _ _) l1;refine Qe<|Qs U (hE.J H.st n3) U g1<|Qb<|x (ji (n:=i) U U (by show i<=8;omega))<|x (zJ (a:=m1 / 2 ^ i) (b:=1) (OT (Value.int .u8) (Qae m1 i)) U g3 og)<|x (Q9 U U)<|xe<|QG U (λg4=>?_) (λg4=>?_)
  ·refine Qh ?_;exact⟨(v1,M),Z,H,O⟩
  refine Qw<|Qs U H.B U U<|Qb<|Qa<|QB (us:=[[oF oG i]]) U U og oe ⟨rfl,rfl,Z⟩ λmt mu g5 mv g6=>?_;have hm:=H.I g5;refine Qa<|Za (news:=[oF oG i]) (L:=[]) hm.m U U U (g6.at oe) (by simp[Value.oneCell']) oa hm.st.size λhO g7 g8 hP ka=>?_;have hQ:Qu 3 J.heap.size g7 hO (M++[(i:Int)]):=Qu.snoc g8;refine Q0 U<|Qa<|QA (hm.B.J hP (QT hm.m hj)) U U oe (Qu.ints (L:=[]) hQ (by simp;omega) oe).one λmw kb kc =>
   xe ?_
  exact⟨(hO,M++[(i:Int)]),Z,hm.setM hj hP hQ ka kb kc,O.mark hM h0⟩
 rintro⟨v3,M3⟩ my mz ⟨hR,hT⟩;simp only[]at hR hT;refine Qe<|Qc<|Qg<|QC (α:=Nat×O0×List Ed) [(7,8),(40,76)] (λz=>[(7,oF oG z.1)])
  (λz w'=>z.1<=al.length/\z.1<=5/\CrI J I vcl S v3 z.2.1 M3 z.2.2 w'/\GrI al S i z.1 M3 z.2.2) (λz=>5 - z.1) ol (0,v2,E) La
  ⟨Ln _,Ln _,hR,hT⟩ ?_
 rintro⟨k,vd,F⟩ m2 ke ⟨hk,hU,hf,hg⟩;simp only[]at hk hU hf hg;have kf:=hD.st hf.st;have m3:=hg.en;refine Qd<|Q3 (α:=Unit) [(40,47)] (λz=>[(47,.bool (decide (k<al.length/\k<5)))]) (λz w'=>w'=ke) ol ?_ ?_
 ·refine Qw<|Qb<|Qb<|QL kf U<|xb (YJ U U) (λhV=>?_) (λhV=>?_)
  ·refine Qb<|Qb<|QX U U<|QK U<|xe<|⟨(),⟨OT Value.bool ?_,Z⟩,U⟩;exact decide_eq_decide.2 ⟨λe=>⟨oa,oa⟩,λe=>oa⟩
  refine Qb<|Qr<|Qr<|QK U<|xe ?_;exact⟨(),⟨OT Value.bool (OX (λe=>hV oa)).symm,Z⟩,U⟩
 rintro _ m4 V rfl;refine QG rfl (λh1=>?_) (λh1=>?_)
 ·refine Qx<|Qw<|Qb<|QN U U<|Qc ?_;exact⟨(i+1,v3,vd,M3,F),oh,La,h0,hf,hg.next hU,λx hx=>by have:=hg.ml x hx;simp only[];omega⟩
 have hk1:k<al.length:=h1.1;have h2:k<5:=h1.2;have gj:=qp (ns:=ns) (j:=0+2+i*5+k*1) oa;have lj:=Jl hr (0+2+i*5+k*1);refine Zk (ns.getD (0+2+i*5+k*1) 0) λq hq=>?_;rw[hq]at gj lj;have kg:=hE.J hf.st n3;have kh:0<=(q:Int) % ((S:Int)+2):=Int.emod_nonneg _ oa;refine Qh<|Qd<|Qg<|Qd<|QR (O3 [] V) [oD 0,oD 1,oD 2,oD 3,oD 4,oD 5,oD 6,oD 7,oD 8,oD 9,oD 10,oD 11] mixed ol od (O3.C _ _) ?_;refine p Qy<|p Qy<|p (QP U)<|p (λ_=>Z3 (i:=i) U U oa)<|p (λ_=>Z3 (i:=k) U U h2)<|pq (λ_ Y=>Qq (kg.I Y) U gj) <|
  p (λ_=>Ye (k':=.i64) U ⟨oa,oa⟩)<|p (QP U)<|pq (λ_ Y=>Qq (hf.B.I Y) U U)<|p (λ_=>XI U U ⟨oa,oa⟩) <|
  p (λ_=>zH (a:=(q:Int)) (b:=(S:Int)+2) U U oa oa)<|p ZH<|pe ?_
 have ha:=hf.I (O3.C [] V);refine Zk ((q:Int) % ((S:Int)+2)) λt ht=>?_;refine Qm<|Qs U ha.B U U<|QX U U<|xe<|QG rfl (λki=>?_) (λki=>?_)
 ·refine Qh<|Qw<|Qb<|QN U U<|Qc ?_;exact⟨(k+1,vd,F),oh,La,hk1,h2,ha,hg.skip hk1⟩
 have kj:=Qi ha.e;have kk:QQ (I::ob vd) { V with drawn:=V.drawn+1 }.heap v al:=((hD.up (L':=I::ob vd) (λb G=>by
  rcases Li.1 G with rfl|G
  ·exact .inl oe
  exact .inr (kj b G).1)).J ha.st oe)
 have kn:=QT ha.e hj;refine QR (O3 (ob vd) { V with drawn:=V.drawn+1 }) [oD 0,oD 1,oD 2,oD 3,oD 4,oD 5,oD 6,oD 7,oD 8,oE 9,oE 10,oD 11,oE 12] mixed ol od (O3.C _ _) ?_
 refine p (QP U)<|pq (λ_ Y=>Qq (ha.B.J Y kn) U U)<|p Qy<|p Qy<|p Qy <|
  pic (i:=k) U kk U U hk1 λm5 ko=>pq (λ_ Y=>QD (ko.J Y (λb G=>Lk _ G)) U)<|p Qy<|p (λ_=>Qz ⟨U,U,U,Z⟩) <|
  pk<|QB (us:=[QF ((i:Int),O4 al k,(q:Int) % ((S:Int)+2))]) U U og (by exact(by decide:1*3<=1000000)) oA λm6 m7 kq m8 kr=>?_
 have h3:=(O3.C [] { V with drawn:=V.drawn+1 }).D kq
 have ho:=ha.I h3;refine⟨h3.any,?_⟩;refine pk<|Za (news:=QF ((i:Int),O4 al k,(q:Int) % ((S:Int)+2))) (L:=[]) ho.e U U U (kr.at oe) (λy hy=>by simp only[QF,oK,oJ,or_false]at hy;rcases hy with rfl|rfl|rfl <;> rfl) oa ho.st.size λhW kt ku h4 kv=>⟨(h3.any (L:=ob vd)).Q h4,?_⟩
 have hX:YB 213 J.heap.size kt hW (F++[((i:Int),O4 al k,(q:Int) % ((S:Int)+2))]):=YB.snoc ku;refine p (QP U)<|pkl (hl:=by kernel_rfl)<|QA (ho.B.J h4 (QT ho.e hj)) U U oe (YB.eds (L:=[]) hX (by simp;omega) oe).one λm9 kw kx=>pe ?_;have kz:=ho.setE hj h4 hX kv kw kx;refine Qw<|Qb<|QN U U<|Qc ?_;exact⟨(k+1,hW,F++[((i:Int),O4 al k,(q:Int) % ((S:Int)+2))]),oh,La,hk1,h2,kz,hg.edge hk1 hi h0 kh oa⟩
section
variable {pS:String}
theorem U4 [Ag P t sz]{x:O1}(h:Q7 w.heap b T cs)(hx:ev f x=.pointer (some ⟨b,o,none⟩))(hl:us.length=sz)(G:∀j u,us[j]?=some u->cs[o+j]?=some u):
  (execOp (ev f) ⟨d,.load t x,ty,pS,af,gd⟩).run P w=.ok (.value (.agg us.toArray)) w:=by
 refine q7 hx hl λj u H=>?_;rw[Kh,Ka,h.cell];exact G j u H
end
theorem Qml :∀j u,(bys ((ns.drop o).take n))[j]?=some u->(bys ns)[o+j]?=some u:=by
 intro j u h;simp only[bys,List.getElem?_map,List.getElem?_take,List.getElem?_drop]at h ⊢;split at h
 ·exact h
 cases h
theorem Qmm (h:∀n∈ns,n<256)(o n:Nat):∀m∈(ns.drop o).take n,m<256:=λm G=>h m (L6 (LR G))
theorem Qeh (m k:Nat):∀e∈setK m k,0<=e/\e<k:=by
 intro e G;simp only[setK,OA,List.mem_filter,OE]at G;obtain⟨i,⟨hi,_⟩,rfl⟩:=G;omega
theorem Qey (keep:Bool->Bool->Bool):∀(n:Nat) (a b:LI),a.length+b.length<=n->Y1 a->Y1 b->Y1 (mrg keep a b):=by
 intro n;induction n with
 | zero =>
  intro a b h _ _;have O:a=[]:=Lq oa;have S:b=[]:=Lq oa;subst O S;rw[Kw];exact List.Pairwise.nil
 | succ n ih =>
  intro a b T ia ib;by_cases h:a=[]/\b=[]
  ·obtain⟨rfl,rfl⟩:=h;rw[Kw];exact List.Pairwise.nil
  have V:=zZ h;have itl:∀(c:Bool) (l:LI),Y1 l->Y1 (tl c l):=λc l hl=>by
   cases c
   ·exact hl
   cases l with
   | nil=>exact hl
   | cons y l=>exact hl.tail
  have I:=ih (tl (Jj a b) a) (tl (Jj b a) b) oa (itl _ _ ia) (itl _ _ ib);rw[J9 keep h];cases keep (Jj a b) (Jj b a)with
  | false=>simpa using I
  | true =>
   simp only[cond_true,Ov];refine L3.2 ⟨λx hx=>?_,I⟩;have H:=(zf (itl _ _ ia) (itl _ _ ib) x).1 hx;cases a with
   | nil =>
    cases b with
    | nil=>exact OU ⟨U,U⟩ h
    | cons y b =>
     simp only[Jj,tl,cond_true,cond_false,On,oJ,false_or,Lg.hx,Ok]at H ⊢;exact ib.lt_of H.1
   | cons u a =>
    cases b with
    | nil =>
     simp only[Jj,tl,cond_true,cond_false,On,oJ,or_false,Lg.hx,Ok]at H ⊢;exact ia.lt_of H.1
    | cons y b =>
     rcases Int.lt_trichotomy u y with J|J|J
     ·have e1:decide (u<=y)=true:=OV oa;have e2:decide (y<=u)=false:=OX oa;simp only[Jj,tl,e1,e2,cond_true,cond_false,On,Lg.hx,Ok]at H ⊢;rcases H.1 with G|G
      ·exact ia.lt_of G
      rcases Li.1 G with G|G
      ·omega
      have:=ib.lt_of G;omega
     ·have e1:decide (u<=y)=true:=OV oa;have e2:decide (y<=u)=true:=OV oa;simp only[Jj,tl,e1,e2,cond_true,On,Lg.hx,Ok]at H ⊢;rcases H.1 with G|G
      ·have:=ia.lt_of G;omega
      have:=ib.lt_of G;omega
     have e1:decide (u<=y)=false:=OX oa;have e2:decide (y<=u)=true:=OV oa;simp only[Jj,tl,e1,e2,cond_true,cond_false,On,Lg.hx,Ok]at H ⊢;rcases H.1 with G|G
     ·rcases Li.1 G with G|G
      ·omega
      have:=ia.lt_of G;omega
     exact ib.lt_of G
section
variable {pS:String}{all:xA}{C:xw}
theorem tp {l:xp}(h:XP P all C K l f w):XT P all C K (.pl l) f w:=h
end
theorem Qd1 {J O S:O0}(h:ZK L w.heap va vm ve a)(T:ZK L' w.heap J O S a):
  Q5 prog 71 [.agg #[va,oF oG a.st,vm,ve],.agg #[J,oF oG a.st,O,S]] w λr w'=>r=.bool true/\O3 [] w w':=by
 refine Zs func71 ntmps71 results71 ?_;refine Qe<|Qa<|QS (us:=[va,oF oG a.st,vm,ve]) U λb2 w1 hi hl hj=>Qa<|QS (us:=[J,oF oG a.st,O,S]) U λb3 w2 hb hm G=>Qc ?_;have V:=hi.D hb;have H:=hj.I hb;refine Qe<|Qs U H U U<|Qs U G U U<|xb (Q9 U U) (λ_=>?_) (λh9=>OU U h9);refine Qb<|Qs U H U U<|Qs U G U U<|Qa<|xf<|(Jt (h.al.I V) (T.al.I V)).mono ?_;rintro r3 w3 ⟨hc,I⟩;rw[OV rfl]at hc;subst hc;have Y:=V.D I;refine x (U3 U) <|
  Qb<|Qs rfl (H.I I) U U<|Q0 U<|x (Qq (G.I I) U U) <|
  Qa<|xf<|(Jt (h.mr.I Y) (T.mr.I Y)).mono ?_
 rintro r4 w4 ⟨he,hf⟩;rw[OV rfl]at he;subst he;have ha:=Y.D hf;have hg:=I.D hf;refine QK rfl<|Qb<|Q0 U<|x (Qq (H.I hg) U U) <|
  Qs rfl (G.I hg) U U<|Qa<|xf<|(jH (h.ed.I ha) (T.ed.I ha)).mono ?_
 rintro r5 w5 ⟨hh,hk⟩;rw[OV rfl]at hh;subst hh;refine QK rfl<|Qc ?_;exact Ql ⟨[.bool true],La,U,ha.D hk⟩
section
variable {pS:String}
end
section
variable {w4 w'':OZ}{m q:Bool}{vd:O0}{E D:LI}
end
section
variable {pS:String}
end
def grid (g:Nat->Int->Option Ed)(vs:LI)(n:Nat):List Ed:=(oS 0 n).flatMap λj=>vs.filterMap (g j)
theorem qh (g:Nat->Int->Option Ed)(vs:LI)(n:Nat):grid g vs (n+1)=grid g vs n++vs.filterMap (g n):=by
 unfold grid;rw[MQ,LA];simp
theorem Qb9 (l m:List Ed)(s v:Int):xg (l++m) s v=match xg l s v with|some u=>some u|none=>xg m s v:=by
 induction l with
 | nil=>rfl
 | cons e l ih =>
  rw[Mj,xg,xg];split
  ·rfl
  exact ih
def yA (g:Nat->Int->Option Ed):Prop:=∀j v e,g j v=some e->e.1=(j:Int)/\e.2.1=v
theorem Qb7 {g:Nat->Int->Option Ed}(G:yA g)(j:Nat)(v:Int):∀(vs:LI),xg (vs.filterMap (g j)) j v=if v∈vs then(g j v).map (·.2.2)else none
 | []=>by simp[xg]
 | u::vs=>by
  have ih:=Qb7 G j v vs;rw[Mx];cases E:g j u with
  | none =>
   simp only[];rw[ih];by_cases e:v=u
   ·subst e;simp[E]
   simp[e]
  | some e =>
   have H:=G j u e E;simp only[];rw[xg];by_cases e2:u=v
   ·subst e2;rw[OS H,OS Lt,E];rfl
   rw[OR (λh=>e2 (H.2.symm.D h.2)),ih];simp[Ne.symm e2]
theorem Qb6 {g:Nat->Int->Option Ed}(E:yA g)(h:j≠i)(v:Int)(vs:LI):xg (vs.filterMap (g j)) i v=none:=by
 refine jI λe G I=>?_;obtain⟨u,_,H⟩:=MR.1 G;have:=E j u e H;omega
theorem Qgq {g:Nat->Int->Option Ed}(E:yA g)(vs:LI)(j:Nat)(v:Int):∀n,xg (grid g vs n) j v=if j<n/\v∈vs then(g j v).map (·.2.2)else none
 | 0=>by simp[grid,xg]
 | n+1=>by
  rw[qh,Qb9,Qgq E vs j v n];by_cases e:j=n
  ·subst e;rw[OR oa,Qb7 E];simp
  rw[Qb6 E (Ne.symm e)];by_cases h:j<n/\v∈vs
  ·rw[OS h,OS ⟨oa,h.2⟩];cases(g j v).map (·.2.2) <;> rfl
  rw[OR h,OR (λG=>h ⟨oa,G.2⟩)]
theorem QbY {g:Nat->Int->Option Ed}{vs:LI}{e:Ed}(h:e∈grid g vs n):∃j v,j<n/\v∈vs/\g j v=some e:=by
 unfold grid at h;obtain⟨j,E,G⟩:=Mi.1 h;obtain⟨v,H,I⟩:=MR.1 G;rw[M2]at E;exact⟨j,v,oa,H,I⟩
theorem QeR {g:Nat->Int->Option Ed}(E:yA g){vs:LI}(hi:Y1 vs):∀n,(grid g vs n).Pairwise λx y:Ed=>x.1<y.1\/(x.1=y.1/\x.2.1<y.2.1)
 | 0=>by simp[grid]
 | n+1=>by
  rw[qh,MI];refine⟨QeR E hi n,Jh (r:=(·<·)) (λx y u v V I J=>?_) hi,λe O S T=>?_⟩
  ·have G:=E n x u I;have H:=E n y v J;right;omega
  obtain⟨j,v,Y,_,G⟩:=QbY O;obtain⟨v',_,H⟩:=MR.1 T;have h3:=E j v e G;have h4:=E n v' S H;left;omega
theorem QpI (l:List Zd):∀(acc:LI),(∀a∈l,Y1 a.al)->Y1 acc->Y1 (l.foldl (λacc a=>mrg (· || ·) acc a.al) acc)/\∀x,x∈l.foldl (λacc a=>mrg (· || ·) acc a.al) acc↔x∈acc\/∃a∈l,x∈a.al:=by
 induction l with
 | nil=>intro acc _ h;exact⟨h,λx=>oe⟩
 | cons a l ih =>
  intro acc hl h;have G:=hl a Lt;obtain⟨H,I⟩:=ih (mrg (· || ·) acc a.al) (λb J=>hl b (Lk _ J)) (Qey _ _ _ _ (Lx _) h G);rw[L4];refine⟨H,λx=>?_⟩;rw[I x,zf h G];simp only[oK,exists_eq_or_imp];constructor
  ·rintro(⟨E|E,_⟩|E)
   ·exact .inl E
   ·exact .inr (.inl E)
   exact .inr (.inr E)
  rintro(E|E|E)
  ·exact .inl ⟨.inl E,by simp[E]⟩
  ·exact .inl ⟨.inr E,by simp[E]⟩
  exact .inr E
theorem QeY {l:List Zd}(h:∀a∈l,ZJ a):Y1 (evs l):=(QpI l [] (λa E=>(h a E).ali) oe).1
theorem QeX {l:List Zd}(h:∀a∈l,ZJ a)(x:Int):x∈evs l↔∃a∈l,x∈a.al:=by
 have:=(QpI l [] (λa E=>(h a E).ali) oe).2 x;unfold evs;rw[this];simp
def syF (aa:List Zd)(tup:List (LI))(j:Nat)(v:Int):Option Ed:=(YQ v aa (tup.getD j [])).map λu=>((j:Int),v,(tup.idxOf u:Int))
theorem Qnc (aa:List Zd)(tup:List (LI)):yA (syF aa tup):=by
 intro j v e h;unfold syF at h;obtain⟨u,_,rfl⟩:=Mo.1 h;exact⟨U,U⟩
theorem Qb1 {α β:Type}{f g:α->Option β}:∀{l:List α},(∀x∈l,f x=g x)->l.filterMap f=l.filterMap g
 | [],_=>rfl
 | x::l,h=>by rw[Mx,Mx,h x Lt,Qb1 (λy E=>h y (Lk _ E))]
theorem QiO {f:α->Option β}{v:α}{e:β}(h:f v=some e):[v].filterMap f=[e]:=by rw[Mx,h];rfl
theorem QlI {f:α->Option β}{v:α}(h:f v=none):[v].filterMap f=[]:=by rw[Mx,h];rfl
theorem Qhi {tup:List (LI)}{v:Int}(h:YQ v aa (tup.getD j [])=none):syF aa tup j v=none:=by unfold syF;rw[h];rfl
theorem Qbe {tup:List (LI)}{v:Int}(h:YQ v aa (tup.getD j [])=some u):syF aa tup j v=some ((j:Int),v,(tup.idxOf u:Int)):=by unfold syF;rw[h];rfl
def Clo (aa:List Zd)(tup:List (LI))(j:Nat)(vs:LI):Prop:=∀v∈vs,∀u,YQ v aa (tup.getD j [])=some u->u∈tup
theorem Vb {tup r:List (LI)}(h:j<tup.length):(tup++r).getD j []=tup.getD j []:=by simp[oQ,List.getElem?_append_left h]
theorem Qd9 {tup r:List (LI)}{vs:LI}(E:j<tup.length)(G:Clo aa tup j vs):vs.filterMap (syF aa (tup++r) j)=vs.filterMap (syF aa tup j):=by
 refine Qb1 λv H=>?_;unfold syF;rw[Vb E];cases I:YQ v aa (tup.getD j [])with
 | none=>rfl
 | some u =>
  have J:=G v H u I;simp only[Ox,Option.some.injEq,Prod.mk.injEq,true_and];rw[MU,OS J]
theorem Clo.pre {tup r:List (LI)}{vs:LI}(G:j<tup.length)(H:Clo aa tup j vs):Clo aa (tup++r) j vs:=by
 intro v I u E;rw[Vb G]at E;exact Mr _ (H v I u E)
theorem Qde {l:List α}{u:α}(h:l.Nodup)(G:u∉l):(l++[u]).Nodup:=by
 rw[My];exact⟨h,oe,λa H b E=>by simp only[oI]at E;subst E;exact λe=>G (by rw[<-e];exact H)⟩
theorem y7 {aa:List Zd}{i:Nat}:∀(vs:LI) (s I:Sy),i<s.tup.length->s.tup.Nodup->zu aa i (yZ s i) vs s=some I ->
  ∃r,I.tup=s.tup++r/\I.mk'=s.mk'/\I.ed=s.ed++vs.filterMap (syF aa I.tup i)/\Clo aa I.tup i vs/\I.tup.Nodup
 | [],s,I,_,hd,e=>by cases e;exact⟨[],oe,rfl,oe,λv hv=>(by cases hv),hd⟩
 | v::vs,s,I,hi,hd,e=>by
  rw[zu]at e;obtain⟨J,E,Y⟩:=MP.1 e;have key:∃T,J.tup=s.tup++T/\J.mk'=s.mk'/\J.ed=s.ed++[v].filterMap (syF aa J.tup i)/\Clo aa J.tup i [v]/\J.tup.Nodup:=by
   unfold syE at E;have eT:yZ s i=s.tup.getD i []:=rfl;rw[eT]at E;cases O:YQ v aa (s.tup.getD i [])with
   | none =>
    rw[O]at E;cases E
    refine⟨[],oe,rfl,by rw[QlI (Qhi O),List.append_nil],λv' G u H=>?_,hd⟩;simp only[oI]at G;subst G;rw[O]at H;cases H
   | some u =>
    rw[O]at E;simp only[]at E;by_cases H:u∈s.tup
    ·rw[OS H]at E;cases E
     refine⟨[],oe,rfl,by rw[QiO (Qbe O)],λv' G u' S=>?_,hd⟩;simp only[oI]at G;subst G;simp only[]at S ⊢;rw[O]at S;cases S;exact H
    rw[OR H]at E;split at E
    ·cases E
    cases E
    have e2:(s.tup++[u]).getD i []=s.tup.getD i []:=Vb hi;have e3:(s.tup++[u]).idxOf u=s.tup.length:=by rw[MU,OR H];simp
    refine⟨[u],U,U,?_,λv' G u' S=>?_,Qde hd H⟩
    ·rw[QiO (Qbe (tup:=s.tup++[u]) (u:=u) (by rw[e2];exact O)),e3]
    simp only[oI]at G;subst G;simp only[]at S ⊢;rw[e2,O]at S;cases S;simp
  obtain⟨T,k1,k2,k3,k4,k5⟩:=key;have V:i<J.tup.length:=by rw[k1];simp;omega
  have eT:yZ J i=yZ s i:=by unfold yZ;rw[k1];exact Vb hi
  rw[<-eT]at Y;obtain⟨r2,g1,g2,g3,g4,g5⟩:=y7 vs J I V k5 Y;refine⟨T++r2,by rw[g1,k1,LB],g2.D k2,?_,?_,g5⟩
  ·rw[g3,k3,LB];congr 1;rw[show v::vs=[v]++vs from rfl,List.filterMap_append];congr 1;rw[g1];exact(Qd9 V k4).symm
  intro v' G u H;rcases Li.1 G with rfl|G
  ·have:=k4.pre (r:=r2) V;rw[<-g1]at this;exact this v' Lt u H
  exact g4 v' G u H
structure SyG (aa:List Zd)(i:Nat)(s:Sy):Prop where
 nd:s.tup.Nodup
 le:i<=s.tup.length
 hd:s.tup.getD 0 []=oN aa.length 0/\0<s.tup.length
 mk2:s.mk'=((oS 0 i).filter λj=>Jz aa (s.tup.getD j [])).map λj:Nat=>(j:Int)
 ed:s.ed=grid (syF aa s.tup) (evs aa) i
 cl:∀j,j<i->Clo aa s.tup j (evs aa)
theorem Vd {α β:Type}{f g:α->List β}:∀{l:List α},(∀x∈l,f x=g x)->l.flatMap f=l.flatMap g
 | [],_=>rfl
 | x::l,h=>by rw[LM,LM,h x Lt,Vd (λy E=>h y (Lk _ E))]
theorem SyG.next {s E:Sy}(h:SyG aa i s)(hi:i<s.tup.length)(e:zu aa i (yZ s i) (evs aa) (Z8 aa i (yZ s i) s)=some E):SyG aa (i+1) E:=by
 have H:(Z8 aa i (yZ s i) s).tup=s.tup:=by unfold Z8;split <;> rfl
 have T:(Z8 aa i (yZ s i) s).ed=s.ed:=by unfold Z8;split <;> rfl
 have O:yZ (Z8 aa i (yZ s i) s) i=yZ s i:=by show(Z8 aa i (yZ s i) s).tup.getD i []=s.tup.getD i [];rw[H]
 rw[<-O]at e;obtain⟨r,g1,V,S,Y,g5⟩:=y7 (evs aa) _ E (by rw[H];exact hi) (by rw[H];exact h.nd) (by rw[O]at e ⊢;exact e);rw[H]at g1;rw[T]at S;have pre:∀j,j<=i->E.tup.getD j []=s.tup.getD j []:=λj G=>by rw[g1];exact Vb oa
 refine⟨g5,by rw[g1];simp;omega,⟨by rw[pre 0 oa];exact h.hd.1,by rw[g1];simp;omega⟩,?_,?_,λj G=>?_⟩
 ·rw[V,MQ,LZ,Lp,LX];have e1:((oS 0 i).filter λj=>Jz aa (E.tup.getD j []))=(oS 0 i).filter λj=>Jz aa (s.tup.getD j []):=by
   refine List.filter_congr λj G=>?_;rw[M2]at G;rw[pre j oa]
  rw[e1];unfold Z8;by_cases I:Jz aa (yZ s i)=true
  ·rw[OS I];have J:Jz aa (E.tup.getD i [])=true:=by rw[pre i (Lx _)];exact I
   simp only[List.filter_cons,J,if_true,List.filter_nil,oX,OI];rw[h.mk2]
  rw[OR I];have J:Jz aa (E.tup.getD i [])=false:=by rw[pre i (Lx _)];exact eq_false_of_ne_true I
  rw[Mc,OR (by rw[J];simp),NL,h.mk2];simp
 ·rw[S,qh,h.ed];congr 1;unfold grid;refine Vd λj G=>?_;rw[M2]at G;rw[g1];exact(Qd9 oa (h.cl j oa)).symm
 by_cases e2:j=i
 ·subst e2;exact Y
 have:=(h.cl j oa).pre (r:=r) oa;rw[<-g1]at this;exact this
theorem Qbd {aa:List Zd}:∀(f i:Nat) (s E:Sy),SyG aa i s->syL aa f i s=some E->∃G,SyG aa G E/\(E.tup.length=G\/G=i+f)
 | 0,i,s,E,h,e=>by cases e;exact⟨i,h,.inr U⟩
 | f+1,i,s,E,h,e=>by
  rw[syL]at e;split at e
  ·rename_i hi;obtain⟨H,I,J⟩:=MP.1 e;obtain⟨G,O,S⟩:=Qbd f (i+1) H E (h.next hi I) J;exact⟨G,O,oa⟩
  cases e;exact⟨i,h,.inl (ou h.le)⟩
structure SyP (aa:List Zd)(A:Zd)(Q:List (LI)):Prop where
 al:A.al=evs aa
 st:A.st=(Q.length:Int)
 nd:Q.Nodup
 v:∀t∈Q,Vt aa t
 le:Q.length<=4096
 hd:0<Q.length->Q.getD 0 []=oN aa.length 0
 mk2:A.mr=((oS 0 Q.length).filter λj=>Jz aa (Q.getD j [])).map λj:Nat=>(j:Int)
 ed:A.ed=grid (syF aa Q) (evs aa) Q.length
 cl:∀j,j<Q.length->Clo aa Q j (evs aa)
theorem Jp (J:∀a∈aa,ZJ a){A:Zd}{Q:List (LI)}(h:xh aa=some (A,Q)):SyP aa A Q/\(Q.length=0↔∃a∈aa,a.st=0):=by
 have G:=qZ J h;unfold xh at h;split at h
 ·rename_i H;cases h
  exact⟨⟨U,U,oe,oe,oe,λh=>by simp at h,oe,by simp[grid],λj I=>by simp at I⟩,oz H⟩
 rename_i H;obtain⟨s,O,S⟩:=Mo.1 h;have T:SyG aa 0 (y8 aa):=⟨by simp[y8],oe,⟨by simp[y8],by simp[y8]⟩,by simp[y8],by simp[y8,grid],λj I=>oa⟩;obtain⟨V,E,h4⟩:=Qbd 4096 0 (y8 aa) s T O;cases S
 have hl:V=s.tup.length:=by
  have h5:=E.le;have Y:=G.2;simp only[]at Y;omega
 subst hl;refine⟨⟨rfl,U,E.nd,G.1,G.2,λ_=>E.hd.1,E.mk2,E.ed,E.cl⟩,?_⟩;have:=E.hd.2;constructor
 ·intro h;have h7:s.tup.length=0:=h;omega
 intro h;exact OU h H
theorem SyP.to {A:Zd}{Q:List (LI)}(h:SyP aa A Q)(E:j<Q.length){v:Int}(G:v∈evs aa)(H:YQ v aa (Q.getD j [])=some u):Q.idxOf u<Q.length/\Q.getD (Q.idxOf u) []=u:=by
 have I:=h.cl j E v G u H;have hl:=MN I;refine⟨hl,?_⟩;simp[oQ,hl]
theorem SyP.okay (G:∀a∈aa,ZJ a){A:Zd}{Q:List (LI)}(h:SyP aa A Q):ZJ A:=by
 have V:=h.le;refine⟨λe E=>?_,by rw[h.al];exact QeY G,by rw[h.st];omega,by rw[h.st];omega,λs H=>?_,?_,λe E=>?_,by rw[h.ed];exact QeR (Qnc aa Q) (QeY G) _⟩
 ·rw[h.al]at E;obtain⟨a,O,hx⟩:=(QeX G e).1 E;exact(G a O).al e hx
 ·rw[h.mk2]at H;simp only[OA,List.mem_filter,OE]at H;obtain⟨i,⟨hi,_⟩,rfl⟩:=H;rw[h.st];omega
 ·rw[h.mk2];unfold Y1;rw[MW];refine List.Pairwise.sublist Nh ?_;exact(NF (s:=0) (n:=Q.length)).imp (λh=>oa)
 rw[h.ed]at E;obtain⟨j,v,S,I,J⟩:=QbY E;unfold syF at J;obtain⟨u,T,rfl⟩:=Mo.1 J;have:=(h.to S I T).1;rw[h.st,h.al];exact⟨oh,oh,I,oh,oh⟩
open Go.RowKit
instance:LawfulBEq ByteArray where
 eq_of_beq h:=(MapKept.bytes_beq _ _).1 h;rfl:=(MapKept.bytes_beq _ _).2 U
def chr (s:ByteArray)(i:Nat):Nat:=(s.get! i).toNat
theorem Qoy {s:ByteArray}(h:i<s.size):(s[i]'h).toNat=chr s i:=by
 unfold chr;obtain⟨d⟩:=s;have hd:i<d.size:=h;simp[ByteArray.get!,hd,ByteArray.getElem_eq_getElem_data]
theorem QgD {a b:ByteArray}(h:a.data.toList=b.data.toList):a=b:=by
 obtain⟨⟨x⟩⟩:=a;obtain⟨⟨y⟩⟩:=b;have E:x=y:=h;rw[E]
theorem bytes_beq (a b:ByteArray):(a.toList == b.toList)=decide (a=b):=by
 rw[ByteArray.toList_eq,ByteArray.toList_eq];by_cases h:a=b
 ·subst h;simp
 rw[OX h];have:a.data.toList≠b.data.toList:=λe=>h (QgD e);simpa using this
section
variable {pS:String}{t':Nat}{x:O1}
theorem QhP [h:St P t]{s:ByteArray}{k:IntKind}(hx:ev f x=.string s)(G:ev f y=.int k i)(hi:i<s.size):
  (execOp (ev f) ⟨d,.index t x y,ty,pS,af,gd⟩).run P w=.ok (.value (.int .u8 (chr s i))) w:=by
 have E:=run_index_string (P:=P) w t s k i h.u;rw[dif_pos ⟨oa,oa⟩]at E;have e:(s[(i:Int).toNat]'(oz hi)).toNat=chr s i:=Qoy hi;simp only[execOp,hx,G,Sem.run_bind,E,Result.andThen_ok,Sem.run_pure,e]
theorem Qda [h:St P t]{s:ByteArray}(hx:ev f x=.string s):
  (execOp (ev f) ⟨d,.call ⟨.builtin .len,#[x],#[t]⟩,ty,pS,af,gd⟩).run P w=.ok (.value (oF oG s.size)) w:=QhO h.u hx
theorem Xv {a b:ByteArray}(hx:ev f x=.string a)(E:ev f y=.string b):
  (execOp (ev f) ⟨d,.binOp .eql t x y t',ty,pS,af,gd⟩).run P w=.ok (.value (.bool (decide (a=b)))) w:=by
 have G:(eqGuard .eql t x y (.string a) (.string b)).run P w=.ok () w:=by simp[eqGuard]
 simp only[execOp,hx,E,Sem.run_bind,G,Result.andThen_ok,binOp_string_eql,Sem.run_pure,bytes_beq]
theorem YF {a b:ByteArray}(hx:ev f x=.string a)(E:ev f y=.string b)(hl:a.size+b.size<=1000000000):
  (execOp (ev f) ⟨d,.binOp .add t x y t',ty,pS,af,gd⟩).run P w=.ok (.value (.string (a++b))) w:=by
 have G:(eqGuard .add t x y (.string a) (.string b)).run P w=.ok () w:=by simp[eqGuard]
 have I:¬(((a.size+b.size:Nat):Int) > IntKind.i64.max):=by
  rw[show IntKind.i64.max=9223372036854775807 from rfl];omega
 simp only[execOp,hx,E,Sem.run_bind,G,Result.andThen_ok,binOp_string_add,Op.stringOp,OR I,Sem.run_pure]
theorem Qk2 {a:Nat}(hx:ev f x=.int .u16 a)(E:ev f y=.int .u16 b)(G:a<65536)(I:b<65536):
  (execOp (ev f) ⟨d,.binOp .and t x y t',ty,pS,af,gd⟩).run P w=.ok (.value (.int .u16 ((a &&& b:Nat):Int))) w:=by
 refine Jd hx E ?_;have hi:inK .u16 ((a &&& b:Nat):Int):=by
  have:a &&& b<=a:=Nat.and_le_left;exact⟨oa,oa⟩
 simp only[binOp,Op.intBits,BitVec.ofInt_natCast,ne_eq,not_true_eq_false,if_false,Sem.run_pure];rw[BitVec.toNat_and,BitVec.toNat_ofNat,BitVec.toNat_ofNat,M8 (show a<2 ^ IntKind.u16.bits from G),M8 (show b<2 ^ IntKind.u16.bits from I),YD hi]
theorem Qep {a:Nat}(E:a<65536)(G:b<65536):a ||| b<65536:=Nat.or_lt_two_pow (n:=16) E G
theorem Qc9 {a:Nat}(hx:ev f x=.int .u16 a)(I:ev f y=.int .u16 b)(E:a<65536)(G:b<65536):
  (execOp (ev f) ⟨d,.binOp .or t x y t',ty,pS,af,gd⟩).run P w=.ok (.value (.int .u16 ((a ||| b:Nat):Int))) w:=by
 refine Jd hx I ?_;have hi:inK .u16 ((a ||| b:Nat):Int):=by
  have:=Qep E G;exact⟨oa,oa⟩
 simp only[binOp,Op.intBits,BitVec.ofInt_natCast,ne_eq,not_true_eq_false,if_false,Sem.run_pure];rw[BitVec.toNat_or,BitVec.toNat_ofNat,BitVec.toNat_ofNat,M8 (show a<2 ^ IntKind.u16.bits from E),M8 (show b<2 ^ IntKind.u16.bits from G),YD hi]
theorem QhJ {k:IntKind}{a:Int}(hx:ev f x=.int k a)(E:ev f y=.int k' n)(G:n<=k.bits)(hi:inK k (a*2 ^ n)):
  (execOp (ev f) ⟨d,.binOp .shl t x y t',ty,pS,af,gd⟩).run P w=.ok (.value (.int k (a*2 ^ n))) w:=by
 refine Jd hx E ?_;have I:¬((n:Int)<0):=oa
 simp only[binOp,Op.shift,I,if_false,Ot,Nat.min_eq_left G,Sem.run_pure];rw[YD hi]
end
section
variable {P:O2}{ops:xA}{K:xu}{f:Fr}{w:OZ}{d:xC}{ty:Nat}{pS:String}{af:xz}{gd:xo}{l:xA}
 {t e sz bys:Nat} {z:O0} {x y1 y2:O1} {L:LN} {v:O0} {n:Nat} {cs:LV} {H:xx} {k k':IntKind} {hi:Nat}
theorem QhI [h:Sl P t e sz bys z](G:Zv L H v n sz cs)(hx:ev f x=v)(I:ev f y1=.int k hi)(J:ev f y2=.int k' hi)(V:hi<=n):
  ∃v',Zv L H v' hi sz (cs.take (hi*sz))/\∀w,(execOp (ev f) ⟨d,.slice t x none (some y1) (some y2),ty,pS,af,gd⟩).run P w=.ok (.value v') w:=by
 obtain⟨ii,O,_,Y,_⟩:=Sl.info h;rcases G.2.2 with⟨rfl,rfl⟩|⟨a,cap,rfl,hc,S⟩
 ·have T:hi=0:=oa
  subst T;refine⟨nS,?_,λw=>?_⟩
  ·rw[OM,List.take_zero];exact Zv.nil _ _ _
  simp[execOp,hx,I,J,Instr.sliceAt,Instr.slice,Instr.sliceBounds,Instr.sliceBound,asIntOf,run_underlying h.u,sizeOf,typeInfo,O]
 refine⟨.slice (some a) hi hi,⟨?_,ou G.2.1,.inr ⟨a,hi,U,Lx _,λu E=>S.out u (LR E),λu E=>S.lt u (LR E),λj u E=>?_⟩⟩,λw=>?_⟩
 ·rw[Ly,G.1,Mf (LY _ V)]
 ·rw[LT]at E;split at E
  ·exact S.cell j u E
  cases E
 by_cases T:hi=0
 ·subst T;simp[execOp,hx,I,J,Instr.sliceAt,Instr.slice,Instr.sliceBounds,Instr.sliceBound,asIntOf,run_underlying h.u,sizeOf,typeInfo,O]
 simp[execOp,hx,I,J,Instr.sliceAt,Instr.slice,Instr.sliceBounds,Instr.sliceBound,asIntOf,run_underlying h.u,sizeOf,typeInfo,O,Addr.add];intro h9;omega
end
section
variable {l:xA}{o:Oper}{C:xw}{pl:xp}
theorem xB {b:Bool}(E:(execOp (ev f) o).run P w=.ok (.value (.bool b)) w)(J:b=true->XL P ops K l (QY f o.dst (.bool true)) w)(O:b=false->XL P ops K l (QY f o.dst (.bool false)) w)
  (I:Z4 ops f o=true:=by rfl):XL P ops K (o::l) f w:=by
 cases G:b with
 | true=>rw[G]at E;exact x E (J G) I
 | false=>rw[G]at E;exact x E (O G) I
theorem pB {b:Bool}(E:∀w',(execOp (ev f) (QV ops i)).run P w'=.ok (.value (.bool b)) w')(J:b=true->XP P ops C K pl (QY f (QV ops i).dst (.bool true)) w)(O:b=false->XP P ops C K pl (QY f (QV ops i).dst (.bool false)) w)
  (I:Z4 ops f (QV ops i)=true:=by rfl):XP P ops C K ((i,true)::pl) f w:=by
 cases G:b with
 | true=>rw[G]at E;exact p E (J G) I
 | false=>rw[G]at E;exact p E (O G) I
theorem Qi4 {G:Prop}(b:Bool)(E:b=true->G)(I:b=false->G):G:=by cases h:b with|true=>exact E h|false=>exact I h
theorem bT {q:Prop}[Decidable q](h:q):true=decide q:=(OV h).symm
theorem bF {q:Prop}[Decidable q](h:¬q):false=decide q:=(OX h).symm
theorem bD {q r:Prop}[Decidable q][Decidable r](h:q↔r):decide q=decide r:=decide_eq_decide.2 h
end
section
variable {pS:String}{x:O1}
theorem zI {q:Prop}[Decidable q](hx:ev f x=.bool (decide q)):(execOp (ev f) ⟨d,.unOp .not t x,ty,pS,af,gd⟩).run P w=.ok (.value (.bool (decide (¬q)))) w:=by
 rw[Zz hx];simp
end
structure JY where
 nm:ByteArray
 co:Bool
 ob:Bool
 fo:Bool
 fl:Int
structure XG where
 nm:ByteArray
 a:Zd
structure qz where
 nm:ByteArray
 ls:xt
structure xI where
 nm:ByteArray
 ts:xt
 bd:Int
structure ZG where
 ev:List JY
 co:List XG
 rq:List XG
 ex:List qz
 cs:List xI
def VJ (n:Nat):LI:=(oT n).map λi:Nat=>(i:Int)
def nmP (i c:Nat):Prop:=((97<=c/\c<=122)\/(65<=c/\c<=90)\/c=95)\/(i≠0/\48<=c/\c<=57)
instance (i c:Nat):Decidable (nmP i c):=by unfold nmP;infer_instance
def nmQ (s:ByteArray)(i:Nat):Bool:=decide (nmP i (chr s i))
def YX (s:ByteArray):Bool:=(oS 0 s.size).all (nmQ s) && decide (0<s.size/\s.size<=32)
def Jg (seen:List ByteArray)(e:JY):Int:=if YX e.nm=false then 7 else if e.nm∈seen then 8 else if e.fl<0\/4<e.fl then 2 else if e.fl≠0/\(e.co || e.ob)=true then 13 else 0
def qG:List ByteArray->List JY->Int
 | _,[]=>0
 | seen,e::l=>if Jg seen e≠0 then Jg seen e else qG (seen++[e.nm]) l
def J2 (l:List JY):Int:=if 32<l.length then 3 else qG [] l
def ixs {α:Type}(q:α->Bool):Nat->List α->LI
 | _,[]=>[]
 | i,e::l=>if q e=true then(i:Int)::ixs q (i+1) l else ixs q (i+1) l
def unc (l:List JY):LI:=ixs (λe=>!e.co) 0 l
def XJ (sz:LI):Option Int->List (Int×Int)->Int
 | _,[]=>0
 | pr,l::ls=>if l.1<0\/(sz.length:Int)<=l.1 then 2 else if yL pr l.1=true then 5 else if l.2<0\/O4 sz l.1.toNat<=l.2 then 2 else XJ sz (some l.1) ls
def Jf (sz:LI)(ls:xt):Int:=if ls.length=0 then 12 else XJ sz none ls
def grt (n:Int):Bool:=decide (n < -65536) || decide (65536<n)
def JW (sz:LI):Option Int->List (Int×Int)->Int
 | _,[]=>0
 | pr,l::ls=>if l.1<0\/(sz.length:Int)<=l.1 then 2 else if yL pr l.1=true then 5 else if l.2=0\/grt l.2=true then 2 else JW sz (some l.1) ls
def Xp (sz:LI)(k:xI):Int:=if k.ts.length=0 then 12 else if JW sz none k.ts≠0 then JW sz none k.ts else if grt k.bd=true then 2 else 0
def J1 (seen:List ByteArray)(s:ByteArray):Int:=if YX s=false then 7 else if s∈seen then 8 else 0
def Yq (sz:LI):List ByteArray->List qz->Int
 | _,[]=>0
 | seen,x::l=>if J1 seen x.nm≠0 then J1 seen x.nm else if Jf sz x.ls≠0 then Jf sz x.ls else Yq sz (seen++[x.nm]) l
def Y0 (sz:LI):List ByteArray->List xI->Int
 | _,[]=>0
 | seen,x::l=>if J1 seen x.nm≠0 then J1 seen x.nm else if Xp sz x≠0 then Xp sz x else Y0 sz (seen++[x.nm]) l
def KN (n:Int):Bool:=decide (n<1) || decide (4096<n)
def Yy (sz:LI)(ex:List qz)(cs:List xI):Int:=if 8<sz.length then 3 else if sz.any KN=true then 2 else if 32<ex.length\/32<cs.length then 3 else if Yq sz [] ex≠0 then Yq sz [] ex else Y0 sz [] cs
def mns (a b:LI):LI:=mrg (λp q=>p && !q) a b
def K9 (a:Zd):Bool:=decide (KD a=0) && decide ((KT a).st=a.st/\(KT a).al=a.al/\(KT a).mr=a.mr/\(KT a).ed=a.ed)
def Yi (nev:Nat)(amg:LI)(seen:List ByteArray)(x:XG):Int :=
 if YX x.nm=false then 7 else if x.nm∈seen then 8 else if KD x.a≠0 then KD x.a else if K9 x.a=false then 6 else if x.a.st=0 then 12 else
 if(x.a.al.any λe=>decide ((nev:Int)<=e))=true then 2 else if(mns x.a.al amg).length≠0 then 9 else 0
def Yn (nev:Nat)(al:LI):List ByteArray->LI->List XG->Int×List ByteArray×LI
 | s,u,[]=>(0,s,u)
 | s,u,x::l=>if Yi nev al s x≠0 then(Yi nev al s x,s,u)else Yn nev al (s++[x.nm]) (mrg (· || ·) u x.a.al) l
def JE (nev:Nat)(u:LI):List ByteArray->List XG->Int
 | _,[]=>0
 | s,x::l=>if Yi nev u s x≠0 then Yi nev u s x else JE nev u (s++[x.nm]) l
def szs (l:List XG):LI:=l.map (·.a.st)
def O5 (l:List XG):List Zd:=l.map (·.a)
def Zm (c:ZG):Int :=
 if J2 c.ev≠0 then J2 c.ev else if c.co.length=0 then 12 else if 8<c.co.length\/12<c.co.length+c.rq.length then 3 else
 if(Yn c.ev.length (VJ c.ev.length) [] [] c.co).1≠0 then(Yn c.ev.length (VJ c.ev.length) [] [] c.co).1 else
 if JE c.ev.length (Yn c.ev.length (VJ c.ev.length) [] [] c.co).2.2 (Yn c.ev.length (VJ c.ev.length) [] [] c.co).2.1 c.rq≠0 then JE c.ev.length (Yn c.ev.length (VJ c.ev.length) [] [] c.co).2.2 (Yn c.ev.length (VJ c.ev.length) [] [] c.co).2.1 c.rq else
 Yy (szs c.co) c.ex c.cs
def VS (t:LI)(x:qz):Bool:=x.ls.all λl=>decide (t.getD l.1.toNat 0=l.2)
def Qo9 (t:LI)(k:xI):Int:=k.ts.foldl (λs p=>s+p.2*t.getD p.1.toNat 0) 0
def UX (t:LI)(k:xI):Bool:=decide (k.bd<Qo9 t k)
def fix {α:Type}(q:α->Bool):Nat->List α->Int
 | _,[]=>-1
 | i,e::l=>if q e=true then(i:Int)else fix q (i+1) l
def vio (c:ZG)(t:LI):Option (Int×Int):=
 if 0<=fix (VS t) 0 c.ex then some (1,fix (VS t) 0 c.ex)else if 0<=fix (UX t) 0 c.cs then some (2,fix (UX t) 0 c.cs)else none
def rfr (v:Int):Nat->List XG->LI->Int
 | i,x::l,s::ss=>if v∈x.a.al/\(xg x.a.ed s v).isSome=false then(i:Int)else rfr v (i+1) l ss
 | _,_,_=>-1
structure Rsn where
 st:Int
 kd:Int
 ix:Int
 ev:Int
def rfd (c:ZG)(rs:LI):LI->Option (Int×Int)
 | []=>none
 | v::l=>if 0<=rfr v 0 c.rq rs/\(c.ev.getD v.toNat ⟨.empty,false,false,false,0⟩).co=false then some (rfr v 0 c.rq rs,v)else rfd c rs l
def Qgm (a:Zd)(s:Int):LI:=(Yc a.ed s).map (·.2.1)
def rsn (c:ZG)(pl:Zd)(plc:Int)(i:Nat)(t:LI):Option Rsn :=
 match vio c (t.take c.co.length)with
 | some (k,j)=>some ⟨i,k,j,-1⟩
 | none=>match rfd c (t.drop c.co.length) (Qgm pl plc)with
  | some (j,v)=>some ⟨i,3,j,v⟩
  | none=>none
structure Spc where
 a:Zd
 co:List (LI)
 rq:List (LI)
 pl:LI
 fb:List Rsn
def plx (ps:List (LI))(t:LI):Int:=if t∈ps then(ps.idxOf t:Int)else 0
def Qng (c:ZG)(pl:Zd)(ps:List (LI))(s:Spc)(p:LI×Nat):Spc :=
 ⟨s.a,s.co++[p.1.take c.co.length],s.rq++[p.1.drop c.co.length],s.pl++[plx ps (p.1.take c.co.length)],
  match rsn c pl (plx ps (p.1.take c.co.length)) p.2 p.1 with|some r=>s.fb++[r]|none=>s.fb⟩
def YN (c:ZG):Int:=if Zm c≠0 then Zm c else if UT (O5 c.co)≠0 then UT (O5 c.co)else match xh (O5 c.co)with
 | none=>3
 | some _=>if UT (O5 c.co++O5 c.rq)≠0 then UT (O5 c.co++O5 c.rq)else match xh (O5 c.co++O5 c.rq)with
  | none=>3
  | some _=>0
def syA (l:List Zd):Zd:=match xh l with|none=>⟨[],0,[],[]⟩|some z=>z.1
def syQ (l:List Zd):List (LI):=match xh l with|none=>[]|some z=>z.2
def spc (c:ZG):Spc:=(syQ (O5 c.co++O5 c.rq)).zipIdx.foldl (Qng c (syA (O5 c.co)) (syQ (O5 c.co))) ⟨syA (O5 c.co++O5 c.rq),[],[],[],[]⟩
section
variable {pS:String}
end
inductive Pu where
 | pl (l:xp)
 | f2 (pre:xp) (i j:Nat) (t1 t2:Pu)
 | f3 (pre:xp) (i j k:Nat) (t1 t2 t3:Pu)
def Pu.len:Pu->Nat
 | .pl l=>l.length
 | .f2 pre _ _ t1 _=>pre.length+(1+t1.len)
 | .f3 pre _ _ _ t1 _ _=>pre.length+(1+t1.len)
def Qao (all:Array Oper):Pu->Array Bool->Bool
 | .pl l,ls=>Y9 all l ls
 | .f2 pre i j t1 t2,ls=>Kq all pre ls && Region.ready .any all (Z0 pre ls) == [i,j] && t1.len == t2.len && Qao all t1 ((Z0 pre ls).setIfInBounds i true) && Qao all t2 ((Z0 pre ls).setIfInBounds j true)
 | .f3 pre i j k t1 t2 t3,ls=>Kq all pre ls && Region.ready .any all (Z0 pre ls) == [i,j,k] && t1.len == t2.len && t1.len == t3.len && Qao all t1 ((Z0 pre ls).setIfInBounds i true) && Qao all t2 ((Z0 pre ls).setIfInBounds j true) && Qao all t3 ((Z0 pre ls).setIfInBounds k true)
def Qph (all:xA)(t:Pu):Bool:=Region.noSelect all.toArray && t.len == all.length && Qao all.toArray t (oW all.length false)
def XE (P:O2)(all:xA)(C:xw)(i:Nat)(N:xu)(f:Fr)(w:OZ):Prop:=Z4 all f (QV all i)=true/\XO P (QV all i) f w λE w'=>C w'/\N E w'
def XU (P:O2)(all:xA)(C:xw)(K:xu):Pu->Fr->OZ->Prop
 | .pl l=>XP P all C K l
 | .f2 pre i j t1 t2=>XP P all C (λf w=>XE P all C i (XU P all C K t1) f w/\XE P all C j (XU P all C K t2) f w) pre
 | .f3 pre i j k t1 t2 t3=>XP P all C (λf w=>XE P all C i (XU P all C K t1) f w/\XE P all C j (XU P all C K t2) f w/\XE P all C k (XU P all C K t3) f w) pre
section
variable {all:xA}{C:xw}{B:xu}
theorem Kk (E:Region.noSelect all.toArray=true):∀(t:Pu) (ls:Array Bool) (f:Fr) (w:OZ),ls.size=all.length->C w->Qao all.toArray t ls=true->XU P all C K t f w->XA P all C K t.len ls f w
 | .pl l,ls,f,w,S,T,G,h=>ZN E l ls f w S (.inl T) G h
 | .f2 pre i j t1 t2,ls,f,w,S,T,G,h=>by
  simp only[Qao,oL,beq_iff_eq]at G;obtain⟨⟨⟨⟨Y,H⟩,hl⟩,h1⟩,h2⟩:=G;rw[Pu.len];refine YC (B:=λf w=>XE P all C i (XU P all C K t1) f w/\XE P all C j (XU P all C K t2) f w) E pre ls f w T Y (λf I=>?_) h;have J:∀k,((Z0 pre ls).setIfInBounds k true).size=all.length:=λk=>by simp[YG,S]
  rw[Na 1];refine XC (λh0=>(by rw[h0]at H;cases H)) ?_;rw[H];intro k V o O;simp only[oK,oJ,or_false]at V;rcases V with rfl|rfl
  ·have:=I.1;unfold XE at this;rw[Zq O]at this;rw[this.1,cond_true];exact this.2.mono λv w' hx=>⟨.inr (.inr hx.1),Kk E t1 _ _ _ (J _) hx.1 h1 hx.2⟩
  have:=I.2;unfold XE at this;rw[Zq O]at this;rw[this.1,cond_true,hl];exact this.2.mono λv w' hx=>⟨.inr (.inr hx.1),Kk E t2 _ _ _ (J _) hx.1 h2 hx.2⟩
 | .f3 pre i j k t1 t2 t3,ls,f,w,S,T,G,h=>by
  simp only[Qao,oL,beq_iff_eq]at G;obtain⟨⟨⟨⟨⟨⟨Y,H⟩,hl⟩,ha⟩,h1⟩,h2⟩,h3⟩:=G;rw[Pu.len];refine YC (B:=λf w=>XE P all C i (XU P all C K t1) f w/\XE P all C j (XU P all C K t2) f w/\XE P all C k (XU P all C K t3) f w) E pre ls f w T Y (λf I=>?_) h;have J:∀k,((Z0 pre ls).setIfInBounds k true).size=all.length:=λk=>by simp[YG,S]
  rw[Na 1];refine XC (λh0=>(by rw[h0]at H;cases H)) ?_;rw[H];intro q V o O;simp only[oK,oJ,or_false]at V;rcases V with rfl|rfl|rfl
  ·have:=I.1;unfold XE at this;rw[Zq O]at this;rw[this.1,cond_true];exact this.2.mono λv w' hx=>⟨.inr (.inr hx.1),Kk E t1 _ _ _ (J _) hx.1 h1 hx.2⟩
  ·have:=I.2.1;unfold XE at this;rw[Zq O]at this;rw[this.1,cond_true,hl];exact this.2.mono λv w' hx=>⟨.inr (.inr hx.1),Kk E t2 _ _ _ (J _) hx.1 h2 hx.2⟩
  have:=I.2.2;unfold XE at this;rw[Zq O]at this;rw[this.1,cond_true,ha];exact this.2.mono λv w' hx=>⟨.inr (.inr hx.1),Kk E t3 _ _ _ (J _) hx.1 h3 hx.2⟩
theorem Qms {Q:Exit->Fr->OZ->Prop}(C:xw)(t:Pu)(H:P.follows .mixedOrders=true)(I:X4 n all=true)(E:Qph all t=true)
  (J:C { w with drawn:=w.drawn+1 }) (h:XU P all C (λf w=>Q .normal f w) t f { w with drawn:=w.drawn+1 }):W P n (.region id all.toArray true) Q f w:=by
 simp only[Qph,oL,beq_iff_eq]at E;obtain⟨⟨O,hl⟩,E⟩:=E;refine JG C H I ?_;have G:=Kk O t _ _ _ oe J E h;rw[hl]at G;exact G
theorem uP {l:xp}(h:XP P all C K l f w):XU P all C K (.pl l) f w:=h
theorem u2 {pre:xp}{E G:Pu}(h:XP P all C (λf w=>XE P all C i (XU P all C K E) f w/\XE P all C j (XU P all C K G) f w) pre f w):XU P all C K (.f2 pre i j E G) f w:=h
theorem u3 {pre:xp}{k:Nat}{E G H:Pu}(h:XP P all C (λf w=>XE P all C i (XU P all C K E) f w/\XE P all C j (XU P all C K G) f w/\XE P all C k (XU P all C K H) f w) pre f w):XU P all C K (.f3 pre i j k E G H) f w:=h
theorem ue {N:xu}(h:XO P (QV all i) f w λE w'=>C w'/\N E w')(G:Z4 all f (QV all i)=true:=by rfl):XE P all C i N f w:=⟨G,h⟩
end
attribute [irreducible] XU XE
open Go.RowKit
abbrev fen (ro:xC):Fence:={ Fence.wide with round:=ro }
def coll (ds:LN):List Deferred:=ds.map λD=>{ target:=.collected D,args:=#[] }
structure Y8 (n:Nat)(ds:LN)(a:Act)(f:Fr):Prop where
 size:a.tmps.size=n
 defers:a.defers=coll ds
 get:∀t,a.tmps.getD t undef=f t
theorem Y8.rel {a:Act}(h:Y8 n ds a f):Rel n { a with defers:=[] } f:=⟨h.size,U,h.get⟩
theorem Y8.eval {n:Nat}{ds:LN}{a:Act}{f:Fr}(h:Y8 n ds a f):a.eval=ev f:=by
 have:=h.rel.eval;rw[<-this];funext x;cases x <;> rfl
theorem Y8.put {n:Nat}{ds:LN}{a:Act}{f:Fr}(h:Y8 n ds a f){dst:xC}(hd:∀d,dst=some d->d<n)(v:O0):Y8 n ds (a.put dst v) (QY f dst v):=by
 have:=h.rel.put hd v;cases dst with
 | none=>exact h
 | some d=>exact⟨this.size,h.defers,this.get⟩
def X5:Code->Nat->Bool
 | .region _ ops _,t=>Z7 ops.toList t
 | .seq a b,t=>X5 a t || X5 b t
 | .cond _ a b,t=>X5 a t || X5 b t
 | .block _ a,t=>X5 a t
 | .loop a,t=>X5 a t
 | .skip,_| .exit _,_| .label _,_| .goto _,_| .ret,_| .rangeFunc ..,_=>false
 | _,_=>true
def wrG (D:xq):Code->Bool
 | .region _ ops _=>Qd6 D ops.toList
 | .seq a b=>wrG D a && wrG D b
 | .cond _ a b=>wrG D a && wrG D b
 | .block _ a=>wrG D a
 | .loop a=>wrG D a
 | .skip| .exit _| .label _| .goto _| .ret| .rangeFunc ..=>true
 | _=>false
theorem JN {D:xq}{t:Nat}(E:Xd D t=false):∀c:Code,wrG D c=true->X5 c t=false
 | .region _ ops _,h=>yY h E
 | .seq a b,h=>by simp only[wrG,oL]at h;simp[X5,JN E a h.1,JN E b h.2]
 | .cond _ a b,h=>by simp only[wrG,oL]at h;simp[X5,JN E a h.1,JN E b h.2]
 | .block _ a,h=>JN E a (by simpa[wrG]using h)
 | .loop a,h=>JN E a (by simpa[wrG]using h)
 | .skip,_=>rfl
 | .exit _,_=>rfl
 | .label _,_=>rfl
 | .goto _,_=>rfl
 | .ret,_=>rfl
 | .rangeFunc ..,_=>rfl
 | .scope _,h=>by simp[wrG]at h
 | .refuse _,h=>by simp[wrG]at h
def WG (ro:xC)(m:Nat)(P:O2)(n:Nat)(c:Code)(Q:Exit->LN->Fr->OZ->Prop)(ds:LN)(f:Fr)(w:OZ):Prop :=
 ∀a,Y8 n ds a f->c.wpIn (fen ro) m P (λe E w'=>∃ds' f',Y8 n ds' E f'/\(∀t,X5 c t=false->f' t=f t)/\Q e ds' f' w') a w
def QcX (K:LN->Fr->OZ->Prop)(Q:Exit->LN->Fr->OZ->Prop):Exit->LN->Fr->OZ->Prop
 | .normal,ds,f,w=>K ds f w
 | e,ds,f,w=>Q e ds f w
def QpX (id:Nat)(Q:Exit->LN->Fr->OZ->Prop):Exit->LN->Fr->OZ->Prop
 | .exit i,ds,f,w=>bif OQ i id then Q .normal ds f w else Q (.exit i) ds f w
 | e,ds,f,w=>Q e ds f w
section
variable {ro:xC}{m:Nat}{Q:Exit->LN->Fr->OZ->Prop}
theorem WG.mono {c:Code}{Q':Exit->LN->Fr->OZ->Prop}(h:WG ro m P n c Q ds f w)(E:∀e ds f w,Q e ds f w->Q' e ds f w):WG ro m P n c Q' ds f w :=
 λa G=>wpIn_mono (h a G) λ_ _ _ ⟨H,I,J,O,S⟩=>⟨H,I,J,O,E _ _ _ _ S⟩
theorem WG.keeps {c:Code}(h:WG ro m P n c Q ds f w):WG ro m P n c (λe G E w'=>(∀t,X5 c t=false->E t=f t)/\Q e G E w') ds f w :=
 λa I=>wpIn_mono (h a I) λ_ _ _ ⟨G,E,J,H,O⟩=>⟨G,E,J,H,H,O⟩
theorem YH (h:Q .normal ds f w):WG ro m P n .skip Q ds f w:=λ_ E=>wpIn_skip ⟨ds,f,E,λ_ _=>U,h⟩
theorem Vm (h:Q (.exit i) ds f w):WG ro m P n (.exit i) Q ds f w:=λ_ E=>wpIn_exit ⟨ds,f,E,λ_ _=>U,h⟩
theorem Vl (h:Q .ret ds f w):WG ro m P n .ret Q ds f w:=λ_ E=>wpIn_ret ⟨ds,f,E,λ_ _=>U,h⟩
theorem Zi {x y:Code}(h:WG ro m P n x (QcX (λds f w=>WG ro m P n y Q ds f w) Q) ds f w):WG ro m P n (.seq x y) Q ds f w:=by
 intro a O;refine wpIn_seq (wpIn_mono (h a O) ?_);rintro e S w' ⟨J,E,G,T,H⟩;have k1:∀t,X5 (.seq x y) t=false->E t=f t:=λt I=>T t (by simp only[X5,Of]at I;exact I.1);cases e with
 | normal =>
  refine wpIn_mono (H S G) λ_ _ _ ⟨V,Y,g1,g2,g3⟩=>⟨V,Y,g1,λt I=>(g2 t ?_).D (k1 t I),g3⟩;simp only[X5,Of]at I;exact I.2
 | exit id=>exact⟨J,E,G,k1,H⟩
 | goto l=>exact⟨J,E,G,k1,H⟩
 | ret=>exact⟨J,E,G,k1,H⟩
 | panic ch=>exact⟨J,E,G,k1,H⟩
 | outgrown=>exact⟨J,E,G,k1,H⟩
theorem Qfy {x y:Code}(D:xq)(S:α->List (Nat×O0))(I:α->LN->OZ->Prop)(hD:wrG D x=true)
  (O:WG ro m P n x (QcX (λE H w'=>∃z,Xr H (S z)/\I z E w') Q) ds f w)
  (T:∀z g E w',I z E w'->WG ro m P n y Q E (qK (S z) (mix D f g)) w'):WG ro m P n (.seq x y) Q ds f w:=by
 refine Zi (O.keeps.mono ?_);rintro e E H w' ⟨V,G⟩;cases e with
 | normal =>
  obtain⟨z,Y,hi⟩:=G;have J:=T z H E w' hi;rw[X7 (λt ht=>V t (JN ht x hD)),Y3 Y]at J;exact J
 | exit id=>exact G
 | goto l=>exact G
 | ret=>exact G
 | panic ch=>exact G
 | outgrown=>exact G
theorem Uc {c:O1}{x y:Code}{t:Bool}(H:ev f c=.bool t)(E:t=true->WG ro m P n x Q ds f w)(I:t=false->WG ro m P n y Q ds f w):
  WG ro m P n (.cond c x y) Q ds f w:=by
 intro a G;have J:a.eval c=.bool t:=by rw[G.eval];exact H
 refine wpIn_cond_split J (λe=>wpIn_mono (E e a G) ?_) (λe=>wpIn_mono (I e a G) ?_) <;>
  (rintro e a' w' ⟨O,S,T,V,Y⟩
   refine⟨O,S,T,λt E=>V t ?_,Y⟩;simp only[X5,Of]at E
   first|exact E.1|exact E.2)
theorem QmA {c:O1}{x y:Code}{p:Prop}[Decidable p](E:ev f c=.bool (decide p))(G:p->WG ro m P n x Q ds f w)(H:¬p->WG ro m P n y Q ds f w):
  WG ro m P n (.cond c x y) Q ds f w :=
 Uc E (λe=>G (OW e)) (λe=>H (OY e))
theorem j5 {c:O1}{x y:Code}{p:Prop}[Decidable p](E:ev f c=.bool (decide p))(G:¬p->WG ro m P n y Q ds f w)(H:p->WG ro m P n x Q ds f w):
  WG ro m P n (.cond c x y) Q ds f w:=QmA E H G
theorem QaX {c:O1}{x y:Code}(E:ev f c=.bool true)(h:WG ro m P n x Q ds f w):WG ro m P n (.cond c x y) Q ds f w:=Uc E (λ_=>h) (λe=>by cases e)
theorem VD {c:O1}{x y:Code}(E:ev f c=.bool false)(h:WG ro m P n y Q ds f w):WG ro m P n (.cond c x y) Q ds f w:=Uc E (λe=>by cases e) (λ_=>h)
theorem Z1 {c:Code}(h:WG ro m P n c (QpX id Q) ds f w):WG ro m P n (.block id c) Q ds f w:=by
 intro a J;refine wpIn_block (wpIn_mono (h a J) ?_);rintro e V w' ⟨H,G,I,O,E⟩;have k1:∀t,X5 (.block id c) t=false->G t=f t:=λt S=>O t (by simpa[X5]using S);cases e with
 | exit i =>
  simp only[Exit.inBlock];simp only[QpX]at E;by_cases hi:i=id
  ·subst hi;simp only[Nat.beq_refl,cond_true]at E;simp only[if_true];exact⟨H,G,I,k1,E⟩
  have T:OQ i id=false:=by
   cases e:OQ i id with
   | false=>rfl
   | true=>exact OU (Nat.eq_of_beq_eq_true e) hi
  rw[T]at E;rw[OR hi];exact⟨H,G,I,k1,E⟩
 | normal=>exact⟨H,G,I,k1,E⟩
 | goto l=>exact⟨H,G,I,k1,E⟩
 | ret=>exact⟨H,G,I,k1,E⟩
 | panic ch=>exact⟨H,G,I,k1,E⟩
 | outgrown=>exact⟨H,G,I,k1,E⟩
end
def QbK (l:xA):Bool:=l.all λo=>match o.op with| .defer _=>false|_=>true
theorem VW {l:xA}(h:QbK l=true):∀o∈l,∀c,o.op≠.defer c:=λo E c e=>by
 have:=Md.1 h o E;rw[e]at this;cases this
section
variable {ro:xC}{m:Nat}
theorem Qft {o:Oper}{a:Act}{K':Act->OZ->Prop}{Q:Exit->Act->OZ->Prop}(h:Y8 n ds a f)(G:∀c,o.op≠.defer c)
  (hK:∀v w',K (QY f o.dst v) w'->K' (a.put o.dst v) w') (hx:XO P o f w K):o.wpIn (fen ro) m P a w K' Q:=by
 unfold XO at hx;refine⟨λ_ _=>trivial,?_⟩;have e:Oper.semAt (fen ro).round a.eval o=execOp (ev f) o:=by
  rw[h.eval];cases ro with
  | none=>rfl
  | some l=>exact Oper.semAt_some l _ _ G
 rw[e];generalize (execOp (ev f) o).run P w=r at hx;cases r with
 | ok nx w' =>
  cases nx <;> simp only[upF]at hx <;> simp only[Oper.uponIn]
  case value v=>exact hK v w' hx
  case skip=>exact hK _ w' hx
  case enter g args =>
   refine⟨λh=>by simp[Fence.wide]at h,?_⟩;refine(callsIn_wide (n:=m - 1)).2 (Calls.mono hx λe H E=>?_);cases e with
   | returned v=>exact hK v H E
   | panicked c=>exact E.elim
   | outgrown=>exact E.elim
 | halt x w'=>exact hx.elim
theorem VR {l:xA}{a:Act}(h:Y8 n ds a f)(E:∀o∈l,∀d,o.dst=some d->d<n)(o:Oper):Region.wanted o (yielded l.toArray a.tmps)=Z4 l f o:=UW h.rel E o
theorem Qfu {Q:Exit->LN->Fr->OZ->Prop}{all:xA}(G:∀o∈all,∀d,o.dst=some d->d<n)(hd:∀o∈all,∀c,o.op≠.defer c)(f0:Fr):
  ∀(l:xA) (k:Nat) (a:Act) (f:Fr) (w:OZ),(∀j,l[j]?=all[k+j]?)->Y8 n ds a f->(∀t,Z7 all t=false->f t=f0 t) ->
   XL P all (λf w=>Q .normal ds f w) l f w ->
   wpOpsIn (fen ro) m P all.toArray (λe T w'=>∃ds' f',Y8 n ds' T f'/\(∀t,Z7 all t=false->f' t=f0 t)/\Q e ds' f' w') (oS k l.length) a w
 | [],_,a,f,w,_,E,I,h=>⟨ds,f,E,I,by unfold XL at h;exact h⟩
 | o::l,k,a,f,w,hl,E,I,h=>by
  have J:all[k]?=some o:=by simpa using(hl 0).symm
  have H:o∈all:=Mq J;have ih:=λa f w=>Qfu (Q:=Q) G hd f0 l (k+1) a f w (λj=>by have:=hl (j+1);simpa[OJ,Nat.add_comm 1 j]using this);have next:∀v,(∀t,Z7 all t=false->QY f o.dst v t=f0 t):=λv t O=>(Y4 (Jv H O) v).D (I t O);simp only[oV,Oy,wpOpsIn,oZ,J];rw[VR E G o];unfold XL at h;cases S:Z4 all f o with
  | false =>
   rw[S]at h;exact⟨λ_ _=>trivial,ih _ _ _ (E.put (G o H) _) (next _) h⟩
  | true =>
   rw[S]at h;exact Qft E (hd o H) (λv w' hx=>ih _ _ _ (E.put (G o H) v) (next v) hx) h
theorem QM {Q:Exit->LN->Fr->OZ->Prop}{l:xA}(E:X4 n l=true)(hd:QbK l=true)(h:XL P l (λf w=>Q .normal ds f w) l f w):WG ro m P n (.region id l.toArray false) Q ds f w:=by
 intro a G;refine wpIn_region ?_;have:=Qfu (ro:=ro) (m:=m) (Xj E) (VW hd) f l 0 a f w oe G (λ_ _=>rfl) h;simpa[List.range_eq_range',X5]using this
attribute [local semireducible] XA in
theorem zo {Q:Exit->Act->OZ->Prop}{all:xA}{C:xw}{K:xu}(G:∀o∈all,∀d,o.dst=some d->d<n)(hd:∀o∈all,∀c,o.op≠.defer c)(f0:Fr)
  (H:∀a f w,Y8 n ds a f->(∀t,Z7 all t=false->f t=f0 t)->K f w->Q .normal a w):
  ∀(k:Nat) (ls:Array Bool) (a:Act) (f:Fr) (w:OZ),Y8 n ds a f->(∀t,Z7 all t=false->f t=f0 t)->XA P all C K k ls f w->wpAnyIn (fen ro) m P .any all.toArray Q k ls a w
 | 0,_,a,f,w,E,I,h=>⟨h.1,H a f w E I h.2⟩
 | k+1,ls,a,f,w,E,I,h=>by
  refine⟨λY=>H a f w E I (h.1 Y),λi hi=>?_⟩;unfold wpOpIn;simp only[oZ];cases S:all[i]? with
  | none =>
   exfalso;obtain⟨_,o,ha,_⟩:=mem_ready.1 hi;simp[S]at ha
  | some o =>
   have J:o∈all:=Mq S;have O:=h.2 i hi o S;have next:∀v,(∀t,Z7 all t=false->QY f o.dst v t=f0 t):=λv t T=>(Y4 (Jv J T) v).D (I t T);simp only[];rw[VR E G o];cases V:Z4 all f o with
   | false =>
    rw[V]at O;exact⟨λ_ _=>trivial,zo G hd f0 H k _ _ _ _ (E.put (G o J) _) (next _) O⟩
   | true =>
    rw[V]at O;exact Qft E (hd o J) (λv w' hx=>zo G hd f0 H k _ _ _ _ (E.put (G o J) v) (next v) hx.2) O
theorem yB {Q:Exit->LN->Fr->OZ->Prop}{all:xA}(C:xw)(pl:xp)(I:P.follows .mixedOrders=true)(J:X4 n all=true)(hd:QbK all=true)(G:Qaq all pl=true)
  (O:C { w with drawn:=w.drawn+1 }) (h:XP P all C (λf w=>Q .normal ds f w) pl f { w with drawn:=w.drawn+1 }):WG ro m P n (.region id all.toArray true) Q ds f w:=by
 intro a S;simp only[Qaq,oL,beq_iff_eq]at G;obtain⟨⟨T,hl⟩,G⟩:=G;refine wpIn_region_any I ?_;have H:=ZN T pl _ _ _ oe (.inl O) G h;rw[hl]at H;have V:=zo (ro:=ro) (m:=m) (n:=n) (ds:=ds) (Q:=λe Y w'=>∃ds' E,Y8 n ds' Y E/\(∀t,Z7 all t=false->E t=f t)/\Q e ds' E w') (Xj J) (VW hd) f
  (λa E w hr hk hq=>⟨ds,E,hr,hk,hq⟩) _ _ a f _ S (λ_ _=>U) H
 simpa[X5]using V
end
section
variable {ro:xC}{m:Nat}{Q:Exit->LN->Fr->OZ->Prop}
theorem qJ {F:Fence}{c:Code}{Q:Exit->Act->OZ->Prop}{a:Act}(J:α->Act->OZ->Prop)(μ:α->Nat)(z:α)(h₀:J z a w)
  (round:∀x a w,J x a w->c.wpIn F m P (Exit.then (λH w'=>∃I,μ I<μ x/\J I H w') Q) a w):(Code.loop c).wpIn F m P Q a w:=by
 intro b k cs T O S;have key:∀j x a w,μ x=j->J x a w ->
   ∃e H w',Q e H w'/\ArrivesIn (Machine.fenced P F) P (lone (b.atR a (.code c::.inLoop c::k)) cs w) b k cs e H w':=by
  intro j;induction j using Nat.strongRecOn with
  | _ j ih =>
   intro x a w V Y;obtain⟨e,a₁,w₁,E,G⟩:=round x a w Y b (.inLoop c::k) cs T O S;cases e with
   | normal =>
    obtain⟨I,ha,hc⟩:=E;obtain⟨e₂,a₂,w₂,hq₂,harr₂⟩:=ih (μ I) (V ▸ ha) I a₁ w₁ U hc;exact⟨e₂,a₂,w₂,hq₂,.of_steps (StepsIn.trans G (.one (fenced_calm O S U) stepR_inLoop)) harr₂⟩
   | exit id=>exact⟨_,a₁,w₁,E,.pass (x:=.inLoop c) U (λ_ _=>.inl oe) G⟩
   | goto l=>exact⟨_,a₁,w₁,E,.pass (x:=.inLoop c) U (λ_ _=>.inl oe) G⟩
   | ret=>exact⟨_,a₁,w₁,E,.pass (x:=.inLoop c) U (λ_ _=>.inl oe) G⟩
   | panic ch=>exact⟨_,a₁,w₁,E,.pass (x:=.inLoop c) U (λ_ _=>.inl oe) G⟩
   | outgrown=>exact⟨_,a₁,w₁,E,.pass (x:=.inLoop c) U (λ_ _=>.inl oe) G⟩
 obtain⟨e,H,w',E,G⟩:=key _ z a w U h₀;exact⟨e,H,w',E,.of_steps (.one (fenced_calm O S U) stepR_loop) G⟩
theorem qy {c:Code}(D:xq)(S:α->List (Nat×O0))(I:α->LN->OZ->Prop)(μ:α->Nat)(hD:wrG D c=true)(z:α)
  (h0:Xr f (S z)) (hI:I z ds w)
  (round:∀x g H w',I x H w'->WG ro m P n c (QcX (λE J hb=>∃V,μ V<μ x/\Xr J (S V)/\I V E hb) Q) H (qK (S x) (mix D f g)) w'):WG ro m P n (.loop c) Q ds f w:=by
 intro a ha;refine qJ (λ(x:α) Y w'=>∃H J,Y8 n H Y J/\(∀t,X5 c t=false->J t=f t)/\Xr J (S x)/\I x H w') μ z ⟨ds,f,ha,λ_ _=>U,h0,hI⟩ ?_;rintro x Y w' ⟨H,J,h1,h2,h3,h4⟩;have h5:=round x J H w' h4;rw[X7 (λt O=>h2 t (JN O c hD)),Y3 h3]at h5;refine wpIn_mono (h5 Y h1) ?_;rintro e hc hb ⟨E,G,g1,g2,T⟩;have k1:∀t,X5 c t=false->G t=f t:=λt O=>(g2 t O).D (h2 t O);have k2:∀t,X5 (.loop c) t=false->G t=f t:=λt O=>k1 t (by simpa[X5]using O);cases e with
 | normal=>obtain⟨V,hm,hs,hi⟩:=T;exact⟨V,hm,E,G,g1,k1,hs,hi⟩
 | exit id=>exact⟨E,G,g1,k2,T⟩
 | goto l=>exact⟨E,G,g1,k2,T⟩
 | ret=>exact⟨E,G,g1,k2,T⟩
 | panic ch=>exact⟨E,G,g1,k2,T⟩
 | outgrown=>exact⟨E,G,g1,k2,T⟩
end
def rqG (P:O2)(rs:List ResultVar)(R:O0->OZ->Prop):Exit->LN->Fr->OZ->Prop
 | .normal,ds,f,w=>(∀D∈ds,w.heap[D]?=some (.deferred (some [])))/\ds.Nodup/\∃vs,∀w',O3 ds w w'->UR P f w' rs vs/\R (tup vs) w'
 | .ret,ds,f,w=>(∀D∈ds,w.heap[D]?=some (.deferred (some [])))/\ds.Nodup/\∃vs,∀w',O3 ds w w'->UR P f w' rs vs/\R (tup vs) w'
 | _,_,_,_=>False
theorem O3.putObj (w:OZ)(D:Nat)(o:Obj):O3 [D] w (w.putObj D o):=⟨U,U,U,oe,λk _ E=>World.putObj_heap_other (λe=>E (by simp[e]))⟩
theorem zV {F:Fence}{m:Nat}{P:O2}{fn:Func}{tmps:Array O0}{R:Ending->OZ->Prop}:∀(ds:LN) (w:OZ),(∀D∈ds,w.heap[D]?=some (.deferred (some [])))->ds.Nodup ->
  (∀w',O3 ds w w'->∃v,(results fn tmps).run P w'=.ok v w'/\R (.returned v) w')->LeavesInM F m P fn tmps R (coll ds) .returning w
 | [],w,_,_,h=>h w (O3.Z _ _)
 | D::ds,w,hD,I,h=>by
  refine⟨oe,.inl ⟨D,_,rfl,run_takeDeferred (hD D Lt),?_⟩⟩;have J:=O3.putObj w D (.deferred none);have H:=Nw.1 I;refine zV ds _ (λE hE=>?_) H.2 (λw' O=>h w' ?_)
  ·rw[World.putObj_heap_other (λe=>H.1 (by rw[<-e];exact hE))];exact hD E (Lk _ hE)
  exact(J.mono (λb G=>by simp at G;simp[G])).Q (O.mono (λb G=>Lk _ G))
theorem Q5.of_G {c:Code}{args:LV}{R:O0->OZ->Prop}{rs:List ResultVar}(m:Nat)
  (V:P.funcs[g]?=some fn) (Y:fn.body=some c) (hn:fn.ntmps=n) (ha:fn.results=rs.toArray) (hl:args.length<=n)
  (h:WG none m P n c (rqG P rs R) [] (ent args) w):Q5 P g args w R:=by
 unfold Q5;refine(callsIn_wide (n:=m)).1 (callsIn_of_wp_marks V Y Z (wpIn_mono (h _ ?_) ?_))
 ·refine⟨by simp[hn];omega,U,λt=>?_⟩;have key:∀(l:LV) (t:Nat),l[t]?.getD undef=ent l t:=by
   intro l;induction l with
   | nil=>intro t;rfl
   | cons v l ih=>intro t;cases t with|zero=>rfl|succ t=>simpa[ent]using ih t
  rw[<-key];simp only[Array.getD_eq_getD_getElem?,Array.getElem?_append,Od,oZ];by_cases J:t<args.length
  ·simp[J]
  simp[J,Array.getElem?_replicate];split <;> rfl
 rintro e I w' ⟨H,f',O,_,E⟩;have fin:((∀D∈H,w'.heap[D]?=some (.deferred (some [])))/\H.Nodup/\∃vs,∀G,O3 H w' G->UR P f' G rs vs/\R (tup vs) G) ->
   LeavesInM Fence.wide m P fn I.tmps (λe w'=>match e with| .returned v=>R v w'|_=>False) I.defers .returning w':=by
  rintro⟨hd,hc,vs,S⟩;rw[O.defers];refine zV H w' hd hc λG T=>⟨tup vs,?_,(S G T).2⟩;simp only[results,ha,List.mapM_toArray,Sem.run_bind,Sem.run_map];rw[JQ (a:={ I with defers:=[] }) O.rel _ (λ_=>rfl) (λ_ _=>rfl) rs vs (S G T).1]
  cases vs with
  | nil=>rfl
  | cons v vs=>cases vs with|nil=>rfl|cons u us=>rfl
 cases e with
 | normal=>exact fin E
 | ret=>exact fin E
 | exit id=>exact E.elim
 | goto l=>exact E.elim
 | panic c=>exact E.elim
 | outgrown=>exact E.elim
attribute [irreducible] WG
def IxQ {α:Type}(q:α->Bool)(es:List α)(r:O0):Prop:=(r=oF oG (-1)/\∀m (E:m<es.length),q (es[m]'E)=false)\/∃(i:Nat) (hi:i<es.length),r=oF oG i/\q (es[i]'hi)=true/\∀m (E:m<i),q (es[m]'oa)=false
theorem QlB [Fu prog g fn]{cap:LV}{q:Ed->Bool}{v:O0}(h:qX L w.heap v es)
  (T:∀(e:Ed) (G:OZ),O3 [] w G->Q5 prog g ([.agg (QF e).toArray]++cap) G λr w'=>r=.bool (q e)/\O3 [] G w'):
  Q5 prog 299 [v,.func (.func g) #[] cap.toArray] w λr w'=>O3 [] w w'/\IxQ q es r:=by
 have hb:=h.le;refine Zs func299 ntmps299 results299 ?_;refine Qe<|Qc<|Qd<|Qm<|QL h U<|Qb<|xe<|Qg<|QC (α:=Nat) [(4,5),(8,18)] (λz=>[(8,oF oG z)]) (λz w'=>z<=es.length/\O3 [] w w'/\∀m (E:m<es.length),m<z->q (es[m]'E)=false) (λz=>es.length - z) ol 0 La ⟨Ln _,O3.Z _ _,λm _ V=>OU V (Nf m)⟩ ?_;rintro k g1 G ⟨hk1,H,J⟩;refine Qe<|QX U U<|xe<|Qd<|QG U (λY=>?_) (λY=>?_)
 ·refine Qx<|Qe<|Qc ?_;exact Ql ⟨[oF oG (-1)],La,H,.inl ⟨U,λm E=>J m E oa⟩⟩
 have I:k<es.length:=oa
 refine Qh<|Qd<|Qg<|Qm<|Qc<|Qm<|Qb<|Qb<|xie (h.I H) U U I λhc ha=>x (Qv ha U U)<|Qa<|xc (first:=[]) (capt:=cap) U<|(T (es[k]'I) G H).mono ?_;rintro r2 w2 ⟨rfl,S⟩;refine xe<|QW rfl (λO=>?_) (λO=>?_)
 ·refine Qm<|Qc ?_;exact Ql ⟨[oF oG k],La,H.D S,.inr ⟨k,I,U,O,λm E=>J m oa E⟩⟩
 refine Qh<|Qw<|QN U U<|Qb<|xe<|⟨k+1,oa,La,I,H.D S,λm E he=>?_⟩;by_cases e:m=k
 ·subst e;exact O
 exact J m E oa
theorem QlA [Fu prog g fn]{cap:LV}{q:Int->Bool}{v:O0}{es:LI}(h:QQ L w.heap v es)
  (T:∀(e:Int) (G:OZ),O3 [] w G->Q5 prog g ([oF oG e]++cap) G λr w'=>r=.bool (q e)/\O3 [] G w'):
  Q5 prog 49 [v,.func (.func g) #[] cap.toArray] w λr w'=>O3 [] w w'/\IxQ q es r:=by
 have hb:=h.le;refine Zs func49 ntmps49 results49 ?_;refine Qe<|Qc<|Qd<|Qm<|QL h U<|Qb<|xe<|Qg<|QC (α:=Nat) [(4,5),(8,18)] (λz=>[(8,oF oG z)]) (λz w'=>z<=es.length/\O3 [] w w'/\∀m (E:m<es.length),m<z->q (es[m]'E)=false) (λz=>es.length - z) ol 0 La ⟨Ln _,O3.Z _ _,λm _ V=>OU V (Nf m)⟩ ?_;rintro k g1 G ⟨hk1,H,J⟩;refine Qe<|QX U U<|xe<|Qd<|QG U (λY=>?_) (λY=>?_)
 ·refine Qx<|Qe<|Qc ?_;exact Ql ⟨[oF oG (-1)],La,H,.inl ⟨U,λm E=>J m E oa⟩⟩
 have I:k<es.length:=oa
 refine Qh<|Qd<|Qg<|Qm<|Qc<|Qm<|Qb<|Qb<|xii (h.I H) U U I λhc ha=>x (QD ha U)<|Qa<|xc (first:=[]) (capt:=cap) U<|(T (es[k]'I) G H).mono ?_;rintro r2 w2 ⟨rfl,S⟩;refine xe<|QW rfl (λO=>?_) (λO=>?_)
 ·refine Qm<|Qc ?_;exact Ql ⟨[oF oG k],La,H.D S,.inr ⟨k,I,U,O,λm E=>J m oa E⟩⟩
 refine Qh<|Qw<|QN U U<|Qb<|xe<|⟨k+1,oa,La,I,H.D S,λm E he=>?_⟩;by_cases e:m=k
 ·subst e;exact O
 exact J m E oa
theorem Qfa [Fu prog g fn]{cap:LV}{q:Int->Bool}{v:O0}{es:LI}(h:QQ L w.heap v es)
  (I:∀(e:Int) (G:OZ),O3 [] w G->Q5 prog g ([oF oG e]++cap) G λr w'=>r=.bool (q e)/\O3 [] G w'):
  Q5 prog 84 [v,.func (.func g) #[] cap.toArray] w λr w'=>r=.bool (es.any q)/\O3 [] w w':=by
 refine Zs func84 ntmps84 results84 ?_;refine Qe<|Qc<|Qm<|Qb<|Qa<|xf<|(QlA h I).mono ?_;rintro T G ⟨H,E⟩;refine Or.elim E (λE=>?_) (λE=>?_)
 ·obtain⟨rfl,J⟩:=E;have e:es.any q=false:=by
   rw[Nx];intro z O;obtain⟨i,hi,rfl⟩:=LO O;rw[J i hi];simp
  refine x (Yl U U)<|Qc ?_;exact Ql ⟨[.bool false],La,by rw[e];rfl,H⟩
 obtain⟨i,hi,rfl,S,_⟩:=E;have e:es.any q=true:=Nm.2 ⟨_,Lm hi,S⟩;have e2:decide ((0:Int)<=(i:Int))=true:=oe
 refine x (Yl U U)<|Qc ?_;exact Ql ⟨[.bool (decide ((0:Int)<=(i:Int)))],La,by rw[e,e2];rfl,H⟩
theorem Qet (es:List Ed)(s v:Int):xd es s v=xd (Yc es s) s v:=by
 induction es with
 | nil=>rfl
 | cons e es ih =>
  unfold Yc at *;rw[Mc];by_cases h:e.1=s
  ·rw[OS (oz h),xd,xd,ih]
  rw[OR (oz h),xd,OR (λc=>h c.1),ih]
theorem Qdd:∀(l:List Ed) (s v:Int) (i:Nat) (hi:i<l.length),(∀e∈l,e.1=s)->(l[i]'hi).2.1=v->(∀m (E:m<i),(l[m]'oa).2.1≠v)->xd l s v=(l[i]'hi).2.2
 | e::l,s,v,0,_,G,H,_=>by rw[xd,OS ⟨G e Lt,H⟩];rfl
 | e::l,s,v,i+1,hi,G,H,E=>by
  rw[xd,OR (λc=>E 0 oa c.2)];exact Qdd l s v i (oz hi) (λe I=>G e (Lk _ I)) H (λm J=>E (m+1) oa)
theorem Qh6:∀(l:List Ed) (s v:Int),(∀e∈l,e.2.1≠v)->xd l s v=-1
 | [],_,_,_=>rfl
 | e::l,s,v,h=>by rw[xd,OR (λc=>h e Lt c.2)];exact Qh6 l s v (λe E=>h e (Lk _ E))
theorem Qid {n:Int}(e:Ed)(w:OZ)(G:Q7 w.heap b T [oF oG n]):
  Q5 prog 300 ([.agg (QF e).toArray]++[.pointer (some ⟨b,0,none⟩)]) w λr w'=>r=.bool (decide (e.2.1=n))/\O3 [] w w':=by
 refine Zs func300 ntmps300 results300 ?_;refine Qe<|Qa<|QS (us:=QF e) U λb2 I E J H=>Qc<|Qe<|Qs U H U U<|Y2 (G.I E) U U<|x (Q9 U U)<|Qc ?_;exact Ql ⟨[_],La,U,E⟩
theorem QcC {st:Int}(h:qX L w.heap ve a.ed)(H:ZJ a)(s v:Int)(ha:0<=s)(J:s<a.st):
  Q5 prog 257 [.agg #[va,oF oG st,vm,ve],oF oG s,oF oG v] w λr w'=>r=oF oG (xd a.ed s v)/\O3 [] w w':=by
 have hh:=H.st1;refine Zs func257 ntmps257 results257 ?_;refine Qe<|Qa<|QS (us:=[va,oF oG st,vm,ve]) U λb3 w1 J hj hb=>Qa<|QS (us:=[oF oG v]) U λb5 w2 O hk hc=>Qc<|Qe<|Q2 (hb.I O) U U<|Qb<|Qa<|xf<|(Qar ((h.I J).I O) H.eds (λe E=>⟨(H.ed e E).1,ou (H.ed e E).2.1⟩) s ha oa).mono ?_;rintro vo w3 ⟨S,hE⟩;refine Qc ?_;have hf:∀e∈Yc a.ed s,e.1=s:=λe E=>(Yf E).2;rw[Qet];refine Qm<|x (ZC (l:=[]) (l':=[.tmp 5]))<|Qa<|xf<|(QlB (q:=λe=>decide (e.2.1=v)) (cap:=[.pointer (some ⟨b5,0,none⟩)]) hE (λe T I=>Qid e T ((hc.I S).I I))).mono ?_;rintro r4 T ⟨I,G⟩;have V:=((J.D O).D S).D I;refine Or.elim G (λG=>?_) (λG=>?_)
 ·obtain⟨rfl,hq⟩:=G;have e1:xd (Yc a.ed s) s v=-1:=Qh6 _ _ _ λe E=>by
   obtain⟨i,hi,rfl⟩:=LO E;simpa using hq i hi
  rw[e1];refine Qc<|Qd<|Qm<|QX U U<|xe<|yv U ?_;refine Qe<|Qc ?_;exact Ql ⟨[oF oG (-1)],La,U,V⟩
 obtain⟨i,hi,rfl,h1,h2⟩:=G;have e1:xd (Yc a.ed s) s v=((Yc a.ed s)[i]'hi).2.2:=Qdd _ s v i hi hf (oz h1) (λm hm=>oz (h2 m hm));rw[e1];refine Qc<|Qd<|Qm<|QX U U<|xe<|QZ U (λY=>OU Y oa) (λY=>?_);refine Qh<|Qm<|Qb<|xie (hE.I I) U U hi λhl hg=>x (Zg U)<|x (QD (hg.fld 2 _ U) U)<|Qc ?_;exact Ql ⟨[_],La,U,V⟩
def flw (a:Zd):Int->LI->Int×Nat
 | s,[]=>(s,0)
 | s,v::u=>if xd a.ed s v<0 then(s,0)else((flw a (xd a.ed s v) u).1,(flw a (xd a.ed s v) u).2+1)
theorem Qnz (E:ZJ a){v:Int}(h:¬xd a.ed s v<0):xd a.ed s v<a.st:=(E.ed _ (Qat oa)).2.2.2.2
theorem Qgg {vw:O0}{st:Int}(h:qX L w.heap ve a.ed)(H:QQ L' w.heap vw u)(S:ZJ a)(s:Int)(hc:0<=s)(T:s<a.st):
  Q5 prog 213 [.agg #[va,oF oG st,vm,ve],oF oG s,vw] w λr w'=>r=.tuple #[oF oG (flw a s u).1,oF oG (flw a s u).2]/\O3 [] w w':=by
 have hi:=H.le;refine Zs func213 ntmps213 results213 ?_;refine Qe<|Qa<|QS (us:=[va,oF oG st,vm,ve]) U λb3 w1 T hj he=>x Qk<|Qc<|Qd<|Qm<|QL H U<|Qb<|xe<|Qg<|QC (α:=Nat×Int) [(1,1),(6,10),(13,27)] (λz=>[(1,oF oG z.2),(13,oF oG z.1)]) (λz w'=>z.1<=u.length/\0<=z.2/\z.2<a.st/\O3 [] w1 w'/\flw a s u=((flw a z.2 (u.drop z.1)).1,(flw a z.2 (u.drop z.1)).2+z.1)) (λz=>u.length - z.1) ol (0,s) oA ⟨Ln _,hc,by assumption,O3.Z _ _,oe⟩ ?_;rintro⟨k,t⟩ g w2 ⟨hk,V,Y,O,E⟩;simp only[]at hk V Y E;have I:=T.D O;refine Qe<|QX U U<|xe<|Qd<|QG U (λha=>?_) (λha=>?_)
 ·refine Qx<|Qm<|Qb<|QL H U<|x Qk<|Qc ?_;rw[Lr oa]at E;have hg:k=u.length:=by have hl:¬(k:Int)<(u.length:Int):=ha;omega
  refine Ql ⟨[oF oG t,oF oG u.length],oA,?_,I⟩;rw[E,hg];simp[flw,tup]
 have G:k<u.length:=oa
 rw[Zf G,flw]at E;refine Qh<|Qd<|Qg<|Qm<|xii (H.I I) U U G λhm hh=>x (QD hh U)<|x Qk<|Qc<|Qe<|Q2 (he.I O) U U<|Qb<|Qb<|Qa<|xf<|(QcC (h.I I) S t (u[k]'G) V Y).mono ?_;rintro r3 w3 ⟨rfl,hb⟩;refine Qc<|Qd<|Qm<|QX U U<|xe<|QZ rfl (λJ=>?_) (λJ=>?_)
 ·rw[OS J]at E;refine Qm<|Qb<|x Qk<|Qc<|Ql ⟨[oF oG t,oF oG k],oA,?_,I.D hb⟩;rw[E];simp[tup]
 rw[OR J]at E;have hn:=Qnz S J;refine Qh<|Qw<|Qb<|Qc<|Qw<|QN U U<|Qb<|xe<|⟨(k+1,xd a.ed t (u[k]'G)),oh,oA,G,oh,hn,O.D hb,?_⟩;simp only[];rw[E];simp;omega
def cks (a:Zd)(s:Int):Int:=if KD a≠0 then KD a else if s<0\/a.st<=s then 2 else 0
theorem J3 (h:ZK L w.heap va vm ve a)(s:Int):
  Q5 prog 211 [.agg #[va,oF oG a.st,vm,ve],oF oG s] w λr w'=>r=oF oG (cks a s)/\O3 [] w w':=by
 refine Zs func211 ntmps211 results211 ?_;refine Qe<|Qa<|QS (us:=[va,oF oG a.st,vm,ve]) U λb2 V J Y O=>Qc<|Qd<|Qe<|Q2 O U U<|Qa<|xf<|(JF (h.I J)).mono ?_;rintro r2 T ⟨rfl,S⟩;refine Qc ?_;unfold cks;have E:=J.D S;refine Qm<|ZA U U<|xe<|QZ rfl (λG=>?_) (λG=>?_)
 ·refine Qm<|Qc ?_;exact Ql ⟨[_],La,by rw[OS G];rfl,E⟩
 rw[OR G];refine Qh<|Qd<|Q3 (α:=Unit) [(11,18)] (λz=>[(18,.bool (decide (s<0\/a.st<=s)))]) (λz w'=>w'=T) ol ?_ ?_
 ·refine Qw<|Qb<|xb (YJ U U) (λH=>?_) (λH=>?_)
  ·refine Qb<|Qr<|Qr<|Qr<|Qr<|QK U<|xe ?_;exact⟨(),⟨by rw[OV (Or.inl H)];rfl,Z⟩,U⟩
  refine Qb<|Qb<|Qs U (O.I S) U U<|x (Yl U U)<|QK U<|xe ?_;exact⟨(),⟨by show Value.bool (decide (a.st<=s))=_;simp[H],Z⟩,rfl⟩
 rintro z g w3 rfl;refine QZ rfl (λI=>?_) (λI=>?_)
 ·refine Qe<|Qc ?_;exact Ql ⟨[_],La,by rw[OS I];rfl,E⟩
 refine Qh<|Qe<|Qc ?_;exact Ql ⟨[_],La,by rw[OR I];rfl,E⟩
theorem Qck (h:cks a s=0):ZJ a/\0<=s/\s<a.st:=by
 unfold cks at h;split at h
 ·rename_i E;exact OU h E
 rename_i E;split at h
 ·cases h
 rename_i G;exact⟨(Z6 a).1 (Lo.1 E),oa,oa⟩
theorem QkV (e:Int)(w:OZ)(E:Q7 w.heap b T (va::us))(G:QQ L w.heap va al):
  Q5 prog 212 ([oF oG e]++[.pointer (some ⟨b,0,none⟩)]) w λr w'=>r=.bool (decide (e∉al))/\O3 [] w w':=by
 refine Zs func212 ntmps212 results212 ?_;refine Qe<|Qc<|Qe<|Qs U E U U<|Qb<|Qa<|xf<|(Ya G e).mono ?_;rintro H I ⟨rfl,rfl⟩;refine x (Zz U)<|Qc<|Ql ⟨[_],La,?_,O3.Z _ _⟩;show Value.bool (!decide (e∈al))=_;rw[decide_not]
def QkU (a:Zd)(s:Int)(u:LI):Int:=if cks a s≠0 then cks a s else if(u.any λe=>decide (e∉a.al))=true then 9 else 0
theorem QoM {vw:O0}(h:ZK L w.heap va vm ve a)(T:QQ L' w.heap vw u)(s:Int):
  Q5 prog 143 [.agg #[va,oF oG a.st,vm,ve],oF oG s,vw] w λr w'=>O3 [] w w'/\r=if QkU a s u≠0 then .tuple #[oF oG 0,oF oG 0,oF oG (QkU a s u)]else .tuple #[oF oG (flw a s u).1,oF oG (flw a s u).2,oF oG 0]:=by
 refine Zs func143 ntmps143 results143 ?_;refine Qe<|Qa<|QS (us:=[va,oF oG a.st,vm,ve]) U λb3 w1 V hb J=>x Qk<|x Qk<|Qc<|Qd<|Qe<|Q2 J U U<|Qb<|Qa<|xf<|(J3 (h.I V) s).mono ?_;rintro r2 w2 ⟨rfl,O⟩;refine Qc ?_;have G:=V.D O;unfold QkU;refine Qm<|ZA U U<|xe<|QZ rfl (λE=>?_) (λE=>?_)
 ·refine Qm<|x Qk<|x Qk<|Qc ?_;exact Ql ⟨[_,_,_],oB,G,by rw[OS E,OS E];rfl⟩
 have hc:cks a s=0:=Lo.1 E;obtain⟨ho,h0,h1⟩:=Qck hc;rw[OR E];refine Qh<|Qd<|Qm<|x (ZC (l:=[]) (l':=[.tmp 3]))<|Qa<|xf<|(Qfa (q:=λe=>decide (e∉a.al)) (cap:=[.pointer (some ⟨b3,0,none⟩)]) (T.I G) (λe Y H=>QkV e Y ((J.I O).I H) ((h.al.I G).I H))).mono ?_;rintro r3 w3 ⟨rfl,ha⟩;refine xe ?_;have I:=G.D ha;refine QW rfl (λS=>?_) (λS=>?_)
 ·rw[OS S];refine Qe<|x Qk<|x Qk<|Qc ?_;exact Ql ⟨[_,_,_],oB,I,by rw[OS og];rfl⟩
 rw[OR (by rw[S];simp)];refine Qh<|Qe<|Q2 ((J.I O).I ha) U U<|Qb<|Qb<|Qa<|xf<|(Qgg (h.ed.I I) (T.I I) ho s h0 h1).mono ?_;rintro r4 Y ⟨rfl,H⟩;refine Qb<|x (Zp U U) <|
  Q8 rfl rfl<|x Qk<|Qc<|Qm<|Qb<|x Qk<|x Qk<|Qc ?_
 exact Ql ⟨[_,_,_],oB,I.D H,U⟩
def enb (a:Zd)(s:Int):LI:=(Yc a.ed s).map (·.2.1)
theorem Qja {l:List Ed}{k:Nat}(h:k<l.length):(l.take (k+1)).map (·.2.1)=(l.take k).map (·.2.1)++[(l[k]'h).2.1]:=by
 rw[List.take_add_one,LF h,Lp];rfl
theorem Qd2 (h:ZK L w.heap va vm ve a)(s:Int):
  Q5 prog 208 [.agg #[va,oF oG a.st,vm,ve],oF oG s] w λr w'=>O3 [] w w'/\∃v,r=.tuple #[v,oF oG (cks a s)]/\(cks a s≠0->v=ZD)/\(cks a s=0->Qu 3 w.heap.size w' v (enb a s)):=by
 refine Zs func208 ntmps208 results208 ?_;refine Qe<|Qa<|QS (us:=[va,oF oG a.st,vm,ve]) U λb2 w1 ha hz hf=>x Qk<|Qc<|Qd<|Qe<|Q2 hf U U<|Qb<|Qa<|xf<|(J3 (h.I ha) s).mono ?_;rintro r2 w2 ⟨rfl,hg⟩;refine Qc ?_;have O:=ha.D hg;refine Qm<|ZA U U<|xe<|QZ rfl (λS=>?_) (λS=>?_)
 ·refine Qm<|x Qk<|Qc ?_;exact Ql ⟨[ZD,_],oA,O,ZD,U,λ_=>U,λe=>OU e S⟩
 have hc:cks a s=0:=Lo.1 S;obtain⟨G,h0,h1⟩:=Qck hc;have h2:=G.st1;rw[hc];refine Qh<|Qe<|Qc<|Qd<|Qe<|Q2 (hf.I hg) U U<|Qb<|Qa<|xf<|(Qar (h.ed.I O) G.eds (λe he=>⟨(G.ed e he).1,ou (G.ed e he).2.1⟩) s h0 oa).mono ?_;rintro vo w3 ⟨hi,hE⟩;refine QL hE U<|Qb<|xe ?_;have hh:=O.D hi;have hj:=hh.size;have hl:=K5 a.ed s;have h3:=G.ed_le;refine Zk (Yc a.ed s) λos H=>?_;rw[H]at hE hl;refine Qg<|QC (α:=Nat×O0) [(7,7),(9,9),(20,29)] (λz=>[(7,z.2),(20,oF oG z.1)]) (λz w'=>z.1<=os.length/\O3 [] w3 w'/\Qu 3 w3.heap.size w' z.2 ((os.take z.1).map (·.2.1))) (λz=>os.length - z.1) ol (0,nS) ⟨U,by rw[H];rfl,Z⟩ ⟨Ln _,O3.Z _ _,QJ _ _ _ _⟩ ?_;rintro⟨k,v⟩ g w4 ⟨hk,J,I⟩;simp only[]at hk I;have h4:=J.size;refine Qe<|QX U U<|xe<|Qd<|QG U (λT=>?_) (λT=>?_)
 ·refine Qx<|Qm<|x Qk<|Qc ?_;rw[Ls (by rw[H]at T;omega)]at I;refine Ql ⟨[v,_],oA,hh.D J,v,U,λe=>OU U e,λ_=>?_⟩;unfold enb;rw[H];exact Zy I hj
 have E:k<os.length:=by rw[H]at T;omega
 refine Qh<|Qd<|Qg<|Qe<|xie (hE.I J) U U E λh5 hm=>x (Qv hm U U)<|Qa<|Qo (us:=[oF oG 0,oF oG 0,oF oG 0]) U λb9 w5 hn hp hq=>Qa<|Qj (us:=QF (os[k]'E)) hq U U U U oB λw6 hr hs =>
  xe ?_
 have V:O3 [] w4 w6:=hn.O hr hp;have ht:=Qp I V;refine Qw<|Qb<|Qs U hs U U<|Qa<|QB (us:=[[oF oG (os[k]'E).2.1]]) U U og oe ⟨rfl,rfl,Z⟩ λh6 w7 Y h7 hu=>?_;have hv:=Qp ht Y;have h8:=(V.D Y).size;have h9:((os.take k).map (·.2.1)).length<=131072:=by simp;omega
 refine Qa<|Za (news:=[oF oG (os[k]'E).2.1]) (L:=[]) hv U U U (hu.at oe) (by simp[Value.oneCell']) oa oa λv8 w8 hw hy hA=>Qc ?_;have hge:=Qi I;refine Qw<|QN U U<|Qb<|xe<|⟨(k+1,v8),oh,oA,E,((J.D V).D Y).then hy (λb hb=>.inr (hge b hb).1),?_⟩;simp only[];rw[Qja E];exact Qu.snoc hw
theorem QcM {v:O0}(h:QQ L w.heap v l)(n:Int):
  Q5 prog 171 [v,oF oG n] w λr w'=>r=oF oG (Kf n none l)/\w'=w:=by
 have hc:=h.le;refine Zs func171 ntmps171 results171 ?_;refine Qe<|Qc<|Qd<|Qm<|QL h U<|Qb<|xe<|Qg<|QC (α:=Nat) [(4,6),(9,32)] (λk=>[(9,oF oG k)]) (λk w'=>w'=w/\k<=l.length/\Kf n (pv l k) (l.drop k)=Kf n none l) (λk=>l.length - k) ol 0 La ⟨U,Ln _,U⟩ ?_;rintro k g S ⟨rfl,hk,E⟩;refine Qe<|QX U U<|xe<|Qd<|QG U (λT=>?_) (λT=>?_)
 ·refine Qx<|Qe<|Qc<|Ql ⟨[oF oG 0],La,?_,U⟩;rw[<-E,Lr oa];rfl
 have G:k<l.length:=oa
 have hd:=Zf G;rw[hd,Kf]at E;refine Qh<|Qd<|Qg<|Qm<|xii h U U G λhe V=>x (QD V U)<|x Qk<|Qc<|Qd<|Q3 (α:=Bool) [(14,20)] (λz=>[(20,.bool z)]) (λz w'=>w'=S/\z=decide (l[k]<0\/n<=l[k])) ol ?_ ?_
 ·refine Qw<|Qb<|xb (YJ U U) (λH=>?_) (λH=>?_)
  ·refine Qb<|Qr<|Qr<|Qr<|QK U<|xe ?_;exact⟨true,La,U,by simp[H]⟩
  refine Qb<|Qb<|Qb<|x (Yl U U)<|QK U<|xe ?_;exact⟨_,La,U,by simp[H]⟩
 rintro z g Y ⟨rfl,rfl⟩;refine QZ rfl (λI=>?_) (λI=>?_)
 ·refine Qe<|Qc<|Ql ⟨[oF oG 2],La,?_,U⟩;rw[<-E,OS I];rfl
 rw[OR I]at E;refine Qh<|Q3 (α:=Bool) [(21,31)] (λz=>[(31,.bool z)]) (λz w'=>w'=Y/\z=yL (pv l k) l[k]) ol ?_ ?_
 ·refine Qw<|Qb<|xb (ZZ U U) (λha=>?_) (λha=>?_)
  ·have hk1:((k:Int) - 1)=((k - 1:Nat):Int):=oa
   refine Qb<|Qb<|Qb<|Qb<|x (Jb U U ⟨oa,oa⟩)<|xii (i:=k - 1) h U (by show Value.int _ ((k:Int) - 1)=_;rw[hk1]) oa λhf hb=>x (QD hb rfl)<|x (KL rfl rfl)<|QK rfl<|xe<|⟨_,La,U,?_⟩;have:pv l k=some l[k - 1]:=by
    have J:k≠0:=oa
    simp[pv,J,show k - 1<l.length by omega]
   rw[this];rfl
  refine Qb<|Qr<|Qr<|Qr<|Qr<|Qr<|Qr<|Qr<|QK U<|xe ?_;have J:k=0:=oa
  exact⟨false,La,U,by simp[pv,J,yL]⟩
 rintro z g w3 ⟨rfl,rfl⟩;refine QW rfl (λO=>?_) (λO=>?_)
 ·refine Qe<|Qc<|Ql ⟨[oF oG 5],La,?_,U⟩;rw[<-E,OS O];rfl
 rw[OR (by simp[O])]at E;refine Qh<|Qw<|QN U U<|Qb<|xe ?_;exact⟨k+1,oa,La,U,oa,by rw[Vp G];exact E⟩
open Go.RowKit
def upY (P:O2)(m:Nat)(dst:xC)(f:Fr)(K:xu):Result Next->Prop
 | .ok (.value v) w'=>K (QY f dst v) w'
 | .ok .skip w'=>K (QY f dst undef) w'
 | .ok (.enter g args) w'=>Calls P g args w' λe E=>match e with| .returned v=>K (QY f dst v) E|_=>False
 | .ok (.round l fn tmps assign body) w'=>RoundIn (fen none) (m - 1) P l fn tmps assign body w' λe E=>match e with| .returned v=>K (QY f dst v) E|_=>False
 | _=>False
def XOY (P:O2)(m:Nat)(o:Oper)(f:Fr)(w:OZ)(K:xu):Prop:=upY P m o.dst f K ((execOp (ev f) o).run P w)
def JK (P:O2)(m:Nat)(ops:xA)(K:xu):xA->Fr->OZ->Prop
 | [],f,w=>K f w
 | o::l,f,w=>bif Z4 ops f o then XOY P m o f w (JK P m ops K l)else JK P m ops K l (QY f o.dst undef) w
section
variable {m:Nat}
theorem XOY.of_XO {o:Oper}{K':xu}(hK:∀f w,K f w->K' f w)(h:XO P o f w K):XOY P m o f w K':=by
 unfold XO at h;unfold XOY;generalize (execOp (ev f) o).run P w=r at h;cases r with
 | ok nx w' =>
  cases nx <;> simp only[upF]at h <;> simp only[upY]
  case value v=>exact hK _ _ h
  case skip=>exact hK _ _ h
  case enter g args =>
   refine Calls.mono h λe G E=>?_;cases e with
   | returned v=>exact hK _ _ E
   | panicked c=>exact E.elim
   | outgrown=>exact E.elim
 | halt x w'=>exact h.elim
theorem JK.pre {ops:xA}{K:xu}{l2:xA}:∀(E:xA) (f:Fr) (w:OZ),XL P ops (λf w=>JK P m ops K l2 f w) E f w->JK P m ops K (E++l2) f w
 | [],f,w,h=>by unfold XL at h;exact h
 | o::E,f,w,h=>by
  unfold XL at h;show(bif Z4 ops f o then XOY P m o f w (JK P m ops K (E++l2))else JK P m ops K (E++l2) (QY f o.dst undef) w);cases G:Z4 ops f o with
  | false=>rw[G]at h;exact JK.pre E _ _ h
  | true=>rw[G]at h;exact XOY.of_XO (λf w h=>JK.pre E f w h) h
theorem JK.pre2 {o1 o2:Oper}{l2:xA}(h:XL P ops (λf w=>JK P m ops K l2 f w) [o1,o2] f w):JK P m ops K (o1::o2::l2) f w:=JK.pre [o1,o2] f w h
theorem JK.of_XL {l:xA}(h:XL P ops K l f w):JK P m ops K l f w:=by
 have:=JK.pre (m:=m) (l2:=[]) l f w h
 rwa [LS]at this
theorem QjW {o:Oper}{a:Act}{K':Act->OZ->Prop}{Q:Exit->Act->OZ->Prop}(h:Y8 n ds a f)
  (hK:∀v w',K (QY f o.dst v) w'->K' (a.put o.dst v) w') (hx:XOY P m o f w K):o.wpIn (fen none) m P a w K' Q:=by
 unfold XOY at hx;refine⟨λ_ _=>trivial,?_⟩;have e:Oper.semAt (fen none).round a.eval o=execOp (ev f) o:=by rw[h.eval];rfl
 rw[e];generalize (execOp (ev f) o).run P w=r at hx;cases r with
 | ok nx w' =>
  cases nx <;> simp only[upY]at hx <;> simp only[Oper.uponIn]
  case value v=>exact hK v w' hx
  case skip=>exact hK _ w' hx
  case enter g args =>
   refine⟨λh=>by simp[Fence.wide]at h,?_⟩;refine(callsIn_wide (n:=m - 1)).2 (Calls.mono hx λe G E=>?_);cases e with
   | returned v=>exact hK v G E
   | panicked c=>exact E.elim
   | outgrown=>exact E.elim
  case round l fn tmps assign body =>
   refine⟨λh=>by simp[Fence.wide]at h,?_⟩;refine RoundIn.mono hx λe G E=>?_;cases e with
   | returned v=>exact hK v G E
   | panicked c=>exact E.elim
   | outgrown=>exact E.elim
 | halt x w'=>exact hx.elim
theorem QcE {Q:Exit->LN->Fr->OZ->Prop}{all:xA}(G:∀o∈all,∀d,o.dst=some d->d<n)(f0:Fr):
  ∀(l:xA) (k:Nat) (a:Act) (f:Fr) (w:OZ),(∀j,l[j]?=all[k+j]?)->Y8 n ds a f->(∀t,Z7 all t=false->f t=f0 t) ->
   JK P m all (λf w=>Q .normal ds f w) l f w ->
   wpOpsIn (fen none) m P all.toArray (λe T w'=>∃ds' f',Y8 n ds' T f'/\(∀t,Z7 all t=false->f' t=f0 t)/\Q e ds' f' w') (oS k l.length) a w
 | [],_,a,f,w,_,E,H,h=>⟨ds,f,E,H,by unfold JK at h;exact h⟩
 | o::l,k,a,f,w,hl,E,H,h=>by
  have J:all[k]?=some o:=by simpa using(hl 0).symm
  have I:o∈all:=Mq J;have ih:=λa f w=>QcE (Q:=Q) G f0 l (k+1) a f w (λj=>by have:=hl (j+1);simpa[OJ,Nat.add_comm 1 j]using this);have next:∀v,(∀t,Z7 all t=false->QY f o.dst v t=f0 t):=λv t O=>(Y4 (Jv I O) v).D (H t O);simp only[oV,Oy,wpOpsIn,oZ,J];rw[VR E G o];unfold JK at h;cases S:Z4 all f o with
  | false =>
   rw[S]at h;exact⟨λ_ _=>trivial,ih _ _ _ (E.put (G o I) _) (next _) h⟩
  | true =>
   rw[S]at h;exact QjW E (λv w' hx=>ih _ _ _ (E.put (G o I) v) (next v) hx) h
theorem VC {Q:Exit->LN->Fr->OZ->Prop}{l:xA}(E:X4 n l=true)(h:JK P m l (λf w=>Q .normal ds f w) l f w):WG none m P n (.region id l.toArray false) Q ds f w:=by
 unfold WG;intro a G;refine wpIn_region ?_;have:=QcE (m:=m) (Xj E) f l 0 a f w oe G (λ_ _=>rfl) h;simpa[List.range_eq_range',X5]using this
theorem xy {rest:xA}{pS:String}{x:O1}{at_:Array Nat}{l:Nat}{R:Ending->OZ->Prop}
  (hx:ev f x=.func (.yield l) #[] #[]) (E:YieldAt (fen none) (m - 1) P l #[ev f y] w R) (hK:∀e w',R e w'->∃v,e=.returned v/\JK P m ops K rest (QY f d v) w')
  (G:Z4 ops f ⟨d,.call ⟨.value x,#[y],at_⟩,ty,pS,af,gd⟩=true:=by rfl):
  JK P m ops K (⟨d,.call ⟨.value x,#[y],at_⟩,ty,pS,af,gd⟩::rest) f w:=by
 obtain⟨fn,tmps,assign,body,H,I⟩:=E;have J:(execOp (ev f) ⟨d,.call ⟨.value x,#[y],at_⟩,ty,pS,af,gd⟩).run P w=.ok (.round l fn tmps assign body) w:=by
  simp[execOp,resolve,hx,Deferred.ofValue,invoke,H]
 unfold JK;rw[G];simp only[XOY,J,upY,cond_true];exact I.mono λe w' h=>by obtain⟨v,rfl,O⟩:=hK e w' h;exact O
end
attribute [irreducible] JK
structure Lw (B:Nat)(L:LN)(w w':OZ):Prop where
 os:w'.os=w.os
 tape:w'.tape=w.tape
 output:w'.output=w.output
 size:w.heap.size<=w'.heap.size
 low:∀k,k<B->k∉L->w'.heap[k]?=w.heap[k]?
theorem Lw.refl (B:Nat)(L:LN)(w:OZ):Lw B L w w:=⟨U,U,U,Lx _,λ_ _ _=>U⟩
theorem Lw.D {B:Nat}{L:LN}{E w w':OZ}(h:Lw B L E w)(k:Lw B L w w'):Lw B L E w' :=
 ⟨k.os.D h.os,k.tape.D h.tape,k.output.D h.output,LJ h.size k.size,λi hi G=>(k.low i hi G).D (h.low i hi G)⟩
theorem O3.lw {E:OZ}(h:O3 L w w')(k:Lw w.heap.size L w' E):O3 L w E :=
 ⟨k.os.D h.os,k.tape.D h.tape,k.output.D h.output,LJ h.size k.size,λi hi G=>(k.low i hi G).D (h.block i hi G)⟩
structure KJ (B:Nat)(L:LN)(W W':OZ):Prop where
 lw:Lw B L W W'
 other:∀(k:Nat) (o:Obj),W.heap[k]?=some o->o.isCells=false->W'.heap[k]?=some o
theorem KJ.refl (B:Nat)(L:LN)(w:OZ):KJ B L w w:=⟨Lw.refl _ _ _,λ_ _ h _=>h⟩
theorem KJ.D {B:Nat}{L:LN}{E w w':OZ}(h:KJ B L E w)(k:KJ B L w w'):KJ B L E w':=⟨h.lw.D k.lw,λi o hi G=>k.other i o (h.other i o hi G) G⟩
theorem KJ.J {W:OZ}(h:O3 X W W')(S:B<=W.heap.size)(H:∀b∈X,(b∈L\/B<=b)/\∃o:Obj,W.heap[b]?=some o/\o.isCells=true):KJ B L W W':=by
 refine⟨⟨h.os,h.tape,h.output,h.size,λk G J=>h.block k oa (λhx=>?_)⟩,λk o G O=>?_⟩
 ·rcases(H k hx).1 with E|E
  ·exact J E
  omega
 refine(h.block k (LH.1 G).1 (λhx=>?_)).D G;obtain⟨T,E,I⟩:=(H k hx).2;rw[G]at E;cases E;rw[O]at I;cases I
theorem KJ.I {W:OZ}(h:O3 [] W W')(E:B<=W.heap.size):KJ B L W W':=KJ.J h E (λ_ G=>by cases G)
theorem Q7.cells (h:Q7 H b T cs):∃o:Obj,H[b]?=some o/\o.isCells=true:=⟨_,h,U⟩
theorem KJ.blk {W:OZ}(h:O3 [b] W W')(E:B<=W.heap.size)(G:Q7 W.heap b T cs)(H:b∈L\/B<=b):KJ B L W W' :=
 KJ.J h E (λc I=>by
  have e:c=b:=by simpa using I
  subst e;exact⟨H,G.cells⟩)
def Yt (B:Nat)(I:xw):Prop:=∀W W' X,I W->O3 X W W'->(∀r∈X,B<=r/\∃o:Obj,W.heap[r]?=some o/\o.isCells=false)->I W'
theorem Yt.own {I:β->OZ->Prop}(h:∀s,Yt B (I s)):OwnFrom B I:=λs W W' row G H J =>
 h s W W' _ G (O3.of_grown H) (λr E=>J r (by cases row <;> simp at E ⊢;exact E.symm))
theorem Yt.blk :Yt B (λW=>Q7 W.heap b T cs):=λW W' X h G H=>h.J G (λI=>by
 obtain⟨_,o,E,J⟩:=H b I;unfold Q7 at h;rw[h]at E;cases E;cases J)
theorem Yt.and {I J:xw}(h:Yt B I)(k:Yt B J):Yt B (λW=>I W/\J W):=λW W' X hi E G=>⟨h W W' X hi.1 E G,k W W' X hi.2 E G⟩
theorem Yt.ex {I:β->OZ->Prop}(h:∀z,Yt B (I z)):Yt B (λW=>∃z,I z W):=λW W' X ⟨z,hi⟩ E G=>⟨z,h z W W' X hi E G⟩
theorem Yt.pure (p:Prop):Yt B (λ_=>p):=λ_ _ _ h _ _=>h
theorem Yt.J (I:w.heap.size<=B):Yt B (λW=>O3 L w W):=λW W' X h E G=>h.then E (λb H=>.inr (ou (G b H).1))
theorem QU {base e:Nat}{v:O0}(h:w.ownsRow base e sz v n cs):∀b∈ob v,∃o:Obj,w.heap[b]?=some o/\o.isCells=true:=by
 intro b E;rcases h.2 with⟨G,_⟩|⟨g,cap,cur,G,I,H,_⟩
 ·subst G;simp[ob]at E
 subst G;simp[ob]at E;subst E;exact⟨_,H,U⟩
theorem Yt.row {base e:Nat}{v:O0}:Yt B (λW=>W.ownsRow base e sz v n cs):=λW W' X h H I=>Qf h H (λb J hx=>by
 obtain⟨_,o,O,S⟩:=I b hx;obtain⟨T,E,G⟩:=QU h b J;rw[O]at E;cases E;rw[S]at G;cases G)
theorem Qmz {m:Nat}{Q:Exit->LN->Fr->OZ->Prop}{g:O1}{p:Nat}{assign body:Code}(L:LN)(V:1<=m)
    [hF:Fu P gf fn]  (hg:ev f g=.func (.func gf) #[] capt.toArray) {enc:α->O0} {S:List α->Prop}  (hp:p<n)
  (he:SeqStopsK (fen none) (m - 1) P gf capt.toArray (λx=>#[enc x]) (Lw w.heap.size L) S (λ_=>True) N w)
  (I:List α->OZ->Prop) (hI:∀s,Yt w.heap.size (I s)) (h0:I [] w) (A:Fr->α->Fr->OZ->Prop) (hA:∀x E,Yt w.heap.size (A f x E))
  (hb:∀l pre x W,I pre W->WG (some l) (m - 1 - 1) P n assign (QcX (λY E W'=>Y=[]/\KJ w.heap.size L W W'/\I pre W'/\A f x E W') (λ_ _ _ _=>False)) [] (upd f p (enc x)) W)
  (hc:∀l pre x E W,I pre W->A f x E W->pre.length<N->WG (some l) (m - 1 - 1) P n body (QcX (λ_ _ W'=>KJ w.heap.size L W W'/\I (pre++[x]) W') (λ_ _ _ _=>False)) [] E W)
  (hf:∀D xs W,w.heap.size<=D->S xs->I xs W->W.heap[D]?=some (.deferred (some []))->Q .normal (D::ds) f W):
  WG none m P n (.rangeFunc g #[p] assign body) Q ds f w:=by
 unfold WG at hb hc ⊢;intro a O;have eg:∀args w,(callFunc gf args).run P w=.ok (.enter gf args) w:=by
  intro args w;have V:¬fn.name = "runtime.NumGoroutine" := by simpa using hF.nm
  have J:¬fn.body=none:=by have:=hF.b;intro e;rw[e]at this;cases this
  simp[callFunc,hF.f,V,J]
 have keep:∀{W W':OZ},KJ w.heap.size L W W'->KeepsFrom w.heap.size W W':=λh=>⟨h.lw.size,λk o _ hk ho=>h.other k o hk ho⟩;refine wpIn_rangeFunc_ownH (F:=fen none) U V (gf:=gf) (lb:=capt.toArray) (by rw[O.eval];exact hg) Z eg he (λh k=>h.D k)
  (λW l o o' hl ho _ _=>⟨U,U,U,oe,λk hk _=>World.putObj_heap_other oa⟩) (Below.refl _ _) (λ_=>rfl) I (λ_ _ _=>False) (Yt.own hI) (λ_ _ _ _ _ hs _ _=>hs) h0
  (λx T W=>∃E,Y8 n [] T E/\A f x E W) (λx T=>Yt.own λ_=>Yt.ex λE=>Yt.and (Yt.pure _) (hA x E)) ?_ ?_ ?_ ?_
 ·intro l pre x W K hi hK;have hr:Y8 n [] { tmps:=((#[p]:Array Nat).zip #[enc x]).foldl (λt (p,v)=>t.setIfInBounds p v) a.tmps,defers:=[] } (upd f p (enc x)):=by
   have J:Y8 n [] { a with defers:=[] } f:=⟨O.size,U,O.get⟩
   have G:=J.put (dst:=some p) (λd e=>by cases e;exact hp) (enc x);have e:((#[p]:Array Nat).zip #[enc x]).foldl (λt (p,v)=>t.setIfInBounds p v) a.tmps=a.tmps.setIfInBounds p (enc x):=oe
   rw[e];exact G
  refine wpIn_mono (hb l pre x W hi _ hr) ?_;rintro e T W' ⟨Y,E,J,_,G⟩;cases e with
  | normal=>obtain⟨rfl,h4,H,h6⟩:=G;exact hK T W' (keep h4) h4.lw H ⟨E,J,h6⟩
  | exit id=>exact G.elim
  | goto l=>exact G.elim
  | ret=>exact G.elim
  | panic ch=>exact G.elim
  | outgrown=>exact G.elim
 ·rintro l pre x T W _ _ hi ⟨E,J,G⟩ hh;refine wpIn_mono (hc l pre x E W hi G hh T J) ?_;rintro e hj W' ⟨Y,hm,h4,_,H⟩;cases e with
  | normal=>exact⟨keep H.1,H.1.lw,H.2⟩
  | exit id=>exact H.elim
  | goto l=>exact H.elim
  | ret=>exact H.elim
  | panic ch=>exact H.elim
  | outgrown=>exact H.elim
 ·intro D xs W hD hS hi hd;exact⟨D::ds,f,⟨O.size,by rw[show coll (D::ds)={ target:=.collected D,args:=#[] }::coll ds from rfl,O.defers],O.get⟩,λ_ _=>rfl,hf D xs W hD hS hi hd⟩
 intro D c pre W _ _ h _;exact h.elim
def QoC (P:O2)(t:Nat):Option (LV×xq):=match P.info? t,P.underlying t with
 | some it,some (.struct fs)=>match it.zero,fs.toList.mapM (λf=>(P.info? f.type).map λi=>(f.offset,i.size))with
  | some (.agg zs),some pl=>some (zs.toList,pl)
  | _,_=>none
 | _,_=>none
class Bw (P:O2)(t:Nat)(zs:outParam (LV))(pl:outParam xq):Prop where
 h:QoC P t=some (zs,pl)
 b:pl.all (λx=>x.1+x.2<=zs.length)=true
def Qbm:LV->Nat->LV->LV
 | zs,_,[]=>zs
 | zs,o,u::us=>Qbm (zs.set o u) (o+1) us
def QjR (pl:xq)(zs:LV):List (Nat×LV)->LV
 | []=>zs
 | (j,us)::ps=>QjR pl (Qbm zs (pl.getD j (0,0)).1 us) ps
def QmF:List (Nat×O0)->List (Nat×LV)->Prop
 | [],[]=>True
 | (j,v)::vs,(j',us)::uss=>v.cells=us.toArray/\j=j'/\QmF vs uss
 | _,_=>False
theorem Qbl:∀(us zs:LV) (o:Nat),(Qbm zs o us).length=zs.length
 | [],_,_=>rfl
 | u::us,zs,o=>by rw[Qbm,Qbl us,Mk]
theorem jf (o:Nat):∀(us:LV) (k:Nat) (zs:LV),(us.zipIdx k).foldl (λ(cs:Array O0) (x:O0×Nat)=>cs.setIfInBounds (o+x.2) x.1) zs.toArray=(Qbm zs (o+k) us).toArray
 | [],_,_=>rfl
 | u::us,k,zs=>by
  rw[ND,L4,Qbm];have:=jf o us (k+1) (zs.set (o+k) u);rw[<-List.setIfInBounds_toArray]at this;exact this
theorem QiQ {pl:xq}:∀(vs:List (Nat×O0)) (uss:List (Nat×LV)) (zs:LV),QmF vs uss->uss.all (λp=>p.1<pl.length && (p.2.length == (pl.getD p.1 (0,0)).2))=true ->
  (∀x∈pl,x.1+x.2<=zs.length)->Instr.fill (pl.toArray[·]?) zs.toArray vs=some (QjR pl zs uss).toArray
 | [],[],zs,_,_,_=>rfl
 | [],_::_,_,h,_,_=>h.elim
 | _::_,[],_,h,_,_=>h.elim
 | (j,v)::vs,(j',us)::uss,zs,H,G,I=>by
  obtain⟨O,rfl,H⟩:=H;simp only[oR,oL,decide_eq_true_eq,beq_iff_eq]at G;obtain⟨⟨E,hl⟩,G⟩:=G;have J:pl.getD j (0,0)=pl[j]'E:=by simp[oQ,E]
  have T:=I _ (Lm E);unfold Instr.fill;simp only[oZ,Oe E,O];rw[J]at hl;rw[OR (by simp only[Od,hl,ne_eq,not_true,decide_false,Bool.false_or,decide_eq_true_eq];omega)];have e:=jf (pl[j]'E).1 us 0 zs;rw[Ni]at e;have e2:(us.toArray.zipIdx).foldl (λ(cs:Array O0) (x:O0×Nat)=>cs.setIfInBounds ((pl[j]'E).1+x.2) x.1) zs.toArray=(Qbm zs (pl[j]'E).1 us).toArray:=by
   rw[<-e];simp
  rw[e2,QjR,J];have S:=QiQ vs uss (Qbm zs (pl[j]'E).1 us) H G (λx hx=>by rw[Qbl];exact I x hx);simpa only[oZ]using S
theorem QdM {zs:LV}{pl:xq}(h:QoC P t=some (zs,pl))(I:pl.all (λx=>x.1+x.2<=zs.length)=true)(vs:List (Nat×O0))(uss:List (Nat×LV))(J:QmF vs uss)
  (O:uss.all (λp=>p.1<pl.length && (p.2.length == (pl.getD p.1 (0,0)).2))=true):P.built t vs=some (QjR pl zs uss).toArray:=by
 have S:∀x∈pl,x.1+x.2<=zs.length:=λo T=>oz (Md.1 I o T)
 unfold QoC at h;unfold Program.built;cases hi:P.info? t with
 | none=>simp[hi]at h
 | some it =>
  cases H:P.underlying t with
  | none=>simp[hi,H]at h
  | some dd =>
   simp only[hi,H]at h;cases dd <;> simp only[]at h <;> try (cases h)
   case struct fs =>
    cases E:it.zero with
    | none=>simp[E]at h
    | some z =>
     cases z <;> simp only[E]at h <;> try (cases h)
     rename_i za;cases G:fs.toList.mapM (λf=>(P.info? f.type).map λi=>(f.offset,i.size))with
     | none=>simp[G]at h
     | some pl' =>
      simp only[G,Option.some.injEq,Prod.mk.injEq]at h;obtain⟨rfl,rfl⟩:=h;simp only[E,G,Value.cells];exact QiQ vs uss za.toList J O S
theorem Zt {pS:String}{zs:LV}{pl:xq}[h:Bw P t zs pl]{parts:List (Nat×O1)}(uss:List (Nat×LV))
  (E:QmF (parts.map λx=>(x.1,ev f x.2)) uss) (G:uss.all (λp=>p.1<pl.length && (p.2.length == (pl.getD p.1 (0,0)).2))=true:=by rfl):
  (execOp (ev f) ⟨d,.build t parts.toArray,ty,pS,af,gd⟩).run P w=.ok (.value (.agg (QjR pl zs uss).toArray)) w:=by
 have H:=QdM h.h h.b _ uss E G;have I:=run_build (P:=P) w t (parts.toArray.map λ(i,x)=>(i,ev f x)) _ (oz H);simp only[execOp,Sem.run_bind,I,Result.andThen_ok,Sem.run_pure]
def cnE (p:Ed->Bool)(es:List Ed):Int:=((es.filter p).length:Int)
def gA (n:Nat)(f:Nat->Int):LI:=(oT n).map f
theorem Qoa (n:Nat)(f:Nat->Int):(gA n f).length=n:=by simp[gA]
theorem QiL {f:Nat->Int}(h:i<(gA n f).length):(gA n f)[i]'h=f i:=by simp[gA]
theorem Qn9 {f g:Nat->Int}{u:Int}(G:u=g i)(h:∀j,j<n->j≠i->g j=f j):(gA n f).set i u=gA n g:=by
 apply Mt
 ·simp[gA]
 intro k H E;rw[M6,QiL E];by_cases e:i=k
 ·rw[OS e,G,e]
 rw[OR e,QiL];exact(h k (by simpa[gA]using E) (Ne.symm e)).symm
def fS (es:List Ed)(s:Nat):Int:=cnE (λe=>decide (e.1<(s:Int))) es
section
variable {pS:String}
theorem Qh3 [h1:XK P t]{x:O1}{g E:Nat->Int}{u:Int}(G:Q7 w.heap b T ((gA n g).map (.int .i64)))(hx:ev f x=.pointer (some ⟨b,0+i*1,none⟩))(H:ev f y=oF oG u)(hi:i<n)(I:(gA n g).set i u=gA n E)
  (hK:∀w',O3 [b] w w'->Q7 w'.heap b T ((gA n E).map (.int .i64))->K (QY f d undef) w'):XO P ⟨d,.store t x y,ty,pS,af,gd⟩ f w K :=
 J8 G hx H (by rw[Qoa];exact hi) λw' J O=>hK w' J (by rw[<-I];exact O)
end
open Go.RowKit
section
variable {pS:String}{l:xA}
end
def VT {α:Type}(f:Nat->α)(i:Nat)(x:α):Nat->α:=λj=>if j=i then x else f j
theorem Yk (f:Nat->α)(i:Nat)(x:α):VT f i x i=x:=by simp[VT]
theorem YP (f:Nat->α)(x:α)(h:j≠i):VT f i x j=f j:=by simp[VT,h]
theorem Qhb (k:α->β)(n:Nat)(f:Nat->α)(i:Nat)(x:α):((oT n).map λj=>k (f j)).set i (k x)=(oT n).map λj=>k (VT f i x j):=by
 apply Mt
 ·simp
 intro j E G;rw[M6];by_cases e:i=j
 ·subst e;simp[Yk]
 rw[OR e];simp[YP _ _ (Ne.symm e)]
structure VP (base:Nat)(w:OZ)(n:Nat)(f:Nat->O0)(g:Nat->LI):Prop where
 own:∀i,i<n->Qu 3 base w (f i) (g i)
 dj:∀i j,i<n->j<n->i≠j->Dj (f i) (f j)
theorem VP.app {base:Nat}{f:Nat->O0}{g:Nat->LI}(h:VP base w n f g)(hi:i<n)(O:Qu 3 base w' v' l)(S:O3 (ob (f i)) w w')
  (T:∀b∈ob v',b∈ob (f i)\/w.heap.size<=b):VP base w' n (VT f i v') (VT g i l):=by
 refine⟨λj E=>?_,λj k E H G=>?_⟩
 ·by_cases e:j=i
  ·subst e;rw[Yk,Yk];exact O
  rw[YP _ _ e,YP _ _ e];exact Qf (h.own j E) S (h.dj j i E hi e)
 have key:∀j,j<n->j≠i->Dj v' (f j):=λj E e b V I=>by
  rcases T b V with J|J
  ·exact h.dj i j hi E (Ne.symm e) b J I
  have:=Zb (h.own j E) b I;omega
 by_cases e1:j=i
 ·subst e1;rw[Yk,YP _ _ (Ne.symm G)];exact key k H (Ne.symm G)
 rw[YP _ _ e1];by_cases e2:k=i
 ·subst e2;rw[Yk];exact(key j E e1).symm
 rw[YP _ _ e2];exact h.dj j k E H G
theorem VP.J {base:Nat}{f:Nat->O0}{g:Nat->LI}(h:VP base w n f g)(E:O3 X w w')(G:∀i,i<n->∀b∈ob (f i),b∉X):VP base w' n f g :=
 ⟨λi hi=>Qf (h.own i hi) E (G i hi),h.dj⟩
theorem VP.I {base:Nat}{f:Nat->O0}{g:Nat->LI}(h:VP base w n f g)(E:O3 [] w w'):VP base w' n f g:=h.J E (λ_ _ _ _=>oe)
def YY (es:List Ed)(s:Nat):LI:=(es.filter λe=>decide (e.2.2=(s:Int))).map (·.1)
theorem Qds (es:List Ed)(e:Ed)(E:0<=e.2.2):∀s,VT (YY es) e.2.2.toNat (YY es e.2.2.toNat++[e.1]) s=YY (es++[e]) s:=by
 intro s;unfold YY;rw[LZ,Lp];by_cases h:s=e.2.2.toNat
 ·subst h;rw[Yk];have:e.2.2=(e.2.2.toNat:Int):=oa
  simp[<-this]
 rw[YP _ _ h];have:¬e.2.2=(s:Int):=oa
 simp[this]
theorem Qgc {s:Nat}{p:Int}(h:p∈YY es s):∃e∈es,e.1=p/\e.2.2=(s:Int):=by
 unfold YY at h;simp only[OA,List.mem_filter,decide_eq_true_eq]at h;obtain⟨e,⟨E,G⟩,H⟩:=h;exact⟨e,E,H,G⟩
theorem qe (es:List Ed)(s:Nat):(YY es s).length<=es.length:=by
 unfold YY;rw[Lh];exact Ma _ _
def bwE (s:Int)(st:LI×LI)(p:Int):LI×LI:=if O4 st.1 p.toNat<0 then(st.1.set p.toNat (O4 st.1 s.toNat+1),st.2++[p])else st
def qS (n:Nat)(to:LI):LI:=(oT n).map λi:Nat=>if(i:Int)∈to then 0 else -1
structure Qkh (n:Nat)(o q:LI):Prop where
 len:o.length=n
 q:∀x∈q,0<=x/\x<(n:Int)
 le:∀x∈o,-1<=x/\x+(neg o:Int)<=n
theorem QnG (l:LI):neg l<=l.length:=Ma _ _
theorem QoD {p:Int}{st:LI×LI}(h:Qkh n st.1 st.2)(V:0<=s/\s<(n:Int))(E:0<=O4 st.1 s.toNat)(J:0<=p/\p<(n:Int)):
  Qkh n (bwE s st p).1 (bwE s st p).2/\neg (bwE s st p).1+(bwE s st p).2.length=neg st.1+st.2.length/\0<=O4 (bwE s st p).1 s.toNat:=by
 unfold bwE;have hl:=h.len;have G:p.toNat<st.1.length:=oa
 have O:s.toNat<st.1.length:=oa
 by_cases H:O4 st.1 p.toNat<0
 ·rw[OS H];have S:st.1[p.toNat]'G<0:=by rw[ZI G];exact H
  have Y:=h.le _ (Kg O);have ha:=Ut st.1 p.toNat (O4 st.1 s.toNat+1) G S oa;refine⟨⟨by simp[hl],λx hx=>?_,λx hx=>?_⟩,?_,?_⟩
  ·simp only[oU,oI]at hx;rcases hx with hx|rfl
   ·exact h.q x hx
   exact J
  ·simp only[]at hx ⊢;rcases MS hx with I|I
   ·have:=h.le x I;omega
   subst I;omega
  ·simp only[oM,oO];omega
  simp only[];have T:s.toNat≠p.toNat:=λe=>by rw[e]at E;omega
  have:O4 (st.1.set p.toNat (O4 st.1 s.toNat+1)) s.toNat=O4 st.1 s.toNat:=by
   unfold O4;simp[oQ,List.getElem?_set_ne (Ne.symm T)]
  rw[this];exact E
 rw[OR H];exact⟨h,rfl,E⟩
theorem UN (n:Nat)(to:LI):(qS n to).length=n:=by simp[qS]
theorem QoE {to:LI}(h:∀x∈to,0<=x/\x<(n:Int)):Qkh n (qS n to) to:=by
 refine⟨UN n to,h,λx hx=>?_⟩;have E:=QnG (qS n to);rw[UN]at E;unfold qS at hx;simp only[OA]at hx;obtain⟨i,_,rfl⟩:=hx;split <;> omega
theorem Qmn {to:LI}{x:Int}(h:0<=x/\x<(n:Int))(hx:x∈to):O4 (qS n to) x.toNat=0:=by
 have E:x.toNat<(qS n to).length:=by rw[UN];omega
 rw[<-ZI E];have:((x.toNat:Nat):Int)=x:=oa
 simp[qS,this,hx]
def QoL (o q:LI):Prop:=∀x∈q,0<=O4 o x.toNat
theorem QjN {p:Int}{st:LI×LI}(h:Qkh n st.1 st.2)(I:0<=O4 st.1 s.toNat)(J:0<=p/\p<(n:Int))(E:QoL st.1 st.2):QoL (bwE s st p).1 (bwE s st p).2:=by
 unfold bwE;have H:p.toNat<st.1.length:=by have:=h.len;omega
 by_cases G:O4 st.1 p.toNat<0
 ·rw[OS G];intro x hx;simp only[]at hx ⊢;have e1:O4 (st.1.set p.toNat (O4 st.1 s.toNat+1)) x.toNat=if x.toNat=p.toNat then O4 st.1 s.toNat+1 else O4 st.1 x.toNat:=by
   by_cases e:x.toNat=p.toNat
   ·rw[OS e,e];unfold O4;simp[oQ,H]
   rw[OR e];unfold O4;simp[oQ,List.getElem?_set_ne (Ne.symm e)]
  rw[e1];split
  ·omega
  rename_i e;simp only[oU,oI]at hx;rcases hx with hx|rfl
  ·exact E x hx
  exact OU U e
 rw[OR G];exact E
theorem QhD (n:Nat):(oN n (nS).cells.toList).flatten=(oT n).map (λ_=>nS):=by
 apply Mt
 ·simp[Value.cells]
 intro i E G;simp[Value.cells]
theorem Qgb (n:Nat):(oN n (oF oG 0).cells.toList).flatten=(gA n (λj=>if j<0 then -1 else 0)).map (Value.int .i64):=by
 apply Mt
 ·simp[Value.cells,gA]
 intro i E G;simp[Value.cells,gA]
theorem Qbu {rv:Nat->O0}(hi:i<n):((oT n).map rv)[0+i*1]?=some (rv i):=by simp[hi]
abbrev Lf:=List Bool
def lft (l:Lf)(s:Int):Bool:=l.getD s.toNat false
def cut (l:Lf)(s:Int):Lf:=l.set s.toNat false
def K8 (ul:LI)(lf:Lf)(out:xt)(e:Ed):xt:=
 if lft lf e.1=false\/lft lf e.2.2=true\/e.2.1∉ul then out else if out.getLast?.map (·.1)=some e.1 then out else out++[(e.1,e.2.1)]
def lost (a:Zd)(ul:LI)(lf:Lf):xt:=a.ed.foldl (K8 ul lf) []
def dsE (lf:Lf)(x:Int)(z:LI×LI)(y:Int):LI×LI:=if lft lf y=true/\O4 z.1 y.toNat<0 then(z.1.set y.toNat (O4 z.1 x.toNat+1),z.2++[y])else z
def dsL (es:List Ed)(lf:Lf):Nat->Nat->LI×LI->LI×LI
 | 0,_,z=>z
 | f+1,i,z=>if i<z.2.length then dsL es lf f (i+1) ((YY es (O4 z.2 i).toNat).foldl (dsE lf (O4 z.2 i)) z)else z
def ds1 (lf:Lf)(z:LI×LI)(x:Int):LI×LI:=if lft lf x=true then(z.1.set x.toNat 0,z.2++[x])else z
def ds0 (a:Zd)(lf:Lf):LI×LI:=a.mr.foldl (ds1 lf) (oN a.st.toNat (-1),[])
def dsts (a:Zd)(lf:Lf):LI:=(dsL a.ed lf a.st.toNat 0 (ds0 a lf)).1
def VG (lf:Lf):Nat->LI->LI
 | _,[]=>[]
 | i,d::l=>if lf.getD i false=true/\d<0 then(i:Int)::VG lf (i+1) l else VG lf (i+1) l
def nxs (a:Zd)(ul:LI)(lf:Lf):LI:=if(lost a ul lf).length≠0 then(lost a ul lf).map (·.1)else VG lf 0 (dsts a lf)
def zF (a:Zd)(ul:LI):Nat->Lf->Lf
 | 0,lf=>lf
 | f+1,lf=>if(nxs a ul lf).length=0 then lf else zF a ul f ((nxs a ul lf).foldl cut lf)
def lf0 (n:Nat)(fb:LI):Lf:=fb.foldl cut (oN n true)
def Qal (a:Zd)(fb ul:LI):Lf:=zF a ul (a.st.toNat+1) (lf0 a.st.toNat fb)
def rstr (a:Zd)(lf:Lf):Zd:=⟨a.al,a.st,a.mr,a.ed.filter λe=>lft lf e.2.2⟩
def Qho (a:Zd)(lf:Lf):Zd:=if a.st=0\/lft lf 0=false then⟨a.al,0,[],[]⟩else KT (rstr a lf)
def j9 (a:Zd)(fb ul:LI):Zd:=Qho a (Qal a fb ul)
def fbs (s:Spc):LI:=s.fb.map (·.st)
def suA (c:ZG):Zd:=j9 (spc c).a (fbs (spc c)) (unc c.ev)
def orB (b:Nat)(k:Nat):Nat:=b ||| (1 <<< k)
def rqB (x:XG):Nat->Nat->List XG->Nat
 | _,b,[]=>b
 | k,b,y::l=>rqB x (k+1) (if(y.a.al.any λe=>decide (e∈x.a.al))=true then orB b k else b) l
def prB (ls:xt):Nat:=ls.foldl (λb l=>orB b l.1.toNat) 0
def srR (c:ZG):LN:=c.rq.map λx=>rqB x 0 0 c.co
def srX (c:ZG):LN:=c.ex.map λx=>prB x.ls
def srC (c:ZG):LN:=c.cs.map λx=>prB x.ts
def srK (c:ZG)(k:Int):LN:=if k=1 then srR c else if k=2 then srX c else srC c
structure UU where
 kd:Int
 ix:Int
 co:LI
def VE (k:Int):Nat->LN->List UU
 | _,[]=>[]
 | i,b::l=>⟨k,i,setK b 8⟩::VE k (i+1) l
def O7 (c:ZG):List UU:=VE 1 0 (srR c)++(VE 2 0 (srX c)++VE 3 0 (srC c))
def sets (c:ZG):LN:=srR c++(srX c++srC c)
def Qqr (c:ZG):Nat:=(sets c).foldl (λl b=>l &&& (65535 ^^^ b)) (2 ^ c.co.length - 1)
def rem (c:ZG):LI:=setK (Qqr c) 8
def mdE (c:ZG)(m:UU):Int:=if Zm c≠0 then Zm c else if m.kd<1\/3<m.kd then 11 else if m.ix<0\/((srK c m.kd).length:Int)<=m.ix then 10 else if m.co=setK ((srK c m.kd).getD m.ix.toNat 0) 8 then 0 else 13
structure Prt where
 co:LI
 rq:LI
 ex:LI
 cs:LI
def chs (l:List XG)(ix:LI):List XG:=ix.map λi=>l.getD i.toNat ⟨.empty,⟨[],0,[],[]⟩⟩
def ixP (co:LI)(ls:xt):xt:=ls.map λl=>((co.idxOf l.1:Int),l.2)
def mis (co:LI)(ls:xt):Bool:=ls.any λl=>decide (l.1∉co)
def QkQ (c:ZG)(p:Prt):List qz:=p.ex.map λi=>⟨(c.ex.getD i.toNat ⟨.empty,[]⟩).nm,ixP p.co (c.ex.getD i.toNat ⟨.empty,[]⟩).ls⟩
def QkS (c:ZG)(p:Prt):List xI:=p.cs.map λi=>⟨(c.cs.getD i.toNat ⟨.empty,[],0⟩).nm,ixP p.co (c.cs.getD i.toNat ⟨.empty,[],0⟩).ts,(c.cs.getD i.toNat ⟨.empty,[],0⟩).bd⟩
def QfJ (c:ZG)(p:Prt):ZG:=⟨c.ev,chs c.co p.co,chs c.rq p.rq,QkQ c p,QkS c p⟩
def Qpb (c:ZG)(p:Prt):Bool:=(p.ex.any λi=>mis p.co (c.ex.getD i.toNat ⟨.empty,[]⟩).ls) || (p.cs.any λi=>mis p.co (c.cs.getD i.toNat ⟨.empty,[],0⟩).ts)
def Qaf (c:ZG)(p:Prt):Int :=
 if Zm c≠0 then Zm c else if Kf c.co.length none p.co≠0 then Kf c.co.length none p.co else if Kf c.rq.length none p.rq≠0 then Kf c.rq.length none p.rq else
 if Kf c.ex.length none p.ex≠0 then Kf c.ex.length none p.ex else if Kf c.cs.length none p.cs≠0 then Kf c.cs.length none p.cs else if Qpb c p=true then 13 else Zm (QfJ c p)
def prt (m:UU):Prt:=⟨m.co,if m.kd=1 then[m.ix]else[],if m.kd=2 then[m.ix]else[],if m.kd≠1/\m.kd≠2 then[m.ix]else[]⟩
def zi (c:ZG)(m:UU):Int:=if mdE c m≠0 then mdE c m else Qaf c (prt m)
def X8 (c:ZG)(m:UU):ZG:=QfJ c (prt m)
def msA (c:ZG)(m:UU):Zd:=suA (X8 c m)
def Qqn (c:ZG):List Zd:=(O7 c).map (msA c)++(rem c).map λi=>(c.co.getD i.toNat ⟨.empty,⟨[],0,[],[]⟩⟩).a
def Qbf (l:List Zd):Int:=if UT l≠0 then UT l else match xh l with|none=>3|some _=>0
def tgA (c:ZG):Zd:=syA (Qqn c)
section
variable (k:α->Int)
def Qdt (x:α):List α->List α
 | []=>[x]
 | y::l=>if k x<=k y then x::y::l else y::Qdt x l
def isrt (l:List α):List α:=l.foldr (Qdt k) []
theorem qg (x:α):∀l,(Qdt k x l).Perm (x::l)
 | []=>.refl _
 | y::l=>by
  rw[Qdt];split
  ·exact .refl _
  exact((qg x l).cons y).D (.swap _ _ _)
theorem qd:∀l,(isrt k l).Perm l
 | []=>.refl _
 | x::l=>(qg k x _).D ((qd l).cons x)
theorem jz (x:α):∀{l:List α},l.Pairwise (λa b=>k a<=k b)->(Qdt k x l).Pairwise (λa b=>k a<=k b)
 | [],_=>by rw[Qdt];simp
 | y::l,h=>by
  rw[Qdt];obtain⟨H,I⟩:=L3.1 h;split
  ·rename_i G;refine L3.2 ⟨λz E=>?_,h⟩;rcases Li.1 E with rfl|E
   ·exact G
   exact Int.le_trans G (H z E)
  rename_i G;refine L3.2 ⟨λz E=>?_,jz x I⟩;rcases Li.1 ((qg k x l).mem_iff.1 E)with rfl|E
  ·omega
  exact H z E
theorem jx:∀l:List α,(isrt k l).Pairwise (λa b=>k a<=k b)
 | []=>.nil
 | x::l=>jz k x (jx l)
theorem Qec:∀{l m:List α},l.Perm m->l.Pairwise (λa b=>k a<=k b)->m.Pairwise (λa b=>k a<=k b)->(l.map k).Nodup->l=m
 | [],m,E,_,_,_=>(List.Perm.nil_eq E)
 | x::l,[],E,_,_,_=>by have:=E.length_eq;simp at this
 | x::l,y::m,E,hl,H,I=>by
  obtain⟨J,l2⟩:=L3.1 hl;obtain⟨m1,O⟩:=L3.1 H;have S:(k x::l.map k).Nodup:=I;obtain⟨n1,T⟩:=Nw.1 S;have e:x=y:=by
   have hx:x∈y::m:=E.mem_iff.1 Lt;have V:y∈x::l:=E.mem_iff.2 Lt;rcases Li.1 hx with h|h
   ·exact h
   rcases Li.1 V with G|G
   ·exact G.symm
   exact OU (LD.2 ⟨y,G,Int.le_antisymm (m1 x h) (J y G)⟩) n1
  subst e;rw[Qec ((List.perm_cons x).1 E) l2 O T]
theorem QlD {l m:List α}(E:m.Perm l)(G:m.Pairwise (λa b=>k a<=k b))(H:(l.map k).Nodup):m=isrt k l :=
 Qec k (E.D (qd k l).symm) G (jx k l) ((E.map _).nodup_iff.2 H)
end
structure Ys where
 kd:Int
 nm:ByteArray
 a:Zd
 ls:List (ByteArray×Int)
 ts:List (ByteArray×Int)
 bd:Int
abbrev Uf:Zd:=⟨[],0,[],[]⟩
abbrev UL:ZG:=⟨[],[],[],[],[]⟩
def V1 (k:Int)(n:ByteArray)(x:Ys):Bool:=decide (x.kd=k) && decide (x.nm=n)
def Yr (l:List Ys)(k:Int)(n:ByteArray):Nat:=l.findIdx (V1 k n)
def KB (l:List Ys)(k:Int)(n:ByteArray):Bool:=decide (Yr l k n<l.length)
def jY (a:Zd):Bool:=decide (a.st=0) && decide ((a.al.length:Int)+(a.mr.length:Int)+(a.ed.length:Int)=0)
def QbC (x:Ys):Bool:=if x.kd=3 then jY x.a && decide ((x.ts.length:Int)=0) && decide (x.bd=0)else if x.kd=4 then jY x.a && decide ((x.ls.length:Int)=0)else decide ((x.ls.length:Int)+(x.ts.length:Int)=0) && decide (x.bd=0)
def dk1 (l:List Ys)(i:Nat)(x:Ys):Int :=
 if x.kd<1\/4<x.kd then 11 else if YX x.nm=false then 7 else if KB (l.take i) x.kd x.nm=true then 8 else if 0<i/\x.kd<(l.getD (i - 1) ⟨0,.empty,Uf,[],[],0⟩).kd then 5 else if QbC x=false then 6 else 0
def dkL (l:List Ys):Nat->List Ys->Int
 | _,[]=>0
 | i,x::r=>if dk1 l i x≠0 then dk1 l i x else dkL l (i+1) r
def Ko (l:List Ys):Int:=if 76<l.length then 3 else dkL l 0 l
def yJ (co:List XG)(i:Int):Option ByteArray:=if i<0\/(co.length:Int)<=i then none else some (co.getD i.toNat ⟨.empty,Uf⟩).nm
def UH (co:List XG):xt->Option (List (ByteArray×Int))
 | []=>some []
 | y::l=>match yJ co y.1 with
  | none=>none
  | some n=>(UH co l).map ((n,y.2)::·)
def KQ (co:List XG):List qz->Option (List Ys)
 | []=>some []
 | x::l=>match UH co x.ls with
  | none=>none
  | some r=>(KQ co l).map (⟨3,x.nm,Uf,r,[],0⟩::·)
def Vf (co:List XG):List xI->Option (List Ys)
 | []=>some []
 | x::l=>match UH co x.ts with
  | none=>none
  | some r=>(Vf co l).map (⟨4,x.nm,Uf,[],r,x.bd⟩::·)
def KA (k:Int)(x:XG):Ys:=⟨k,x.nm,x.a,[],[],0⟩
def Qe2 (c:ZG):Option (List Ys):=match KQ c.co c.ex,Vf c.co c.cs with
 | some a,some b=>some (c.co.map (KA 1)++(c.rq.map (KA 2)++(a++b)))
 | _,_=>none
def YK (c:ZG):Int×List Ys:=match Qe2 c with
 | none=>(2,[])
 | some l=>if Ko l≠0 then(Ko l,[])else(0,l)
def Yp (l:List Ys):List (ByteArray×Int)->LI->List (Int×Int)->Int×xt
 | [],_,o=>(0,isrt (·.1) o)
 | y::r,tk,o=>if KB l 1 y.1=false then(9,[])else if(Yr l 1 y.1:Int)∈tk then(8,[])else Yp l r (tk++[(Yr l 1 y.1:Int)]) (o++[((Yr l 1 y.1:Int),y.2)])
def Ke (all:List Ys)(x:Ys)(c:ZG):Int×ZG :=
 if x.kd=1 then(0,{ c with co:=c.co++[⟨x.nm,x.a⟩] })else if x.kd=2 then(0,{ c with rq:=c.rq++[⟨x.nm,x.a⟩] })else
 if x.kd=3 then(if(Yp all x.ls [] []).1≠0 then((Yp all x.ls [] []).1,UL)else(0,{ c with ex:=c.ex++[⟨x.nm,(Yp all x.ls [] []).2⟩] }))else
 if x.kd=4 then(if(Yp all x.ts [] []).1≠0 then((Yp all x.ts [] []).1,UL)else(0,{ c with cs:=c.cs++[⟨x.nm,(Yp all x.ts [] []).2,x.bd⟩] }))else(0,c)
def Qgx (all:List Ys):List Ys->ZG->Int×ZG
 | [],c=>(0,c)
 | x::l,c=>if(Ke all x c).1≠0 then((Ke all x c).1,UL)else Qgx all l (Ke all x c).2
def VF (ev:List JY)(l:List Ys):Int×ZG:=if Ko l≠0 then(Ko l,UL)else Qgx l l ⟨ev,[],[],[],[]⟩
def qQ (l:List Ys)(x:Ys):Int×List Ys :=
 if Ko l≠0 then(Ko l,[])else if Ko [x]≠0 then(Ko [x],[])else if KB l x.kd x.nm=true then(0,l.set (Yr l x.kd x.nm) x)else if l.length=76 then(3,[])else
 (0,l.take (l.findIdx λy=>decide (x.kd<y.kd))++x::l.drop (l.findIdx λy=>decide (x.kd<y.kd)))
def qR (l:List Ys)(k:Int)(n:ByteArray):Int×List Ys :=
 if Ko l≠0 then(Ko l,[])else if KB l k n=false then(10,[])else(0,l.take (Yr l k n)++l.drop (Yr l k n+1))
def yN (l:List Ys)(e:Bool×Ys):Int×List Ys:=if e.1=true then qR l e.2.kd e.2.nm else qQ l e.2
def QaR:List (Bool×Ys)->List Ys->Int×List Ys
 | [],l=>(0,l)
 | e::r,l=>if(yN l e).1≠0 then((yN l e).1,[])else QaR r (yN l e).2
def yM (l:List Ys)(es:List (Bool×Ys)):Int×List Ys:=if Ko l≠0 then(Ko l,[])else QaR es l
section
variable {p s:Zd}{pn xn v:Int}
end
def UV (lo hi:Nat)(ds:LN)(W:OZ):Prop:=ds.Nodup/\∀D∈ds,lo<=D/\D<hi/\W.heap[D]?=some (.deferred (some []))
theorem UV.J {W:OZ}(h:UV lo hi ds W)(H:O3 X W W')(I:∀b∈X,∃o:Obj,W.heap[b]?=some o/\o.isCells=true):UV lo hi ds W':=by
 refine⟨h.1,λD hD=>⟨(h.2 D hD).1,(h.2 D hD).2.1,?_⟩⟩;have E:=(h.2 D hD).2.2;refine(H.block D (LH.1 E).1 (λhx=>?_)).D E;obtain⟨o,G,J⟩:=I D hx;rw[E]at G;cases G;cases J
theorem UV.I {W:OZ}(h:UV lo hi ds W)(E:O3 [] W W'):UV lo hi ds W':=h.J E (λ_ G=>by cases G)
theorem UV.blk {W:OZ}(h:UV lo hi ds W)(E:O3 [b] W W')(G:Q7 W.heap b T cs):UV lo hi ds W' :=
 h.J E (λc H=>by
  have e:c=b:=by simpa using H
  subst e;exact G.cells)
theorem UV.up {W:OZ}(h:UV lo hi ds W)(G:hi<=E):UV lo E ds W:=⟨h.1,λD hD=>⟨(h.2 D hD).1,ou (h.2 D hD).2.1,(h.2 D hD).2.2⟩⟩
theorem UV.cons {W:OZ}{D:Nat}(h:UV lo hi ds W)(hl:lo<=hi)(hD:hi<=D)(hd:W.heap[D]?=some (.deferred (some []))):UV lo W.heap.size (D::ds) W:=by
 have G:=(LH.1 hd).1;refine⟨Nw.2 ⟨λH=>ou (h.2 D H).2.1,h.1⟩,λE hE=>?_⟩;rcases Li.1 hE with rfl|hE
 ·exact⟨oa,G,hd⟩
 have:=h.2 E hE;exact⟨this.1,(LH.1 this.2.2).1,this.2.2⟩
theorem UV.stb (I:hi<=B):Yt B (λW=>UV lo hi ds W):=λW W' X h G H=>by
 refine⟨h.1,λD hD=>⟨(h.2 D hD).1,(h.2 D hD).2.1,?_⟩⟩;have E:=(h.2 D hD).2.2;refine(G.block D (LH.1 E).1 (λhx=>?_)).D E;have:=(H D hx).1;have:=(h.2 D hD).2.1;omega
open Go.RowKit
def sl (d:xC)(f:Fr):O0:=match d with|some d=>f d|none=>undef
def ow:O0->LN
 | .slice (some a) _ _=>[a.block]
 | .pointer (some a)=>[a.block]
 | .map (some b)=>[b]
 | _=>[]
def Fa (p:Nat->Prop):LN->Prop
 | []=>True
 | i::l=>p i/\Fa p l
theorem Fa.all {p:Nat->Prop}:∀{l:LN},Fa p l->∀i∈l,p i
 | [],_,_,hi=>by cases hi
 | j::l,h,i,hi=>by
  rcases Li.1 hi with rfl|hi
  ·exact h.1
  exact Fa.all h.2 i hi
theorem Fa.of {p:Nat->Prop}:∀{l:LN},(∀i∈l,p i)->Fa p l
 | [],_=>trivial
 | i::_,h=>⟨h i Lt,Fa.of λj E=>h j (Lk _ E)⟩
def zL (all:Array Oper)(opn:LN)(rest:xp):Nat->Array Bool->Bool
 | 0,ls=>Y9 all rest ls && opn.all λi=>ls.getD i false
 | k+1,ls=>!(Region.ready .any all ls).isEmpty && (Region.ready .any all ls).all λi=>opn.contains i && zL all opn rest k (ls.setIfInBounds i true)
def QbI (all:xA)(D:xq):LN->Bool
 | []=>true
 | i::l=>(QV all i).guard.isNone && (match (QV all i).dst with|some d=>Xd D d && l.all (λj=>!((QV all j).dst == some d))|none=>false) && !l.contains i && QbI all D l
theorem Ku {all:xA}{D:xq}:∀{l:LN},QbI all D l=true->(∀i∈l,(QV all i).guard=none/\∃d,(QV all i).dst=some d/\Xd D d=true)/\∀i∈l,∀j∈l,i≠j->(QV all i).dst≠(QV all j).dst
 | [],_=>⟨λ_ h=>(by cases h),λ_ h=>(by cases h)⟩
 | i::l,h=>by
  simp only[QbI,oL,Option.isNone_iff_eq_none]at h;obtain⟨⟨⟨O,hd⟩,S⟩,hl⟩:=h;have ih:=Ku hl;cases G:(QV all i).dst with
  | none=>rw[G]at hd;cases hd
  | some d =>
   rw[G]at hd;simp only[oL,Ol,Oi,beq_eq_false_iff_ne,ne_eq]at hd;have H:∀j∈l,(QV all j).dst≠some d:=λj E=>hd.2 j E;refine⟨λj E=>?_,λj E k I J=>?_⟩
   ·rcases Li.1 E with rfl|E
    ·exact⟨O,d,G,hd.1⟩
    exact ih.1 j E
   rcases Li.1 E with hj1|hj1
   ·rcases Li.1 I with hk1|hk1
    ·exact OU (hj1.D hk1.symm) J
    rw[hj1,G];exact λe=>H k hk1 e.symm
   rcases Li.1 I with hk1|hk1
   ·rw[hk1,G];exact H j hj1
   exact ih.2 j hj1 k hk1 J
def QpK (all:xA)(pre:xp)(opn:LN)(rest:xp)(D:xq):Bool :=
 Region.noSelect all.toArray && (pre.length+(opn.length+rest.length) == all.length) && Kq all.toArray pre (oW all.length false) && QbI all D opn && zL all.toArray opn rest opn.length (Z0 pre (oW all.length false))
  && opn.all λi=>!((Z0 pre (oW all.length false)).getD i false)
section
variable {all:xA}{C:xw}
theorem JC {o:Oper}(h:o.guard=none):Z4 all f o=true:=by unfold Z4;rw[h]
theorem Qfw {α:Type}{D:xq}{opn:LN}{rest:xp}{Φ:Nat->O0->OZ->Prop}{S:α->List (Nat×O0)}{I:α->OZ->Prop}{f1:Fr}(hs:Region.noSelect all.toArray=true)(hc:QbI all D opn=true)
  (hn:∀w w',C w->O3 [] w w'->C w') (stab:∀i v w w',Φ i v w->O3 [] w w'->Φ i v w')
  (hq:∀(g:Fr) w,Fa (λi=>Φ i (sl (QV all i).dst g) w) opn->(∀i∈opn,∀j∈opn,i≠j->∀b∈ow (sl (QV all i).dst g),b∉ow (sl (QV all j).dst g))->∃z,Xr g (S z)/\I z w)
  (spec:Fa (λi=>∀g w,C w->XO P (QV all i) (mix D f1 g) w (λf' w'=>O3 [] w w'/\Φ i (sl (QV all i).dst f') w'/\∀b∈ow (sl (QV all i).dst f'),w.heap.size<=b/\b<w'.heap.size)) opn)
  (fin:∀z g w,C w->I z w->XP P all C K rest (qK (S z) (mix D f1 g)) w):
  ∀(k:Nat) (ls:Array Bool) (f:Fr) (w:OZ),ls.size=all.length->C w->zL all.toArray opn rest k ls=true->(∀t,Xd D t=false->f t=f1 t)->(∀i∈opn,ls.getD i false=true->Φ i (sl (QV all i).dst f) w) ->
   (∀i∈opn,ls.getD i false=true->(∀b∈ow (sl (QV all i).dst f),b<w.heap.size)/\∀j∈opn,ls.getD j false=true->i≠j->∀b∈ow (sl (QV all i).dst f),b∉ow (sl (QV all j).dst f))->XA P all C K (k+rest.length) ls f w
 | 0,ls,f,w,hh,hC,H,hf,hl,O=>by
  simp only[zL,oL,Ol]at H;obtain⟨z,h1,h2⟩:=hq f w (Fa.of λi hi=>hl i hi (H.2 i hi)) (λi hi j G E=>(O i hi (H.2 i hi)).2 j G (H.2 j G) E);have h3:=fin z f w hC h2;rw[X7 hf,Y3 h1]at h3;rw[LX];exact ZN hs rest ls f w hh (.inl hC) H.1 h3
 | k+1,ls,f,w,hh,hC,H,hf,hl,O=>by
  simp only[zL,oL,Ol,List.contains_iff_mem]at H;obtain⟨he,H⟩:=H;rw[Nat.add_right_comm];refine XC (λh0=>(by rw[h0]at he;cases he)) ?_;intro i hi o ho;obtain⟨hm,hy⟩:=H i hi;obtain⟨hg,d,hd,h4⟩:=(Ku hc).1 i hm;have h5:=(Ku hc).2;have hsp:=Fa.all spec i hm f w hC;rw[X7 hf]at hsp;have T:=Zq ho;rw[T]at hg hd hsp;rw[JC hg,cond_true];refine hsp.mono λv w' hx=>?_;have hr:=hn w w' hC hx.1;have hz:=hx.1.size;have old:∀j∈opn,j≠i->sl (QV all j).dst (QY f o.dst v)=sl (QV all j).dst f:=λj G E=>by
   obtain⟨_,dj,hu,_⟩:=(Ku hc).1 j G;have he:o.dst≠some dj:=λe=>h5 j G i hm E (by rw[hu,T];exact e.symm);rw[hu];exact Y4 he v
  have lsj:∀j,j≠i->(ls.setIfInBounds i true).getD j false=true->ls.getD j false=true:=λj E h=>by rw[getD_set_ne false (Ne.symm E)]at h;exact h
  refine⟨.inr (.inr hr),Qfw hs hc hn stab hq spec fin k _ _ _ (oz hh) hr hy (λt ht=>?_) (λj G ha=>?_) (λj G ha=>⟨λb J=>?_,λk hk hv hw b J V=>?_⟩)⟩
  ·rw[Y4 (by rw[hd];intro e;cases e;rw[h4]at ht;cases ht)];exact hf t ht
  ·by_cases E:j=i
   ·subst E;have h2:=hx.2.1;rw[T];exact h2
   rw[old j G E];exact stab _ _ _ _ (hl j G (lsj j E ha)) hx.1
  ·by_cases E:j=i
   ·subst E;rw[T]at J;exact(hx.2.2 b J).2
   rw[old j G E]at J;have:=(O j G (lsj j E ha)).1 b J;omega
  by_cases E:j=i
  ·subst E;have Y:k≠j:=Ne.symm hw;rw[old k hk Y]at V;rw[T]at J;have h1:=(O k hk (lsj k Y hv)).1 b V;have h2:=(hx.2.2 b J).1;omega
  rw[old j G E]at J;have h1:=(O j G (lsj j E ha)).1 b J;by_cases Y:k=i
  ·subst Y;rw[T]at V;have h2:=(hx.2.2 b V).1;omega
  rw[old k hk Y]at V;exact(O j G (lsj j E ha)).2 k hk (lsj k Y hv) hw b J V
theorem Qmt {Q:Exit->Fr->OZ->Prop}(C:xw)(pre:xp)(opn:LN)(rest:xp)(D:xq)(Φ:Nat->O0->OZ->Prop)(S:α->List (Nat×O0))(I:α->OZ->Prop)
  (hm:P.follows .mixedOrders=true) (hn:X4 n all=true) (G:QpK all pre opn rest D=true) (H:C { w with drawn:=w.drawn+1 }) (ha:∀w w',C w->O3 [] w w'->C w') (stab:∀i v w w',Φ i v w->O3 [] w w'->Φ i v w')
  (hb:∀(g:Fr) w,Fa (λi=>Φ i (sl (QV all i).dst g) w) opn->(∀i∈opn,∀j∈opn,i≠j->∀b∈ow (sl (QV all i).dst g),b∉ow (sl (QV all j).dst g))->∃z,Xr g (S z)/\I z w)
  (h:XP P all C (λf1 _=>Fa (λi=>∀g w,C w->XO P (QV all i) (mix D f1 g) w (λJ w'=>O3 [] w w'/\Φ i (sl (QV all i).dst J) w'/\∀b∈ow (sl (QV all i).dst J),w.heap.size<=b/\b<w'.heap.size)) opn /\
   ∀z g w,C w->I z w->XP P all C (λf w=>Q .normal f w) rest (qK (S z) (mix D f1 g)) w) pre f { w with drawn:=w.drawn+1 }):W P n (.region id all.toArray true) Q f w:=by
 simp only[QpK,oL,beq_iff_eq,Ol,Oi]at G;obtain⟨⟨⟨⟨⟨O,hl⟩,hq⟩,hc⟩,he⟩,T⟩:=G;refine JG C hm hn ?_;rw[<-hl];have hf:(oW all.length false).size=all.length:=oe
 have V:=YC (K:=λf w=>Q .normal f w) (m:=opn.length+rest.length) O pre (oW all.length false) f _ H hq (λf1 Y=>Qfw (P:=P) (C:=C) O hc ha stab hb Y.1 Y.2 opn.length (Z0 pre (oW all.length false)) f1 _ (by rw[YG];exact hf) H he (λ_ _=>U) (λi hi E=>by rw[T i hi]at E;cases E) (λi hi E=>by rw[T i hi]at E;cases E)) h;rw[hl]at V ⊢;exact V
end
def X2 (k:Nat):LI:=(oT k).map λi:Nat=>(i:Int)
theorem zP (k:Nat):(X2 k).length=k:=by simp[X2]
theorem jq (k:Nat):X2 (k+1)=X2 k++[(k:Int)]:=by unfold X2;rw[Nv,Lp];rfl
theorem QbL (k:Nat)(x:Int):x∈X2 k↔0<=x/\x<(k:Int):=by
 unfold X2;simp only[OA,List.mem_range];constructor
 ·rintro⟨i,hi,rfl⟩;omega
 intro h;exact⟨x.toNat,oa,oa⟩
theorem Qie (k:Nat):Y1 (X2 k):=by
 induction k with
 | zero=>exact List.Pairwise.nil
 | succ k ih =>
  rw[jq];refine MI.2 ⟨ih,NC _ _,λx hx y E=>?_⟩;have:=(QbL k x).1 hx;simp at E;omega
theorem Qom (lf:Lf)(x:Int)(z:LI×LI)(y:Int):dsE lf x z y=if lft lf y=true then bwE x z y else z:=by
 unfold dsE bwE;by_cases h:lft lf y=true <;> by_cases E:O4 z.1 y.toNat<0 <;> simp[h,E]
structure DsI (n:Nat)(z:LI×LI):Prop where
 ok:Qkh n z.1 z.2
 cnt:neg z.1+z.2.length=n
 s0:QoL z.1 z.2
theorem DsI.le {z:LI×LI}(h:DsI n z):z.2.length<=n:=by have:=h.cnt;omega
theorem Qji {lf:Lf}{x y:Int}{z:LI×LI}(h:DsI n z)(hx:0<=x/\x<(n:Int))(E:0<=O4 z.1 x.toNat)(G:0<=y/\y<(n:Int)):
  DsI n (dsE lf x z y)/\0<=O4 (dsE lf x z y).1 x.toNat:=by
 rw[Qom];split
 ·obtain⟨H,J,I⟩:=QoD h.ok hx E G;exact⟨⟨H,ou h.cnt,QjN h.ok E G h.s0⟩,I⟩
 exact⟨h,E⟩
theorem QlZ (lf:Lf)(x:Int)(z:LI×LI)(y:Int):∃r,(dsE lf x z y).2=z.2++r:=by
 unfold dsE;split
 ·exact⟨[y],U⟩
 exact⟨[],oe⟩
theorem QlY {n:Nat}{lf:Lf}{x:Int}(hx:0<=x/\x<(n:Int)):∀(l:LI) (z:LI×LI),DsI n z->0<=O4 z.1 x.toNat->(∀y∈l,0<=y/\y<(n:Int)) ->
  DsI n (l.foldl (dsE lf x) z)/\∃r,(l.foldl (dsE lf x) z).2=z.2++r
 | [],z,h,_,_=>⟨h,[],oe⟩
 | y::l,z,h,E,hl=>by
  obtain⟨G,H⟩:=Qji (lf:=lf) h hx E (hl y Lt);obtain⟨I,r2,J⟩:=QlY hx l _ G H (λy O=>hl y (Lk _ O));obtain⟨S,T⟩:=QlZ lf x z y;exact⟨I,S++r2,by rw[L4,J,T,LB]⟩
theorem Qjh {lf:Lf}{f:Nat}{z:LI×LI}(h:¬i<z.2.length):dsL es lf f i z=z:=by
 cases f with
 | zero=>rfl
 | succ f=>rw[dsL,OR h]
theorem Qfl {x:Int}(E:0<=x):(qS n l).set x.toNat 0=qS n (l++[x]):=by
 apply Mt
 ·simp[qS]
 intro i G H;rw[M6];by_cases e:x.toNat=i
 ·have:(i:Int)=x:=oa
  rw[OS e];simp[qS,this]
 have:(i:Int)≠x:=oa
 rw[OR e];simp[qS,this]
theorem Qcd {lf:Lf}(G:∀x∈a.mr,0<=x)(k:Nat):(a.mr.take k).foldl (ds1 lf) (oN a.st.toNat (-1),[])=(qS a.st.toNat ((a.mr.take k).filter (lft lf)),(a.mr.take k).filter (lft lf)):=by
 induction k with
 | zero =>
  simp only[List.take_zero,List.foldl_nil,List.filter_nil];congr 1;apply Mt
  ·simp[qS]
  intro i H I;simp[qS]
 | succ k ih =>
  by_cases E:k<a.mr.length
  ·rw[Ll E,Mz,ih,LZ];simp only[List.foldl_cons,List.foldl_nil,ds1];by_cases hl:lft lf (a.mr[k]'E)=true
   ·rw[OS hl,Qfl (G _ (Lm E))];simp[hl]
   rw[OR hl];simp[hl]
  have e:a.mr.take (k+1)=a.mr.take k:=by rw[Ls oa,Ls oa]
  rw[e];exact ih
theorem Qoo {lf:Lf}(E:∀x∈a.mr,0<=x):ds0 a lf=(qS a.st.toNat (a.mr.filter (lft lf)),a.mr.filter (lft lf)):=by
 have:=Qcd (lf:=lf) E a.mr.length;rw[MZ]at this;exact this
theorem Qlf (l:LI)(G:l.Nodup)(H:∀x∈l,0<=x/\x<(n:Int)):neg (qS n l)+l.length=n:=by
 have key:∀k,k<=l.length->neg (qS n (l.take k))+k=n:=by
  intro k;induction k with
  | zero =>
   intro _;have e:qS n (l.take 0)=oN n (-1):=by
    apply Mt
    ·simp[qS]
    intro i I V;simp[qS]
   rw[e];unfold neg;simp
  | succ k ih =>
   intro Y;have I:=ih oa;have hx:=H _ (Lm (show k<l.length by omega));rw[Ll (show k<l.length by omega),<-Qfl hx.1];have J:(l[k]'oa).toNat<(qS n (l.take k)).length:=by rw[UN];omega
   have ha:=Ut (qS n (l.take k)) (l[k]'oa).toNat 0 J (by
    have e:(((l[k]'oa).toNat:Nat):Int)=l[k]'oa:=oa
    have O:(l[k]'oa)∉l.take k:=λh=>by
     obtain⟨j,S,E⟩:=LO h;rw[Nd]at E;have T:j<k:=by simp at S;omega
     have:=(MK.1 G) j k oa oa T;exact this E
    simp[qS,e,O]) (NG _)
   omega
 have:=key l.length (Lx _)
 rwa [MZ]at this
theorem Qon {lf:Lf}(E:ZJ a)(H:a.st=(n:Int)):DsI n (ds0 a lf):=by
 have G:∀x∈a.mr.filter (lft lf),0<=x/\x<(n:Int):=λx hx=>by rw[<-H];exact E.mr x (L9.1 hx).1
 have e:a.st.toNat=n:=oa
 rw[Qoo (λx hx=>(E.mr x hx).1),e];refine⟨QoE G,Qlf _ ((E.mri.imp (λh=>oa)).filter _) G,λx hx=>?_⟩;rw[Qmn (G x hx) hx];exact NG _
def V2 (l:Lf):Nat:=l.countP (· == true)
theorem Qmd (l:Lf):V2 l<=l.length:=List.countP_le_length
theorem Qe6 (l:Lf)(s:Int):(cut l s).length=l.length:=by simp[cut]
theorem yk:∀(xs:LI) (l:Lf),(xs.foldl cut l).length=l.length
 | [],_=>rfl
 | x::xs,l=>by rw[L4,yk xs,Qe6]
theorem Qe8:∀(l:Lf) (i:Nat),V2 (l.set i false)+(if l.getD i false=true then 1 else 0)=V2 l
 | [],i=>by simp[V2]
 | b::l,0=>by cases b <;> simp[V2]
 | b::l,i+1=>by
  have ih:=Qe8 l i;unfold V2 at *;simp only[List.set_cons_succ,List.countP_cons,List.getD_cons_succ];omega
theorem Qe9 (l:Lf)(s:Int):V2 (cut l s)+(if lft l s=true then 1 else 0)=V2 l:=Qe8 l s.toNat
theorem Qcj:∀(xs:LI) (l:Lf),V2 (xs.foldl cut l)<=V2 l
 | [],_=>Lx _
 | x::xs,l=>by
  have E:=Qcj xs (cut l x);have G:=Qe9 l x;rw[L4];omega
theorem Qjr {xs:LI}{l:Lf}(h:0<xs.length)(E:∀x∈xs,lft l x=true):V2 (xs.foldl cut l)<V2 l:=by
 cases xs with
 | nil=>simp at h
 | cons x xs =>
  have H:=Qcj xs (cut l x);have G:=Qe9 l x;rw[OS (E x Lt)]at G;rw[L4];omega
def Qj9 (a:Zd)(lf:Lf)(out:xt):Prop:=∀p∈out,lft lf p.1=true/\∃e∈a.ed,e.1=p.1/\e.2.1=p.2
theorem Qll {lf:Lf}{out:xt}{e:Ed}(h:Qj9 a lf out)(G:e∈a.ed):Qj9 a lf (K8 ul lf out e)/\(K8 ul lf out e).length<=out.length+1:=by
 unfold K8;split
 ·exact⟨h,oa⟩
 rename_i H;split
 ·exact⟨h,oa⟩
 refine⟨λp E=>?_,oe⟩;simp only[oU,oI]at E;rcases E with E|rfl
 ·exact h p E
 exact⟨by cases hl:lft lf e.1 with|true=>rfl|false=>exact OU (.inl hl) H,e,G,rfl,rfl⟩
theorem zU {a:Zd}{ul:LI}{lf:Lf}:∀(l:List Ed) (out:xt),(∀e∈l,e∈a.ed)->Qj9 a lf out->Qj9 a lf (l.foldl (K8 ul lf) out)/\(l.foldl (K8 ul lf) out).length<=out.length+l.length
 | [],out,_,h=>⟨h,oe⟩
 | e::l,out,hl,h=>by
  obtain⟨E,I⟩:=Qll (ul:=ul) h (hl e Lt);obtain⟨G,J⟩:=zU l _ (λe H=>hl e (Lk _ H)) E;exact⟨G,by rw[L4,LQ];omega⟩
theorem Qaz (a:Zd)(ul:LI)(lf:Lf):Qj9 a lf (lost a ul lf)/\(lost a ul lf).length<=a.ed.length:=by
 have:=zU (ul:=ul) (lf:=lf) a.ed [] (λ_ h=>h) (λp E=>by cases E);unfold lost;simpa using this
theorem UO (lf:Lf):∀(l:LI) (i:Nat),(∀x∈VG lf i l,lft lf x=true/\(i:Int)<=x/\x<(i:Int)+l.length)/\(VG lf i l).length<=l.length
 | [],i=>⟨λx hx=>(by cases hx),Lx _⟩
 | d::l,i=>by
  obtain⟨E,H⟩:=UO lf l (i+1);unfold VG;split
  ·rename_i G;refine⟨λx hx=>?_,by simp;omega⟩;rcases Li.1 hx with rfl|hx
   ·exact⟨by unfold lft;simpa using G.1,NG _,by simp;omega⟩
   have:=E x hx;exact⟨this.1,oa,by simp only[oV];omega⟩
  refine⟨λx hx=>?_,by simp;omega⟩;have:=E x hx;exact⟨this.1,oa,by simp only[oV];omega⟩
theorem Qh8 {lf:Lf}(x:Int)(hx:x∈nxs a ul lf):lft lf x=true:=by
 unfold nxs at hx;split at hx
 ·obtain⟨p,E,rfl⟩:=LD.1 hx;exact((Qaz a ul lf).1 p E).1
 exact((UO lf (dsts a lf) 0).1 x hx).1
theorem QfP {f:Nat}{lf:Lf}(h:(nxs a ul lf).length=0):zF a ul f lf=lf:=by
 cases f with
 | zero=>rfl
 | succ f=>rw[zF,OS h]
theorem QfO {f:Nat}{lf:Lf}(h:(nxs a ul lf).length≠0):zF a ul (f+1) lf=zF a ul f ((nxs a ul lf).foldl cut lf):=by rw[zF,OR h]
theorem Qh9 {lf:Lf}(h:(nxs a ul lf).length≠0):V2 ((nxs a ul lf).foldl cut lf)<V2 lf:=Qjr oa (λx hx=>Qh8 x hx)
theorem QfK (h:ZJ a)(lf:Lf):ZJ (rstr a lf):=
 ⟨h.al,h.ali,h.st0,h.st1,h.mr,h.mri,λe E=>h.ed e (L9.1 E).1,h.edi.filter _⟩
def pst (v:Int)(a:Zd)(x:Int):Option Int:=if v∈a.al then xg a.ed x v else some x
def nx (v:Int)(A:Nat->Zd)(x:Nat->Int)(i:Nat):Int:=(pst v (A i) (x i)).getD 0
abbrev QI (p:Int×Int):LV:=[oF oG p.1,oF oG p.2]
theorem Yv (p:Int×Int):(QI p).length=2:=rfl
abbrev yT (L:LN)(H:xx)(v:O0)(l:xt):Prop:=Zv L H v l.length 2 (l.flatMap QI)
abbrev Zu (e:JY):LV:=[.string e.nm,.bool e.co,.bool e.ob,.bool e.fo,oF oG e.fl]
theorem UE (e:JY):(Zu e).length=5:=rfl
abbrev J6 (s:ByteArray):Prop:=s.size<=9223372036854775807
structure VI (L:LN)(H:xx)(v:O0)(l:List JY):Prop where
 arr:Zv L H v l.length 5 (l.flatMap Zu)
 nm:∀e∈l,J6 e.nm
theorem VI.I {L:LN}{w w':OZ}{v:O0}{l:List JY}(h:VI L w.heap v l)(E:O3 [] w w'):VI L w'.heap v l:=⟨h.arr.I E,h.nm⟩
theorem VI.st {L:LN}{w w':OZ}{v:O0}{l:List JY}(h:VI L w.heap v l)(E:O3 L w w'):VI L w'.heap v l:=⟨h.arr.st E,h.nm⟩
theorem VI.up {L L':LN}{H:xx}{v:O0}{l:List JY}(h:VI L H v l)(E:∀b∈L',b∈L\/H.size<=b):VI L' H v l:=⟨h.arr.up E,h.nm⟩
structure IV where
 nm:ByteArray
 p:AV
def IV.it (q:IV):XG:=⟨q.nm,q.p.a⟩
abbrev QO (q:IV):LV:=[.string q.nm,q.p.va,oF oG q.p.a.st,q.p.vm,q.p.ve]
theorem Yj (q:IV):(QO q).length=5:=rfl
structure XD (L:LN)(H:xx)(v:O0)(qs:List IV):Prop where
 arr:Zv L H v qs.length 5 (qs.flatMap QO)
 each:∀q∈qs,ZK L H q.p.va q.p.vm q.p.ve q.p.a
 nm:∀q∈qs,J6 q.nm
structure XV where
 nm:ByteArray
 v:O0
 ls:xt
def XV.x (q:XV):qz:=⟨q.nm,q.ls⟩
abbrev Q6 (q:XV):LV:=[.string q.nm,q.v]
theorem Xi (q:XV):(Q6 q).length=2:=rfl
structure yD (L:LN)(H:xx)(v:O0)(qs:List XV):Prop where
 arr:Zv L H v qs.length 2 (qs.flatMap Q6)
 each:∀q∈qs,yT L H q.v q.ls
 nm:∀q∈qs,J6 q.nm
structure KV where
 nm:ByteArray
 v:O0
 ts:xt
 bd:Int
def KV.k (q:KV):xI:=⟨q.nm,q.ts,q.bd⟩
abbrev Zc (q:KV):LV:=[.string q.nm,q.v,oF oG q.bd]
theorem Xb (q:KV):(Zc q).length=3:=rfl
structure yz (L:LN)(H:xx)(v:O0)(qs:List KV):Prop where
 arr:Zv L H v qs.length 3 (qs.flatMap Zc)
 each:∀q∈qs,yT L H q.v q.ts
 nm:∀q∈qs,J6 q.nm
theorem XD.I {L:LN}{w w':OZ}{v:O0}{qs:List IV}(h:XD L w.heap v qs)(E:O3 [] w w'):XD L w'.heap v qs:=⟨h.arr.I E,λq G=>(h.each q G).I E,h.nm⟩
theorem XD.st {L:LN}{w w':OZ}{v:O0}{qs:List IV}(h:XD L w.heap v qs)(E:O3 L w w'):XD L w'.heap v qs:=⟨h.arr.st E,λq G=>(h.each q G).st E,h.nm⟩
theorem XD.up {L L':LN}{H:xx}{v:O0}{qs:List IV}(h:XD L H v qs)(E:∀b∈L',b∈L\/H.size<=b):XD L' H v qs:=⟨h.arr.up E,λq G=>(h.each q G).up E,h.nm⟩
theorem yD.I {L:LN}{w w':OZ}{v:O0}{qs:List XV}(h:yD L w.heap v qs)(E:O3 [] w w'):yD L w'.heap v qs:=⟨h.arr.I E,λq G=>(h.each q G).I E,h.nm⟩
theorem yD.st {L:LN}{w w':OZ}{v:O0}{qs:List XV}(h:yD L w.heap v qs)(E:O3 L w w'):yD L w'.heap v qs:=⟨h.arr.st E,λq G=>(h.each q G).st E,h.nm⟩
theorem yD.up {L L':LN}{H:xx}{v:O0}{qs:List XV}(h:yD L H v qs)(E:∀b∈L',b∈L\/H.size<=b):yD L' H v qs:=⟨h.arr.up E,λq G=>(h.each q G).up E,h.nm⟩
theorem yz.I {L:LN}{w w':OZ}{v:O0}{qs:List KV}(h:yz L w.heap v qs)(E:O3 [] w w'):yz L w'.heap v qs:=⟨h.arr.I E,λq G=>(h.each q G).I E,h.nm⟩
theorem yz.st {L:LN}{w w':OZ}{v:O0}{qs:List KV}(h:yz L w.heap v qs)(E:O3 L w w'):yz L w'.heap v qs:=⟨h.arr.st E,λq G=>(h.each q G).st E,h.nm⟩
theorem yz.up {L L':LN}{H:xx}{v:O0}{qs:List KV}(h:yz L H v qs)(E:∀b∈L',b∈L\/H.size<=b):yz L' H v qs:=⟨h.arr.up E,λq G=>(h.each q G).up E,h.nm⟩
structure CL where
 ve:O0
 vc:O0
 vr:O0
 vx:O0
 vk:O0
 ev:List JY
 co:List IV
 rq:List IV
 ex:List XV
 cs:List KV
def CL.V (c:CL):ZG:=⟨c.ev,c.co.map (·.it),c.rq.map (·.it),c.ex.map (·.x),c.cs.map (·.k)⟩
abbrev CL.cells (c:CL):LV:=[c.ve,c.vc,c.vr,c.vx,c.vk]
abbrev CL.val (c:CL):O0:=.agg #[c.ve,c.vc,c.vr,c.vx,c.vk]
structure ZF (L:LN)(H:xx)(c:CL):Prop where
 ev:VI L H c.ve c.ev
 co:XD L H c.vc c.co
 rq:XD L H c.vr c.rq
 ex:yD L H c.vx c.ex
 cs:yz L H c.vk c.cs
theorem ZF.I {L:LN}{w w':OZ}{c:CL}(h:ZF L w.heap c)(E:O3 [] w w'):ZF L w'.heap c:=⟨h.ev.I E,h.co.I E,h.rq.I E,h.ex.I E,h.cs.I E⟩
theorem ZF.st {L:LN}{w w':OZ}{c:CL}(h:ZF L w.heap c)(E:O3 L w w'):ZF L w'.heap c:=⟨h.ev.st E,h.co.st E,h.rq.st E,h.ex.st E,h.cs.st E⟩
theorem ZF.up {L L':LN}{H:xx}{c:CL}(h:ZF L H c)(E:∀b∈L',b∈L\/H.size<=b):ZF L' H c:=⟨h.ev.up E,h.co.up E,h.rq.up E,h.ex.up E,h.cs.up E⟩
theorem ZF.ones {c:CL}(h:ZF L H c):Zj c.cells:=⟨h.ev.arr.one,h.co.arr.one,h.rq.arr.one,h.ex.arr.one,h.cs.arr.one,Z⟩
def Qd5 (N:Nat)(H:xx)(v:O0)(k:ZG):Prop:=∃c:CL,v=c.val/\c.V=k/\∀L:LN,(∀b∈L,b<N)->ZF L H c
theorem VB (s:ByteArray)(ha:J6 s)(w:OZ):Q5 prog 81 [.string s] w λr w'=>r=.bool (YX s)/\w'=w:=by
 unfold J6 at ha;refine Zs func81 ntmps81 results81 ?_;refine Qe<|Qc<|Qd<|Qm<|x (Qda U)<|Qb<|xe<|Qg<|QC (α:=Nat) [(2,5),(8,46)] (λz=>[(8,oF oG z)]) (λz w'=>w'=w/\z<=s.size/\(oS z (s.size - z)).all (nmQ s)=(oS 0 s.size).all (nmQ s)) (λz=>s.size - z) ol 0 La ⟨U,Ln _,by rw[NJ]⟩ ?_;rintro k g Y ⟨rfl,hk,E⟩;refine Qe<|QX U U<|xe<|Qd<|QG U (λG=>?_) (λG=>?_)
 ·refine Qx ?_;have hb:s.size<=k:=by have he:¬(k:Int)<(s.size:Int):=G;omega
  rw[QkW hb]at E;have H:YX s=decide (0<s.size/\s.size<=32):=by unfold YX;rw[<-E];simp
  rw[H];refine Q3 (α:=Bool) [(2,2),(47,54)] (λz=>[(2,.bool z)]) (λz w'=>w'=Y/\z=decide (0<s.size/\s.size<=32)) ol ?_ ?_
  ·refine Qw<|Qb<|x (Qda U)<|xb (ZZ U U) (λhf=>?_) (λhf=>?_)
   ·refine Qb<|Qb<|x (Qda U)<|x (KL U U)<|QK U<|Qc ?_;exact⟨_,La,U,by first|exact bT oa|exact bF oa|exact bD oa⟩
   refine Qb<|Qr<|Qr<|Qr<|QK U<|Qc ?_;exact⟨_,La,U,by first|exact bT oa|exact bF oa|exact bD oa⟩
  rintro z g w2 ⟨rfl,rfl⟩;exact Ql ⟨[_],La,U,U⟩
 have I:k<s.size:=by have he:(k:Int)<(s.size:Int):=G;omega
 rw[QhE I,L5]at E;refine Qh<|Qd<|Qg<|Qm<|Qc<|Qm<|Qb<|x (QhP (i:=k) U U I)<|Qc ?_;have J:nmQ s k=decide (nmP k (chr s k)):=rfl;refine Zk (chr s k) λc O=>?_;rw[O]at J;refine Q3 (α:=Bool) [(5,5),(14,31)] (λz=>[(5,.bool z)]) (λz w'=>w'=Y/\z=decide ((97<=c/\c<=122)\/(65<=c/\c<=90)\/c=95)) ol ?_ ?_
 ·rw[<-O];refine Qw<|Qb<|xb (Yl U U) (λhg=>?_) (λhg=>?_)
  ·refine Qb<|Qb<|xb (KL U U) (λhh=>?_) (λhh=>?_)
   ·refine QK U<|Qb<|Qr<|Qr<|Qr<|Qr<|Qr<|Qr<|QK U<|Qb<|Qr<|Qr<|x (U3 U) <|
     Qc ?_
    exact⟨_,La,U,by first|exact bT oa|exact bF oa|exact bD oa⟩
   refine QK U<|Qb<|Qb<|xb (Yl U U) (λS=>?_) (λS=>?_)
   ·refine Qb<|Qb<|xb (KL U U) (λT=>?_) (λT=>?_)
    ·refine QK U<|QK U<|Qb<|Qr<|Qr<|QK U<|Qc ?_;exact⟨_,La,U,by first|exact bT oa|exact bF oa|exact bD oa⟩
    refine QK U<|QK U<|Qb<|Qb<|x (Q9 U U)<|QK U<|Qc ?_;exact⟨_,La,U,by first|exact bT oa|exact bF oa|exact bD oa⟩
   refine Qb<|Qr<|Qr<|QK U<|QK U<|Qb<|Qb<|x (Q9 U U)<|QK U<|x Qk <|
    xe ?_
   exact⟨_,La,U,by first|exact bT oa|exact bF oa|exact bD oa⟩
  refine Qb<|Qr<|Qr<|QK U<|Qb<|Qb<|xb (Yl U U) (λS=>?_) (λS=>?_)
  ·refine Qb<|Qb<|xb (KL U U) (λT=>?_) (λT=>?_)
   ·refine QK U<|QK U<|Qb<|Qr<|Qr<|QK U<|Qc ?_;exact⟨_,La,U,by first|exact bT oa|exact bF oa|exact bD oa⟩
   refine QK U<|QK U<|Qb<|Qb<|x (Q9 U U)<|QK U<|Qc ?_;exact⟨_,La,U,by first|exact bT oa|exact bF oa|exact bD oa⟩
  refine Qb<|Qr<|Qr<|QK U<|QK U<|Qb<|Qb<|x (Q9 U U)<|QK U<|x Qk <|
   xe ?_
  exact⟨_,La,U,by first|exact bT oa|exact bF oa|exact bD oa⟩
 rintro z g w4 ⟨rfl,rfl⟩;refine Q3 (α:=Bool) [(32,45)] (λz=>[(45,.bool z)]) (λz w'=>w'=w4/\z=decide (¬nmP k c)) ol ?_ ?_
 ·unfold nmP;rw[<-O];refine Qw<|Qb<|xb (zI U) (λhi=>?_) (λhi=>?_)
  ·refine Qb<|Qb<|xb (Q9 U U) (λhj=>?_) (λhj=>?_)
   ·refine Qb<|Qr<|Qr<|QK U<|Qb<|Qr<|Qr<|QK U<|QK U<|xe ?_;exact⟨_,La,U,by first|exact bT oa|exact bF oa|exact bD oa⟩
   refine Qb<|Qb<|xb (YJ U U) (λhl=>?_) (λhl=>?_)
   ·refine QK U<|Qb<|Qr<|Qr<|QK U<|QK U<|xe ?_;exact⟨_,La,U,by first|exact bT oa|exact bF oa|exact bD oa⟩
   refine QK U<|Qb<|Qb<|x (ZZ U U)<|QK U<|QK U<|xe ?_;exact⟨_,La,U,by first|exact bT oa|exact bF oa|exact bD oa⟩
  refine Qb<|Qr<|Qr<|Qr<|Qr<|Qr<|Qr<|Qr<|Qr<|Qr<|Qr<|QK U<|xe ?_;exact⟨_,La,U,by first|exact bT oa|exact bF oa|exact bD oa⟩
 rintro z g w5 ⟨rfl,rfl⟩;refine QZ rfl (λV=>?_) (λV=>?_)
 ·refine Qe<|Qc ?_;have H:YX s=false:=by
   unfold YX;rw[<-E,J,OX V];rfl
  exact Ql ⟨[_],La,by rw[H];rfl,U⟩
 refine Qh ?_;have hm:nmP k c:=Lo.1 V;refine Qw<|QN U U<|Qb<|xe ?_;rw[J,OV hm,OK]at E;exact⟨k+1,oa,La,U,I,E⟩
def nmM (l:List ByteArray):List (ByteArray×O0):=l.map λs=>(s,.bool true)
theorem Qle (l:List ByteArray)(s:ByteArray):O8 (nmM l) s=if s∈l then some (.bool true)else none:=by
 induction l with
 | nil=>rfl
 | cons a l ih =>
  show(if a=s then some (Value.bool true)else O8 (nmM l) s)=_
  rw[ih];by_cases h:a=s
  ·subst h;simp
  have:s≠a:=λe=>h e.symm;simp[h,this]
theorem Qeu {l:List ByteArray}{s:ByteArray}(h:s∉l):O9 (nmM l) s (.bool true)=nmM (l++[s]):=by
 induction l with
 | nil=>rfl
 | cons a l ih =>
  have E:a≠s:=λe=>h (by subst e;exact Lt);show(if a=s then(a,Value.bool true)::nmM l else(a,Value.bool true)::O9 (nmM l) s (.bool true))=_
  rw[OR E,ih (λG=>h (Lk _ G))];rfl
section
variable {pS:String}
theorem QbA [hm:Mp P t kt et (.bool false)][hk:Key P kt JB]{x:O1}{l:List ByteArray}{s:ByteArray}(h:Yd JB w.heap b (nmM l))(hx:ev f x=.map (some b))(E:ev f y=.string s):
  (execOp (ev f) ⟨d,.lookup t x y false,ty,pS,af,gd⟩).run P w=.ok (.value (.bool (decide (s∈l)))) w:=by
 rw[Jr h hx E,Qle];by_cases G:s∈l <;> simp[G]
end
theorem QdJ {s:List ByteArray}{l:List JY}{k:Nat}(h:k<l.length):qG s (l.drop k)=if Jg s (l[k]'h)≠0 then Jg s (l[k]'h)else qG (s++[(l[k]'h).nm]) (l.drop (k+1)):=by
 rw[Zf h];rfl
theorem yh {v:O0}{l:List JY}(h:VI L w.heap v l):Q5 prog 34 [v] w λr w'=>r=oF oG (J2 l)/\O3 [] w w':=by
 have h0:=h.arr.le;refine Zs func34 ntmps34 results34 ?_;refine Qe<|Qc<|Qd<|Qm<|QL h.arr U<|x (ZZ U U)<|xe<|QZ rfl (λh8=>?_) (λh8=>?_)
 ·refine Qe<|Qc ?_;exact Ql ⟨[_],La,by unfold J2;rw[OS (by have h9:(32:Int)<(l.length:Int):=h8;omega)];rfl,O3.Z _ _⟩
 have hm:J2 l=qG [] l:=by unfold J2;rw[OR (by have h9:¬(32:Int)<(l.length:Int):=h8;omega)]
 rw[hm];refine Qh<|Qe<|Qa<|Yw JB λb9 w1 hg ho hp=>Qc<|Qd<|Qm<|QL (h.arr.I hg) U<|Qb<|xe<|Qg<|QC (α:=Nat×List ByteArray) [(2,2),(5,5),(12,50)] (λz=>[(12,oF oG z.1)]) (λz w'=>z.1<=l.length/\O3 [] w w'/\Yd JB w'.heap b9 (nmM z.2)/\qG z.2 (l.drop z.1)=qG [] l) (λz=>l.length - z.1) ol (0,[]) La
  ⟨Ln _,hg,hp,U⟩ ?_
 rintro⟨k,sn⟩ g w2 ⟨hk,I,hh,E⟩;simp only[]at hk hh E;refine Qe<|QX U U<|xe<|Qd<|QG U (λha=>?_) (λha=>?_)
 ·refine Qx ?_;have hq:l.length<=k:=by have hr:¬(k:Int)<(l.length:Int):=ha;omega
  rw[Lr hq]at E;refine Qe<|Qc ?_;exact Ql ⟨[_],La,by rw[<-E];rfl,I⟩
 have T:k<l.length:=by have hr:(k:Int)<(l.length:Int):=ha;omega
 rw[QdJ T]at E;have hi:=h.nm _ (Lm T);refine Qh<|Qd<|Qg<|Qe<|O6 UE (h.arr.I I) U U T λh2 hj=>?_;refine Zk (l[k]'T) λe he=>?_;rw[he]at hj E hi;refine x (Qv hj U U)<|Qa<|Qo (us:=[.string .empty,.bool false,.bool false,.bool false,oF oG 0]) U λb5 w3 hs ht H=>Qa<|Qj (us:=Zu e) H U U U U ⟨U,U,U,U,U,Z⟩ λw4 hu H =>
  xe ?_
 have J:O3 [] w2 w4:=hs.O hu ht;have hl:=hh.I J;refine Qd<|Qg<|Qe<|Qs U H U U<|Qa<|xf<|(VB e.nm hi _).mono ?_;rintro r5 w5 ⟨rfl,rfl⟩;refine x (Zz U)<|Qc<|QW U (λhb=>?_) (λhb=>?_)
 ·have O:YX e.nm=false:=by simpa using hb
  have G:Jg sn e=7:=by unfold Jg;rw[OS O]
  refine Qe<|Qc ?_;exact Ql ⟨[_],La,by rw[<-E,G];rfl,I.D J⟩
 have O:¬YX e.nm=false:=by simpa using hb
 refine Qm<|Qs U H U U<|x (QbA hl U U)<|Qc<|QZ U (λS=>?_) (λS=>?_)
 ·have G:Jg sn e=8:=by unfold Jg;rw[OR O,OS S]
  refine Qe<|Qc ?_;exact Ql ⟨[_],La,by rw[<-E,G];rfl,I.D J⟩
 refine Q3 (α:=Bool) [(26,34)] (λz=>[(26,.bool z)]) (λz w'=>w'=w5/\z=decide (e.fl<0\/4<e.fl)) ol ?_ ?_
 ·refine Qw<|Qs U H U U<|xb (YJ U U) (λhv=>?_) (λhv=>?_)
  ·refine Qb<|Qr<|Qr<|Qr<|QK U<|Qc ?_;exact⟨_,La,U,by first|exact bT oa|exact bF oa|exact bD oa⟩
  refine Qb<|Qs U H U U<|x (ZZ U U)<|QK U<|Qc ?_;exact⟨_,La,U,by first|exact bT oa|exact bF oa|exact bD oa⟩
 rintro z g w6 ⟨rfl,rfl⟩;refine QZ rfl (λV=>?_) (λV=>?_)
 ·have G:Jg sn e=2:=by unfold Jg;rw[OR O,OR S,OS V]
  refine Qe<|Qc ?_;exact Ql ⟨[_],La,by rw[<-E,G];rfl,I.D J⟩
 refine Q3 (α:=Bool) [(35,46)] (λz=>[(35,.bool z)]) (λz w'=>w'=w6/\z=decide (e.fl≠0/\(e.co || e.ob)=true)) ol ?_ ?_
 ·refine Qw<|Qs U H U U<|xb (Jc U U) (λY=>?_) (λY=>?_)
  ·refine Qb<|Q0 U<|xB (Qq H U U) (λhc=>?_) (λhc=>?_)
   ·refine Qb<|Qr<|Qr<|QK U<|QK U<|Qc ?_;exact⟨_,La,U,by rw[hc,OV ⟨Y,oe⟩]⟩
   refine Qb<|Qs U H U U<|QK U<|QK U<|Qc<|⟨_,La,U,?_⟩;show e.ob=_;rw[hc];cases e.ob <;> simp[show ¬e.fl=0 from Y]
  refine Qb<|Qr<|Qr<|Qr<|Qr<|Qr<|Qr<|QK U<|Qc ?_;exact⟨_,La,U,bF (λG=>Y G.1)⟩
 rintro z g w7 ⟨rfl,rfl⟩;refine QZ rfl (λhf=>?_) (λhf=>?_)
 ·have G:Jg sn e=13:=by unfold Jg;rw[OR O,OR S,OR V,OS hf]
  refine Qe<|Qc ?_;exact Ql ⟨[_],La,by rw[<-E,G];rfl,I.D J⟩
 have G:Jg sn e=0:=by unfold Jg;rw[OR O,OR S,OR V,OR hf]
 rw[G,OR (λh=>h rfl)]at E;refine Qh<|Qw<|Qb<|Qs U H U U<|Qa<|Xw (k:=e.nm) hl U U λw8 hw hy=>xe ?_;refine Qw<|QN U U<|Qb<|xe ?_;have hz:Yd JB w8.heap b9 (nmM (sn++[e.nm])):=by rw[<-Qeu S];exact hy
 exact⟨(k+1,sn++[e.nm]),oh,La,T,(I.D J).O hw ho,hz,E⟩
theorem QbU {α:Type}(q:α->Bool)(x:α):∀(l:List α) (i:Nat),ixs q i (l++[x])=ixs q i l++if q x=true then[((i+l.length:Nat):Int)]else[]
 | [],i=>by simp[ixs]
 | a::l,i=>by
  have ih:=QbU q x l (i+1);simp only[Ob,ixs,ih,oV];rw[show i+1+l.length=i+(l.length+1) by omega];split <;> simp
theorem QaG {α:Type}(q:α->Bool):∀(l:List α) (i:Nat),(ixs q i l).length<=l.length
 | [],i=>by simp[ixs]
 | a::l,i=>by
  have ih:=QaG q l (i+1);unfold ixs;split <;> simp <;> omega
theorem QiC (q:α->Bool){l:List α}{k:Nat}(h:k<l.length):ixs q 0 (l.take (k+1))=ixs q 0 (l.take k)++if q (l[k]'h)=true then[(k:Int)]else[]:=by
 rw[Ll h,QbU];simp[Nat.min_eq_left (Nat.le_of_lt h)]
theorem QgB [Fu prog g fn]{q:JY->Bool}(hq:∀(e:JY) (w:OZ),Q5 prog g [.agg (Zu e).toArray] w λr w'=>r=.bool (q e)/\O3 [] w w'){v:O0}{l:List JY}(h:VI L w.heap v l):
  Q5 prog 181 [v,.func (.func g) #[] #[]] w λr w'=>O3 [] w w'/\Qu 3 w.heap.size w' r (ixs q 0 l):=by
 have hr:=h.arr.le;refine Zs func181 ntmps181 results181 ?_;refine Qe<|Qc<|Qe<|Qc<|Qd<|Qm<|QL h.arr U<|Qb<|xe<|Qg<|QC (α:=Nat×O0) [(5,7),(10,22)] (λz=>[(5,z.2),(10,oF oG z.1)]) (λz w'=>z.1<=l.length/\O3 [] w w'/\Qu 3 w.heap.size w' z.2 (ixs q 0 (l.take z.1))) (λz=>l.length - z.1) ol (0,nS) oA
  ⟨Ln _,O3.Z _ _,QJ _ _ _ _⟩ ?_
 rintro⟨k,vo⟩ g w1 ⟨hk,E,I⟩;simp only[]at hk I;refine Qe<|QX U U<|xe<|Qd<|QG U (λO=>?_) (λO=>?_)
 ·refine Qx ?_;have hc:l.length<=k:=by have hf:¬(k:Int)<(l.length:Int):=O;omega
  rw[Ls hc]at I;refine Qm<|Qc ?_;exact Ql ⟨[_],La,E,I⟩
 have G:k<l.length:=by have hf:(k:Int)<(l.length:Int):=O;omega
 have H:=QiC q G;have hs:=QaG q (l.take k) 0;have ht:(l.take k).length=k:=by simp;omega
 refine Qh<|Qd<|Qg<|Qm<|O6 UE (h.arr.I E) U U G λhu ha=>?_;refine Zk (l[k]'G) λe he=>?_;rw[he]at ha H;refine x (Qv ha U U)<|Qa<|Qo (us:=[.string .empty,.bool false,.bool false,.bool false,oF oG 0]) U λb7 w2 hg hh S=>x Qk <|
  Qa<|Qj (us:=Zu e) S U U U U ⟨U,U,U,U,U,Z⟩ λw3 hi S=>xe ?_
 have hj:O3 [] w1 w3:=hg.O hi hh;refine Qm<|Q2 S U U<|Qa<|xc (first:=[]) (capt:=[]) U<|(hq e w3).mono ?_;rintro r4 w4 ⟨rfl,hl⟩;have J:=hj.D hl;have T:=Qp I J;have hv:=(E.D J).size;refine xe<|QW rfl (λV=>?_) (λV=>?_)
 ·rw[OS V]at H;refine Qw<|Qb<|Qb<|Qa<|QB (us:=[[oF oG k]]) U U og oe ⟨rfl,rfl,Z⟩ λhw w5 Y hy hm=>?_;have hn:=Qp T Y;have hz:=Y.size;refine Qa<|Za (news:=[oF oG k]) (L:=[]) hn U U U (hm.at oe) (by simp[Value.oneCell']) oa oa λv6 w6 ho hp h0 =>
   Qc ?_
  have hge:=Qi T;refine Qw<|QN U U<|Qb<|xe<|⟨(k+1,v6),oh,oA,G,((E.D J).D Y).then hp (λb hb=>.inr (hge b hb).1),?_⟩;simp only[];rw[H];exact Qu.snoc ho
 rw[OR (by rw[V];decide),LS]at H;refine Qh<|Qw<|QN U U<|Qb<|xe ?_;exact⟨(k+1,vo),oh,oA,G,E.D J,by simp only[];rw[H];exact T⟩
theorem QdT (e:JY)(w:OZ):Q5 prog 176 [.agg (Zu e).toArray] w λr w'=>r=.bool (!e.co)/\O3 [] w w':=by
 refine Zs func176 ntmps176 results176 ?_;refine Qe<|Qa<|QS (us:=Zu e) U λb1 H E I G=>Qc<|Qe<|Qs U G U U<|x (Zz U)<|Qc ?_;exact Ql ⟨[_],La,U,E⟩
theorem QgM {v:O0}{l:List JY}(h:VI L w.heap v l):Q5 prog 117 [v,oF oG 2] w λr w'=>O3 [] w w' /\
  ∃vo,r=.tuple #[vo,oF oG (J2 l)]/\Qu 3 w.heap.size w' vo (if J2 l=0 then unc l else[]):=by
 refine Zs func117 ntmps117 results117 ?_;refine Qe<|x Qk<|Qc<|Qd<|Qm<|Qa<|xf<|(yh h).mono ?_;rintro r1 O ⟨rfl,I⟩;refine Qc<|Qm<|ZA U U<|xe<|QZ rfl (λG=>?_) (λG=>?_)
 ·refine Qm<|x Qk<|Qc ?_;exact Ql ⟨[_,_],oA,I,_,U,by rw[OR G];exact QJ _ _ _ _⟩
 have J:J2 l=0:=Lo.1 G;refine Qh<|Qe<|Qa<|Yw VY λho w2 S E T=>Qa<|X0 (k:=1) T U U λw3 V Y=>Qa<|X0 (k:=2) Y U U λw4 ha hb =>
  Qa<|X0 (k:=3) hb U U λw5 hc he=>Qa<|X0 (k:=4) he U U λw6 hf hg=>Qa<|X0 (k:=5) hg U U λw7 hh hi=>Qa<|X0 (k:=6) hi U U λw8 hj hk =>
  Qb<|Qc ?_
 have hl:O3 [] O w8:=(((((S.O V E).O ha E).O hc E).O hf E).O hh E).O hj E;refine Qm<|Qb<|x (jj (k:=(2:Int)) hk U U U)<|Qb<|Q8 U U<|Q8 U U<|x Qk<|Qc<|Qd<|Qm<|x (Zz U)<|xe<|ZO rfl ?_;refine Qh ?_;have H:=I.D hl;refine Qm<|Qb<|Qa<|xf<|(QgB QdT (h.I H)).mono ?_;rintro r9 w9 ⟨hm,hn⟩;refine x Qk<|Qc<|Ql ⟨[_,_],oA,H.D hm,_,by rw[J];rfl,?_⟩;rw[OS J];exact Zy hn H.size
theorem QbZ (n:Int)(w:OZ):Q5 prog 127 [oF oG n] w λr w'=>r=.bool (grt n)/\w'=w:=by
 refine Zs func127 ntmps127 results127 ?_;refine Qe<|Qc<|Q3 (α:=Bool) [(2,8)] (λz=>[(2,.bool z)]) (λz w'=>w'=w/\z=grt n) ol ?_ ?_
 ·refine Qw<|Qb<|xb (YJ U U) (λE=>?_) (λE=>?_)
  ·refine Qb<|Qr<|Qr<|QK U<|Qc ?_;exact⟨_,La,U,by unfold grt;rw[OV E];rfl⟩
  refine Qb<|Qb<|x (ZZ U U)<|QK U<|Qc ?_;exact⟨_,La,U,by unfold grt;rw[OX E];rfl⟩
 rintro z g G ⟨rfl,rfl⟩;exact Ql ⟨[_],La,U,U⟩
theorem QdI {sz:LI}{ls:xt}{k:Nat}(h:k<ls.length):XJ sz (pv (ls.map (·.1)) k) (ls.drop k)=if(ls[k]'h).1<0\/(sz.length:Int)<=(ls[k]'h).1 then 2 else if yL (pv (ls.map (·.1)) k) (ls[k]'h).1=true then 5 else if(ls[k]'h).2<0\/O4 sz (ls[k]'h).1.toNat<=(ls[k]'h).2 then 2 else XJ sz (pv (ls.map (·.1)) (k+1)) (ls.drop (k+1)):=by
 rw[Zf h,Vp (oz h),Mu];rfl
theorem UK {sz:LI}{ls:xt}{nm:ByteArray}(hS:QQ [] w.heap vs sz)(hl:yT [] w.heap vl ls):
  Q5 prog 91 [.agg #[vs,vx,vk],.agg #[.string nm,vl]] w λr w'=>r=oF oG (Jf sz ls)/\O3 [] w w':=by
 have hG:=hl.le;refine Zs func91 ntmps91 results91 ?_;refine Qe<|Qa<|QS (us:=[vs,vx,vk]) U λb2 w1 hy hH V=>Qa<|QS (us:=[.string nm,vl]) U λb3 w2 hp hI Y=>Qc ?_;have H:=hy.D hp
 replace V:=V.I hp;refine Qd<|Qe<|Qs U Y U U<|QL (hl.I H) U<|x (Q9 U U)<|xe<|QZ rfl (λha=>?_) (λha=>?_)
 ·refine Qe<|Qc ?_;exact Ql ⟨[_],La,by unfold Jf;rw[OS (by have hz:(ls.length:Int)=0:=ha;omega)];rfl,H⟩
 have h0:ls.length≠0:=by have hz:¬(ls.length:Int)=0:=ha;omega
 have h1:Jf sz ls=XJ sz none ls:=by unfold Jf;rw[OR h0]
 rw[h1];refine Qh<|Qd<|Qe<|Qs U Y U U<|QL (hl.I H) U<|Qb<|xe<|Qg<|QC (α:=Nat) [(4,6),(14,61)] (λz=>[(14,oF oG z)]) (λz w'=>z<=ls.length/\O3 [] w2 w'/\XJ sz (pv (ls.map (·.1)) z) (ls.drop z)=XJ sz none ls) (λz=>ls.length - z) ol 0 La
  ⟨Ln _,O3.Z _ _,U⟩ ?_
 rintro k g w3 ⟨hk,O,G⟩;have hb:=H.D O;have hq:=V.I O;have h2:=Y.I O;have hr:=hl.I hb;have hs:=hS.I hb;refine Qe<|QX U U<|xe<|Qd<|QG U (λhf=>?_) (λhf=>?_)
 ·refine Qx ?_;have h3:ls.length<=k:=by have h4:¬(k:Int)<(ls.length:Int):=hf;omega
  rw[Lr h3]at G;refine Qe<|Qc ?_;exact Ql ⟨[_],La,by rw[<-G];rfl,hb⟩
 have S:k<ls.length:=by have h4:(k:Int)<(ls.length:Int):=hf;omega
 rw[QdI S]at G;refine Qh<|Qd<|Qg<|Qm<|O6 Yv hr U U S λhJ ht=>?_;refine Zk (ls[k]'S) λe he=>?_;rw[he]at ht G;refine x (Qv ht U U)<|Qa<|Qo (us:=[oF oG 0,oF oG 0]) U λb6 w4 h5 h6 J=>x Qk<|Qa<|Qj (us:=QI e) J U U U U oA λw5 h7 J=>xe ?_;have I:O3 [] w3 w5:=h5.O h7 h6;have hu:=O.D I;refine Qg<|Q3 (α:=Bool) [(19,30)] (λz=>[(19,.bool z)]) (λz w'=>w'=w5/\z=decide (e.1<0\/(sz.length:Int)<=e.1)) ol ?_ ?_
 ·refine Qw<|Qs U J U U<|xb (YJ U U) (λh8=>?_) (λh8=>?_)
  ·refine Qb<|Qr<|Qr<|Qr<|Qr<|Qr<|Qr<|QK U<|Qc ?_;exact⟨_,La,U,by first|exact bT oa|exact bF oa|exact bD oa⟩
  refine Qb<|Qs U J U U<|Qs U (hq.I I) U U<|QL (hs.I I) U<|x (Yl U U) <|
   QK rfl<|Qc ?_
  exact⟨_,La,U,by first|exact bT oa|exact bF oa|exact bD oa⟩
 rintro z g w6 ⟨rfl,rfl⟩;refine QZ rfl (λhg=>?_) (λhg=>?_)
 ·rw[OS hg]at G;refine Qe<|Qc ?_;exact Ql ⟨[_],La,by rw[<-G];rfl,H.D hu⟩
 rw[OR hg]at G;have h9:e.1=((e.1.toNat:Nat):Int):=oa
 have hA:e.1.toNat<sz.length:=oa
 refine Q3 (α:=Bool) [(31,45)] (λz=>[(31,.bool z)]) (λz w'=>O3 [] w6 w'/\z=yL (pv (ls.map (·.1)) k) e.1) ol ?_ ?_
 ·refine QR (O3 [] w6) [oD 0,oD 1,oD 2,oD 3,oD 4,oD 5,oD 6,oD 7,oD 8,oD 9,oD 10,oD 11,oD 12,oD 13,oD 14] mixed ol od (O3.C _ _) ?_;refine p Qy<|pb (λ_=>ZZ U U) (λhh=>?_) (λhh=>?_)
  ·have hi:k≠0:=by have hB:(0:Int)<(k:Int):=hh;omega
   have hk1:((k:Int) - 1)=((k - 1:Nat):Int):=oa
   have hj:k - 1<ls.length:=oa
   refine p Qy<|p (QP U)<|pq (λ_ E=>Qq (J.I E) U U)<|p (QP U)<|pq (λ_ E=>Qq ((h2.I I).I E) U U) <|
    p Qy<|p (λ_=>Jb U U ⟨oa,oa⟩)<|Lg.pig (g:=QI) (i:=k - 1) U Yv (hr.I I) U (OT (Value.int .i64) hk1) hj λhK hC=>p (λ_=>Zg U) <|
    pq (λ_ E=>QD ((hC.fld 0 _ U).I E) U)<|p (λ_=>KL U U)<|p (YS U)<|p ZH<|pe ?_
   refine⟨_,La,O3.C _ _,?_⟩;have:pv (ls.map (·.1)) k=some (ls[k - 1]'hj).1:=by simp[pv,hi,hj]
   rw[this];rfl
  have hi:k=0:=by have hB:¬(0:Int)<(k:Int):=hh;omega
  refine p Qy<|ps<|ps<|ps<|ps<|ps<|ps<|ps<|ps<|ps<|ps<|p (YS U)<|p ZH<|pe ?_;exact⟨false,La,O3.C _ _,by simp[pv,hi,yL]⟩
 rintro z g w7 ⟨T,rfl⟩;have hv:=hu.D T;refine QW rfl (λhm=>?_) (λhm=>?_)
 ·rw[OS hm]at G;refine Qe<|Qc ?_;exact Ql ⟨[_],La,by rw[<-G];rfl,H.D hv⟩
 rw[OR (by simp[hm])]at G;have hn:=J.I T;refine Q3 (α:=Bool) [(46,60)] (λz=>[(46,.bool z)]) (λz w'=>O3 [] w7 w'/\z=decide (e.2<0\/O4 sz e.1.toNat<=e.2)) ol ?_ ?_
 ·refine QR (O3 [] w7) [oD 0,oD 1,oD 2,oD 3,oD 4,oD 5,oD 6,oD 7,oD 8,oD 9,oD 10,oD 11,oD 12,oD 13,oD 14] mixed ol od (O3.C _ _) ?_;refine p (QP U)<|pq (λ_ E=>Qq (hn.I E) U U)<|pb (λ_=>YJ U U) (λhD=>?_) (λhD=>?_)
  ·refine p Qy<|ps<|ps<|ps<|ps<|ps<|ps<|ps<|ps<|ps<|p (YS U)<|p ZH<|pe ?_;exact⟨_,La,O3.C _ _,by first|exact bT oa|exact bF oa|exact bD oa⟩
  refine p Qy<|p (QP U)<|pq (λ_ E=>Qq (hn.I E) U U)<|p (QP U)<|pq (λ_ E=>Qq (((hq.I I).I T).I E) U U) <|
   p (QP rfl)<|pq (λ_ E=>Qq (hn.I E) U U)<|pic (i:=e.1.toNat) U ((hs.I I).I T) U (OT (Value.int .i64) h9) hA λhL hE=>pq (λ_ E=>QD (hE.I E) U) <|
   p (λ_=>Yl U U)<|p (YS U)<|p ZH<|pe ?_
  exact⟨_,La,O3.C _ _,by first|exact bT oa|exact bF oa|exact bD oa⟩
 rintro z g w8 ⟨hF,rfl⟩;have hw:=hv.D hF;refine QZ rfl (λho=>?_) (λho=>?_)
 ·rw[OS ho]at G;refine Qe<|Qc ?_;exact Ql ⟨[_],La,by rw[<-G];rfl,H.D hw⟩
 rw[OR ho]at G;refine Qh<|Qw<|QN U U<|Qb<|xe ?_;exact⟨k+1,oa,La,S,hw,G⟩
theorem QdH {sz:LI}{ls:xt}{k:Nat}(h:k<ls.length):JW sz (pv (ls.map (·.1)) k) (ls.drop k)=if(ls[k]'h).1<0\/(sz.length:Int)<=(ls[k]'h).1 then 2 else if yL (pv (ls.map (·.1)) k) (ls[k]'h).1=true then 5 else if(ls[k]'h).2=0\/grt (ls[k]'h).2=true then 2 else JW sz (pv (ls.map (·.1)) (k+1)) (ls.drop (k+1)):=by
 rw[Zf h,Vp (oz h),Mu];rfl
theorem V8 {sz:LI}{ls:xt}{nm:ByteArray}{bd:Int}(hS:QQ [] w.heap vs sz)(hl:yT [] w.heap vl ls):
  Q5 prog 93 [.agg #[vs,vx,vk],.agg #[.string nm,vl,oF oG bd]] w λr w'=>r=oF oG (Xp sz ⟨nm,ls,bd⟩)/\O3 [] w w':=by
 have hG:=hl.le;refine Zs func93 ntmps93 results93 ?_;refine Qe<|Qa<|QS (us:=[vs,vx,vk]) U λb2 w1 h0 hH V=>Qa<|QS (us:=[.string nm,vl,oF oG bd]) U λb3 w2 hq hI Y=>Qc ?_;have G:=h0.D hq
 replace V:=V.I hq;refine Qd<|Qe<|Qs U Y U U<|QL (hl.I G) U<|x (Q9 U U)<|xe<|QZ rfl (λha=>?_) (λha=>?_)
 ·refine Qe<|Qc ?_;exact Ql ⟨[_],La,by unfold Xp;rw[OS (by have h1:(ls.length:Int)=0:=ha;show ls.length=0;omega)];rfl,G⟩
 have h2:ls.length≠0:=by have h1:¬(ls.length:Int)=0:=ha;omega
 have h3:Xp sz ⟨nm,ls,bd⟩=if JW sz none ls≠0 then JW sz none ls else if grt bd=true then 2 else 0:=by unfold Xp;rw[OR h2]
 rw[h3];refine Qh<|Qd<|Qe<|Qs U Y U U<|QL (hl.I G) U<|Qb<|xe<|Qg<|QC (α:=Nat) [(4,6),(14,55)] (λz=>[(14,oF oG z)]) (λz w'=>z<=ls.length/\O3 [] w2 w'/\JW sz (pv (ls.map (·.1)) z) (ls.drop z)=JW sz none ls) (λz=>ls.length - z) ol 0 La
  ⟨Ln _,O3.Z _ _,U⟩ ?_
 rintro k g w3 ⟨hk,O,E⟩;have S:=G.D O;have h4:=V.I O;have hr:=Y.I O;have hs:=hl.I S;have h5:=hS.I S;refine Qe<|QX U U<|xe<|Qd<|QG U (λhb=>?_) (λhb=>?_)
 ·refine Qx ?_;have h6:ls.length<=k:=by have h7:¬(k:Int)<(ls.length:Int):=hb;omega
  rw[Lr h6]at E;have h8:JW sz none ls=0:=E.symm;rw[h8,OR (λh=>h rfl)];refine Qd<|Qe<|Qs U hr U U<|Qa<|xf<|(QbZ bd _).mono ?_;rintro r4 w4 ⟨rfl,rfl⟩;refine xe<|QW U (λhf=>?_) (λhf=>?_)
  ·rw[OS hf];refine Qe<|Qc ?_;exact Ql ⟨[_],La,U,S⟩
  rw[OR (by simp[hf])];refine Qh<|Qe<|Qc ?_;exact Ql ⟨[_],La,U,S⟩
 have T:k<ls.length:=by have h7:(k:Int)<(ls.length:Int):=hb;omega
 rw[QdH T]at E;refine Qh<|Qd<|Qg<|Qm<|O6 Yv hs U U T λhJ ht=>?_;refine Zk (ls[k]'T) λe he=>?_;rw[he]at ht E;refine x (Qv ht U U)<|Qa<|Qo (us:=[oF oG 0,oF oG 0]) U λb6 w4 h9 hA H=>x Qk<|Qa<|Qj (us:=QI e) H U U U U oA λw5 hB H=>xe ?_;have I:O3 [] w3 w5:=h9.O hB hA;have hu:=O.D I;refine Qg<|Q3 (α:=Bool) [(19,30)] (λz=>[(19,.bool z)]) (λz w'=>w'=w5/\z=decide (e.1<0\/(sz.length:Int)<=e.1)) ol ?_ ?_
 ·refine Qw<|Qs U H U U<|xb (YJ U U) (λhC=>?_) (λhC=>?_)
  ·refine Qb<|Qr<|Qr<|Qr<|Qr<|Qr<|Qr<|QK U<|Qc ?_;exact⟨_,La,U,by first|exact bT oa|exact bF oa|exact bD oa⟩
  refine Qb<|Qs U H U U<|Qs U (h4.I I) U U<|QL (h5.I I) U<|x (Yl U U) <|
   QK rfl<|Qc ?_
  exact⟨_,La,U,by first|exact bT oa|exact bF oa|exact bD oa⟩
 rintro z g w6 ⟨rfl,rfl⟩;refine QZ rfl (λhh=>?_) (λhh=>?_)
 ·rw[OS hh]at E;refine Qe<|Qc ?_;exact Ql ⟨[_],La,by rw[<-E,OS og];rfl,G.D hu⟩
 rw[OR hh]at E;refine Q3 (α:=Bool) [(31,45)] (λz=>[(31,.bool z)]) (λz w'=>O3 [] w6 w'/\z=yL (pv (ls.map (·.1)) k) e.1) ol ?_ ?_
 ·refine QR (O3 [] w6) [oD 0,oD 1,oD 2,oD 3,oD 4,oD 5,oD 6,oD 7,oD 8,oD 9,oD 10,oD 11,oD 12,oD 13,oD 14] mixed ol od (O3.C _ _) ?_;refine p Qy<|pb (λ_=>ZZ U U) (λhi=>?_) (λhi=>?_)
  ·have hj:k≠0:=by have hD:(0:Int)<(k:Int):=hi;omega
   have hk1:((k:Int) - 1)=((k - 1:Nat):Int):=oa
   have hm:k - 1<ls.length:=oa
   refine p Qy<|p (QP U)<|pq (λ_ J=>Qq (H.I J) U U)<|p (QP U)<|pq (λ_ J=>Qq ((hr.I I).I J) U U) <|
    p Qy<|p (λ_=>Jb U U ⟨oa,oa⟩)<|Lg.pig (g:=QI) (i:=k - 1) U Yv (hs.I I) U (OT (Value.int .i64) hk1) hm λhK hE=>p (λ_=>Zg U) <|
    pq (λ_ J=>QD ((hE.fld 0 _ U).I J) U)<|p (λ_=>KL U U)<|p (YS U)<|p ZH<|pe ?_
   refine⟨_,La,O3.C _ _,?_⟩;have:pv (ls.map (·.1)) k=some (ls[k - 1]'hm).1:=by simp[pv,hj,hm]
   rw[this];rfl
  have hj:k=0:=by have hD:¬(0:Int)<(k:Int):=hi;omega
  refine p Qy<|ps<|ps<|ps<|ps<|ps<|ps<|ps<|ps<|ps<|ps<|p (YS U)<|p ZH<|pe ?_;exact⟨false,La,O3.C _ _,by simp[pv,hj,yL]⟩
 rintro z g w7 ⟨hv,rfl⟩;have hw:=hu.D hv;refine QW rfl (λhn=>?_) (λhn=>?_)
 ·rw[OS hn]at E;refine Qe<|Qc ?_;exact Ql ⟨[_],La,by rw[<-E,OS og];rfl,G.D hw⟩
 rw[OR (by simp[hn])]at E;have hy:=H.I hv;refine Q3 (α:=Bool) [(46,54)] (λz=>[(46,.bool z)]) (λz w'=>O3 [] w7 w'/\z=decide (e.2=0\/grt e.2=true)) ol ?_ ?_
 ·refine Qw<|Qs U hy U U<|xb (Q9 U U) (λho=>?_) (λho=>?_)
  ·refine Qb<|Qr<|Qr<|Qr<|QK U<|Qc ?_;exact⟨_,La,O3.Z _ _,bT (.inl ho)⟩
  refine Qb<|Qs U hy U U<|Qa<|xf<|(QbZ e.2 _).mono ?_;rintro r9 w9 ⟨rfl,rfl⟩;refine QK U<|Qc<|⟨grt e.2,La,O3.Z _ _,?_⟩;cases hg:grt e.2 with
  | true=>exact bT (.inr U)
  | false=>exact bF (λh=>by rcases h with h|h;exact ho h;cases h)
 rintro z g w8 ⟨hF,rfl⟩;have hz:=hw.D hF;refine QZ rfl (λhp=>?_) (λhp=>?_)
 ·rw[OS hp]at E;refine Qe<|Qc ?_;exact Ql ⟨[_],La,by rw[<-E,OS og];rfl,G.D hz⟩
 rw[OR hp]at E;refine Qh<|Qw<|QN U U<|Qb<|xe ?_;exact⟨k+1,oa,La,T,hz,E⟩
open Go.RowKit
def QcV:Fr->LN->LV->Fr
 | f,p::ps,v::vs=>QcV (upd f p v) ps vs
 | f,_,_=>f
theorem UZ {n:Nat}{ds:LN}:∀(ps:LN) (vs:LV) (a:Act) (f:Fr),Y8 n ds a f->(∀p∈ps,p<n) ->
  Y8 n ds { tmps:=(ps.zip vs).foldl (λt (x:Nat×O0)=>t.setIfInBounds x.1 x.2) a.tmps,defers:=a.defers } (QcV f ps vs)
 | [],_,a,f,h,_=>by cases h;exact⟨by assumption,by assumption,by assumption⟩
 | p::ps,[],a,f,h,_=>by cases h;exact⟨by assumption,by assumption,by assumption⟩
 | p::ps,v::vs,a,f,h,E=>by
  have G:=h.put (dst:=some p) (λd e=>by cases e;exact E p Lt) v;exact UZ ps vs _ _ G (λq H=>E q (Lk _ H))
def rdE {α:Type}(B:Nat)(L:LN)(I:List α->OZ->Prop)(X:Exit->List α->OZ->Prop)(xs:List α)(W:OZ):Exit->LN->Fr->OZ->Prop
 | .normal,_,_,W'=>KJ B L W W'/\I xs W'
 | .ret,_,_,W'=>KJ B L W W'/\X .ret xs W'
 | .exit i,_,_,W'=>KJ B L W W'/\X (.exit i) xs W'
 | _,_,_,_=>False
theorem Qkc {m:Nat}{Q:Exit->LN->Fr->OZ->Prop}{g:O1}{ps:LN}{assign body:Code}(L:LN)(Y:1<=m)
    [hF:Fu P gf fn]  (hg:ev f g=.func (.func gf) #[] capt.toArray) {encs:α->LV} {S Sp:List α->Prop}  (hp:∀p∈ps,p<n) (hj:∀x,(encs x).length=ps.length)
  (hm:SeqStopsK (fen none) (m - 1) P gf capt.toArray (λx=>(encs x).toArray) (Lw w.heap.size L) S Sp N w)
  (I:List α->OZ->Prop) (hI:∀s,Yt w.heap.size (I s)) (X:Exit->List α->OZ->Prop) (hX:∀e s,Yt w.heap.size (X e s)) (h0:I [] w) (A:Fr->α->Fr->OZ->Prop) (hA:∀x E,Yt w.heap.size (A f x E))
  (hc:∀l pre x W,I pre W->WG (some l) (m - 1 - 1) P n assign (QcX (λhb E W'=>hb=[]/\KJ w.heap.size L W W'/\I pre W'/\A f x E W') (λ_ _ _ _=>False)) [] (QcV f ps (encs x)) W)
  (he:∀l pre x E W,I pre W->A f x E W->pre.length<N->WG (some l) (m - 1 - 1) P n body (rdE w.heap.size L I X (pre++[x]) W) [] E W)
  (hn:∀D xs W,w.heap.size<=D->S xs->I xs W->W.heap[D]?=some (.deferred (some []))->Q .normal (D::ds) f W)
  (hf:∀D e pre W,w.heap.size<=D->Sp pre->X e pre W->W.heap[D]?=some (.deferred (some []))->(e=.ret\/∃i,e=.exit i)->Q e (D::ds) f W):
  WG none m P n (.rangeFunc g ps.toArray assign body) Q ds f w:=by
 unfold WG at hc he ⊢;intro a J;have eg:∀args w,(callFunc gf args).run P w=.ok (.enter gf args) w:=by
  intro args w;have Y:¬fn.name = "runtime.NumGoroutine" := by simpa using hF.nm
  have O:¬fn.body=none:=by have:=hF.b;intro e;rw[e]at this;cases this
  simp[callFunc,hF.f,Y,O]
 have keep:∀{W W':OZ},KJ w.heap.size L W W'->KeepsFrom w.heap.size W W':=λh=>⟨h.lw.size,λk o _ hk ho=>h.other k o hk ho⟩;refine wpIn_rangeFunc_ownH (F:=fen none) U Y (gf:=gf) (lb:=capt.toArray) (by rw[J.eval];exact hg) Z eg hm (λh k=>h.D k)
  (λW l o o' hl ho _ _=>⟨U,U,U,oe,λk hk _=>World.putObj_heap_other oa⟩) (Below.refl _ _) (λx=>by simp[hj x]) I
  (λc pre W=>match c with| .ret=>X .ret pre W| .exit i=>X (.exit i) pre W|_=>False) (Yt.own hI) (λc=>Yt.own λs=>?_) h0
  (λx T W=>∃E,Y8 n [] T E/\A f x E W) (λx T=>Yt.own λ_=>Yt.ex λE=>Yt.and (Yt.pure _) (hA x E)) ?_ ?_ ?_ ?_
 ·cases c <;> first|exact hX _ s|exact Yt.pure _
 ·intro l pre x W K hi hK;have hr:Y8 n [] { tmps:=(ps.toArray.zip (encs x).toArray).foldl (λt (p,v)=>t.setIfInBounds p v) a.tmps,defers:=[] } (QcV f ps (encs x)):=by
   have O:Y8 n [] { a with defers:=[] } f:=⟨J.size,U,J.get⟩
   have H:=UZ ps (encs x) _ _ O hp;have e:(ps.toArray.zip (encs x).toArray).foldl (λt (p,v)=>t.setIfInBounds p v) a.tmps=(ps.zip (encs x)).foldl (λt (x:Nat×O0)=>t.setIfInBounds x.1 x.2) a.tmps:=oe
   rw[e];exact H
  refine wpIn_mono (hc l pre x W hi _ hr) ?_;rintro e T W' ⟨hb,E,O,_,H⟩;cases e with
  | normal=>obtain⟨rfl,h4,G,h6⟩:=H;exact hK T W' (keep h4) h4.lw G ⟨E,O,h6⟩
  | exit id=>exact H.elim
  | goto l=>exact H.elim
  | ret=>exact H.elim
  | panic ch=>exact H.elim
  | outgrown=>exact H.elim
 ·rintro l pre x T W _ _ hi ⟨E,O,H⟩ hq;refine wpIn_mono (he l pre x E W hi H hq T O) ?_;rintro e hs W' ⟨hb,ht,h4,_,G⟩;cases e with
  | normal=>exact⟨keep G.1,G.1.lw,G.2⟩
  | exit id=>exact⟨keep G.1,G.2⟩
  | goto l=>exact G.elim
  | ret=>exact⟨keep G.1,G.2⟩
  | panic ch=>exact G.elim
  | outgrown=>exact G.elim
 ·intro D xs W hD V hi hd;exact⟨D::ds,f,⟨J.size,by rw[show coll (D::ds)={ target:=.collected D,args:=#[] }::coll ds from rfl,J.defers],J.get⟩,λ_ _=>rfl,hn D xs W hD V hi hd⟩
 intro D c pre W hD V hx hd;have hh:Y8 n (D::ds) { a with defers:={ target:=.collected D,args:=#[] }::a.defers } f:=⟨J.size,by rw[show coll (D::ds)={ target:=.collected D,args:=#[] }::coll ds from rfl,J.defers],J.get⟩
 cases c with
 | ret=>exact wpIn_ret ⟨_,f,hh,λ_ _=>U,hf D .ret pre W hD V hx hd (.inl U)⟩
 | exit i=>exact wpIn_exit ⟨_,f,hh,λ_ _=>U,hf D (.exit i) pre W hD V hx hd (.inr ⟨i,U⟩)⟩
 | _=>exact hx.elim
theorem jC {α:Type}(g:α->LV)(sz:Nat)(E:∀x,(g x).length=sz):∀(l:List α) (k:Nat),(l.flatMap g).take (k*sz)=(l.take k).flatMap g
 | [],k=>oe
 | e::l,0=>oe
 | e::l,k+1=>by
  simp only[Om,List.take_succ_cons,Oo,Nat.one_mul];rw[Na,OH,E,show sz+k*sz - sz=k*sz by omega,jC g sz E l k,Ls (by rw[E];omega)]
theorem Qew [Fu prog gf fn]{nms:List ByteArray}{s:ByteArray}(hk:J6 s)
  (hl:∀(w':OZ) (L:LN),O3 [] w w'->(∀b∈L,w.heap.size<=b)->SeqStopsK (fen none) 9 prog gf capt.toArray (λx:{ x:ByteArray // x∈nms }=>[Value.string x.1].toArray) (Lw w'.heap.size L) (λys=>ys.map (·.1)=nms) (λ_=>True) N w'):
  Q5 prog 90 [.string s,.func (.func gf) #[] capt.toArray] w λr w'=>r=oF oG (J1 nms s)/\O3 [] w w':=by
 refine Q5.of_G 10 func90 U ntmps90 results90 oe ?_;refine Zi<|QM ol ol ?_;refine Qa<|QS (us:=[.string s]) U λb2 w1 ho hs hh=>Qa<|Qo (us:=[oF oG 0]) U λJ w2 hi ht hf=>xe ?_;have Y:=ho.D hi;have hu:=hf.lt;have hj:=hh.I hi;have hv:=hh.lt;refine Zi<|Zi<|QM ol ol ?_;refine Y2 hj U U<|Qa<|xf<|(VB s hk _).mono ?_;rintro r3 w3 ⟨rfl,rfl⟩;refine x (Zz U)<|xe<|Uc rfl (λh8=>?_) (λh8=>?_)
 ·have hn:YX s=false:=by simpa using h8
  have hr:J1 nms s=7:=by unfold J1;rw[OS hn]
  refine Zi<|QM ol ol ?_;refine Qa<|QA (j:=0) (u:=oF oG 7) hf U U og U λw4 T ha=>xe ?_;refine Vl ⟨λ_ h=>(by cases h),MH,[oF oG 7],λW' O=>⟨⟨⟨_,rfl,Xg (At.one ((ha.I O).at (L:=[]) oe))⟩,Z⟩,by rw[hr];rfl,(Y.O T oa).D O⟩⟩
 have hn:¬YX s=false:=by simpa using h8
 refine YH<|Zi<|Zi<|QM ol ol ?_;refine Qb<|xe<|Z1<|Qkc (α:={ x:ByteArray // x∈nms }) (ps:=[10]) [J] oa (capt:=capt) U (encs:=λx=>[.string x.1]) oe (λ_=>rfl)
  (hl w3 [J] Y (λb G=>by simp at G;omega))
  (λpre W=>O3 [J] w3 W/\Q7 W.heap b2 9 [.string s]/\Q7 W.heap J 47 [oF oG 0]/\∀x∈pre,x.1≠s)
  (λpre=>(Yt.J (Lx _)).and (Yt.blk.and (Yt.blk.and (Yt.pure _))))
  (λe pre W=>e=.ret/\O3 [J] w3 W/\Q7 W.heap J 47 [oF oG 8]/\s∈nms)
  (λe pre=>(Yt.pure _).and ((Yt.J (Lx _)).and (Yt.blk.and (Yt.pure _))))
  ⟨O3.Z _ _,hj,hf,λx hx=>by cases hx⟩
  (λf x f' W=>f'=upd (QcV f [10] [.string x.1]) 5 (.string x.1)) (λx f'=>Yt.pure _) ?_ ?_ ?_ ?_
 ·rintro l pre x W ⟨H,h2,I,V⟩;refine QM ol ol ?_;refine Lg.Qc ?_;exact⟨U,KJ.refl _ _ _,⟨H,h2,I,V⟩,U⟩
 ·rintro l pre x f' W ⟨H,h2,I,V⟩ rfl _;refine Z1<|Zi<|QM ol ol ?_;refine Lg.Qb<|Lg.x (Qq h2 U U)<|Lg.x (Xv U U)<|xe<|QmA U (λhg=>?_) (λhg=>?_)
  ·refine Zi<|QM ol ol ?_;refine Qa<|QA (j:=0) (u:=oF oG 8) I U U og U λw4 T ha=>xe ?_;refine Vl ?_;exact⟨KJ.blk T H.size I (.inl oe),rfl,H.Q T,ha,by rw[<-hg];exact x.2⟩
  refine YH<|⟨KJ.refl _ _ _,H,h2,I,λy S=>?_⟩;rcases Lc.1 S with S|S
  ·exact V y S
  simp only[oI]at S;subst S;exact hg
 ·rintro D xs W hD hp ⟨H,h2,I,V⟩ hc;have hr:J1 nms s=0:=by
   unfold J1;rw[OR hn,OR];intro hm;rw[<-hp]at hm;obtain⟨y,S,e⟩:=LD.1 hm;exact V y S e
  refine Zi<|QM ol ol ?_;refine Qa<|QA (j:=0) (u:=oF oG 0) I U U og U λw4 T ha=>xe ?_;have he:D≠J:=oa
  have hq:w4.heap[D]?=some (.deferred (some [])):=by rw[T.block D (LH.1 hc).1 (oz he)];exact hc
  refine Vl ⟨λE hE=>by simp only[oI]at hE;subst hE;exact hq,oe,[oF oG 0],λW' O=>?_⟩;refine⟨⟨⟨_,U,Xg (At.one ((ha.J O (oz he.symm)).at (L:=[]) oe))⟩,Z⟩,by rw[hr];rfl,?_⟩;exact((Y.then H (λb G=>.inr (by simp at G;omega))).O T oa).then O (λb G=>.inr (by simp at G;have:=Y.size;omega))
 rintro D e pre W hD _ ⟨rfl,H,I,V⟩ hc _;have hr:J1 nms s=8:=by unfold J1;rw[OR hn,OS V]
 have he:D≠J:=oa
 refine⟨λE hE=>by simp only[oI]at hE;subst hE;exact hc,oe,[oF oG 8],λW' O=>?_⟩;refine⟨⟨⟨_,U,Xg (At.one ((I.J O (oz he.symm)).at (L:=[]) oe))⟩,Z⟩,by rw[hr];rfl,?_⟩;exact(Y.then H (λb G=>.inr (by simp at G;omega))).then O (λb G=>.inr (by simp at G;have:=Y.size;omega))
theorem JK.pre3 {m:Nat}{o1 o2 o3:Oper}{l2:xA}(h:XL P ops (λf w=>JK P m ops K l2 f w) [o1,o2,o3] f w):JK P m ops K (o1::o2::o3::l2) f w:=JK.pre [o1,o2,o3] f w h
theorem Qi2 {m:Nat}{qs:List XV}{nms:List ByteArray}(ho:Q7 w.heap b1 128 [vs,vx,vk])(hp:Q7 w.heap b2 3 [oF oG i])(Y:yD L w.heap vx qs)(hi:i<=qs.length)(hn:nms=(qs.take i).map (·.nm)):
  SeqStopsK (fen none) m prog 89 #[.pointer (some ⟨b1,0,none⟩),.pointer (some ⟨b2,0,none⟩)] (λx:{ x:ByteArray // x∈nms }=>[Value.string x.1].toArray) (Lw w.heap.size L)
   (λys=>ys.map (·.1)=nms) (λ_=>True) (nms.length+1) w:=by
 intro l J Jx W hr hJ hs hY h0;have ha:O3 [] w W:=O3.of_below hr;have ab:∀{ys:List { x:ByteArray // x∈nms }} {W1 W2:OZ},J ys W1->O3 [] W1 W2->J ys W2:=λ{ys W1 W2} hj H=>hJ ys W1 W2 none hj ⟨H.os,H.tape,H.output,H.size,λk I _=>H.block k I oe⟩ (λr e=>by cases e);have h8:=Y.arr.le;have h9:nms.length=i:=by rw[hn];simp;omega
 have key:Q5 prog 89 [.func (.yield l) #[] #[],.pointer (some ⟨b1,0,none⟩),.pointer (some ⟨b2,0,none⟩)] W (λ_ W'=>(∃ys,ys.map (·.1)=nms/\J ys W')\/(∃pre,True/\Jx pre W')):=by
  refine Q5.of_G m func89 U ntmps89 results89 oe ?_;have ht:=ho.I ha;have hu:=hp.I ha;refine Zi<|QM ol ol ?_;refine Qs U ht U U<|Y2 hu U U<|Qm7 Y.arr U U hi λv9 hg=>QL hg U<|Qb<|xe ?_;have hv:(qs.take i).length=i:=by simp;omega
  have hS:Zv L w.heap v9 (qs.take i).length 2 ((qs.take i).flatMap Q6):=by
   rw[hv,<-jC Q6 2 Xi];exact hg
  refine Z1<|qy (α:=Nat×List { x:ByteArray // x∈nms }) [(5,5),(11,20)] (λz=>[(11,oF oG z.1)]) (λz ds W'=>ds=[]/\z.1<=i/\O3 L w W'/\z.2.map (·.1)=nms.take z.1/\J z.2 W') (λz=>i - z.1) ol (0,[]) La
   ⟨U,Ln _,ha.any,U,h0⟩ ?_
  rintro⟨k,ys⟩ g ds w1 ⟨rfl,I,hh,O,hb⟩;simp only[]at I O hb;refine Zi<|QM ol ol ?_;refine QX U U<|xe<|Zi<|j5 U (λhl=>?_) (λhl=>?_)
  ·refine Vm ?_;rw[Ls oa]at O;exact⟨λ_ h=>(by cases h),MH,[],λW' E=>⟨Z,.inl ⟨ys,O,ab hb E⟩⟩⟩
  refine YH ?_;have hw:k<i:=by have hc:(k:Int)<(i:Int):=hl;omega
  have T:k<(qs.take i).length:=oa
  have V:k<nms.length:=oa
  have hf:nms.take (k+1)=nms.take k++[nms[k]'V]:=Ll V;have hA:ys.length=k:=by have:=OT oP O;rw[Lh,Ly]at this;omega
  have hy:nms[k]'V=((qs.take i)[k]'T).nm:=by subst hn;simp
  have S:=Lm V;rw[hy]at hf S;refine Zi<|Z1<|Zi<|QM ol ol ?_;refine O6 Xi (i:=k) (hS.st hh) U U T λhB hc=>?_;refine Zk ((qs.take i)[k]'T) λq hq=>?_;rw[hq]at hc hf S;have hz:=(Y.each q (LR (by rw[<-hq];exact Lm T))).one;refine x (Qv hc U U)<|Qa<|Qo (us:=[.string .empty,nS]) U λb5 w2 h2 h3 h4=>Qa<|Qj (us:=Q6 q) h4 U U U U ⟨U,hz,Z⟩ λw3 h5 h6=>xe ?_;have hm:O3 [] w1 w3:=h2.O h5 h3;refine Zi<|VC ol ?_;refine JK.pre3 ?_;refine Qb<|Qs U h6 U U<|xe<|xy (l:=l) U (hY ys ⟨q.nm,S⟩ w3 (ab hb hm) oa) λen W3 h7=>Or.elim h7 (λG=>⟨.bool true,G.1,?_⟩) (λG=>⟨.bool false,G.1,?_⟩)
  ·refine JK.of_XL<|x (Zz U)<|xe<|VD U<|YH ?_;refine QM ol ol ?_;refine QN U U<|Qb<|xe ?_;exact⟨(k+1,ys++[⟨q.nm,S⟩]),oh,La,U,hw,(hh.D hm).lw G.2.2,by rw[hf,Lp,O];rfl,G.2.1⟩
  refine JK.of_XL<|x (Zz U)<|xe<|QaX U ?_;refine Vl ⟨λ_ h=>(by cases h),MH,[],λW' E=>⟨Z,.inr ⟨ys++[⟨q.nm,S⟩],Z,?_⟩⟩⟩;exact hs _ W3 W' none G.2 ⟨E.os,E.tape,E.output,E.size,λk I _=>E.block k I oe⟩ (λr e=>by cases e)
 refine(callsIn_wide (n:=m)).2 ?_;have ea:(#[.func (.yield l) #[] #[]]++[.pointer (some ⟨b1,0,none⟩),.pointer (some ⟨b2,0,none⟩)].toArray:Array O0)=#[.func (.yield l) #[] #[],.pointer (some ⟨b1,0,none⟩),.pointer (some ⟨b2,0,none⟩)]:=oe
 rw[ea];unfold Q5 at key;refine Calls.mono key λe w' he=>?_;cases e with
 | returned v=>exact⟨⟨v,U⟩,he⟩
 | panicked c=>exact he.elim
 | outgrown=>exact he.elim
theorem Qjq {m:Nat}{qs:List KV}{nms:List ByteArray}(ho:Q7 w.heap b1 128 [vs,vx,vk])(hp:Q7 w.heap b2 3 [oF oG i])(Y:yz L w.heap vk qs)(hi:i<=qs.length)(hn:nms=(qs.take i).map (·.nm)):
  SeqStopsK (fen none) m prog 92 #[.pointer (some ⟨b1,0,none⟩),.pointer (some ⟨b2,0,none⟩)] (λx:{ x:ByteArray // x∈nms }=>[Value.string x.1].toArray) (Lw w.heap.size L)
   (λys=>ys.map (·.1)=nms) (λ_=>True) (nms.length+1) w:=by
 intro l J Jx W hr hJ hs hY h0;have ha:O3 [] w W:=O3.of_below hr;have ab:∀{ys:List { x:ByteArray // x∈nms }} {W1 W2:OZ},J ys W1->O3 [] W1 W2->J ys W2:=λ{ys W1 W2} hj H=>hJ ys W1 W2 none hj ⟨H.os,H.tape,H.output,H.size,λk I _=>H.block k I oe⟩ (λr e=>by cases e);have h8:=Y.arr.le;have h9:nms.length=i:=by rw[hn];simp;omega
 have key:Q5 prog 92 [.func (.yield l) #[] #[],.pointer (some ⟨b1,0,none⟩),.pointer (some ⟨b2,0,none⟩)] W (λ_ W'=>(∃ys,ys.map (·.1)=nms/\J ys W')\/(∃pre,True/\Jx pre W')):=by
  refine Q5.of_G m func92 U ntmps92 results92 oe ?_;have ht:=ho.I ha;have hu:=hp.I ha;refine Zi<|QM ol ol ?_;refine Qs U ht U U<|Y2 hu U U<|Qm7 Y.arr U U hi λv9 hg=>QL hg U<|Qb<|xe ?_;have hv:(qs.take i).length=i:=by simp;omega
  have hS:Zv L w.heap v9 (qs.take i).length 3 ((qs.take i).flatMap Zc):=by
   rw[hv,<-jC Zc 3 Xb];exact hg
  refine Z1<|qy (α:=Nat×List { x:ByteArray // x∈nms }) [(5,5),(11,20)] (λz=>[(11,oF oG z.1)]) (λz ds W'=>ds=[]/\z.1<=i/\O3 L w W'/\z.2.map (·.1)=nms.take z.1/\J z.2 W') (λz=>i - z.1) ol (0,[]) La
   ⟨U,Ln _,ha.any,U,h0⟩ ?_
  rintro⟨k,ys⟩ g ds w1 ⟨rfl,I,hh,O,hb⟩;simp only[]at I O hb;refine Zi<|QM ol ol ?_;refine QX U U<|xe<|Zi<|j5 U (λhl=>?_) (λhl=>?_)
  ·refine Vm ?_;rw[Ls oa]at O;exact⟨λ_ h=>(by cases h),MH,[],λW' E=>⟨Z,.inl ⟨ys,O,ab hb E⟩⟩⟩
  refine YH ?_;have hw:k<i:=by have hc:(k:Int)<(i:Int):=hl;omega
  have T:k<(qs.take i).length:=oa
  have V:k<nms.length:=oa
  have hf:nms.take (k+1)=nms.take k++[nms[k]'V]:=Ll V;have hA:ys.length=k:=by have:=OT oP O;rw[Lh,Ly]at this;omega
  have hy:nms[k]'V=((qs.take i)[k]'T).nm:=by subst hn;simp
  have S:=Lm V;rw[hy]at hf S;refine Zi<|Z1<|Zi<|QM ol ol ?_;refine O6 Xb (i:=k) (hS.st hh) U U T λhB hc=>?_;refine Zk ((qs.take i)[k]'T) λq hq=>?_;rw[hq]at hc hf S;have hz:=(Y.each q (LR (by rw[<-hq];exact Lm T))).one;refine x (Qv hc U U)<|Qa<|Qo (us:=[.string .empty,nS,oF oG 0]) U λb5 w2 h2 h3 h4=>Qa<|Qj (us:=Zc q) h4 U U U U ⟨U,hz,U,Z⟩ λw3 h5 h6=>xe ?_;have hm:O3 [] w1 w3:=h2.O h5 h3;refine Zi<|VC ol ?_;refine JK.pre3 ?_;refine Qb<|Qs U h6 U U<|xe<|xy (l:=l) U (hY ys ⟨q.nm,S⟩ w3 (ab hb hm) oa) λen W3 h7=>Or.elim h7 (λG=>⟨.bool true,G.1,?_⟩) (λG=>⟨.bool false,G.1,?_⟩)
  ·refine JK.of_XL<|x (Zz U)<|xe<|VD U<|YH ?_;refine QM ol ol ?_;refine QN U U<|Qb<|xe ?_;exact⟨(k+1,ys++[⟨q.nm,S⟩]),oh,La,U,hw,(hh.D hm).lw G.2.2,by rw[hf,Lp,O];rfl,G.2.1⟩
  refine JK.of_XL<|x (Zz U)<|xe<|QaX U ?_;refine Vl ⟨λ_ h=>(by cases h),MH,[],λW' E=>⟨Z,.inr ⟨ys++[⟨q.nm,S⟩],Z,?_⟩⟩⟩;exact hs _ W3 W' none G.2 ⟨E.os,E.tape,E.output,E.size,λk I _=>E.block k I oe⟩ (λr e=>by cases e)
 refine(callsIn_wide (n:=m)).2 ?_;have ea:(#[.func (.yield l) #[] #[]]++[.pointer (some ⟨b1,0,none⟩),.pointer (some ⟨b2,0,none⟩)].toArray:Array O0)=#[.func (.yield l) #[] #[],.pointer (some ⟨b1,0,none⟩),.pointer (some ⟨b2,0,none⟩)]:=oe
 rw[ea];unfold Q5 at key;refine Calls.mono key λe w' he=>?_;cases e with
 | returned v=>exact⟨⟨v,U⟩,he⟩
 | panicked c=>exact he.elim
 | outgrown=>exact he.elim
theorem yg {sz:LI}{qx:List XV}{ks:List KV}(hS:QQ [] w.heap vs sz)(hX:yD [] w.heap vx qx)(hK:yz [] w.heap vk ks):
  Q5 prog 37 [.agg #[vs,vx,vk]] w λr w'=>r=oF oG (Yy sz (qx.map (·.x)) (ks.map (·.k)))/\O3 [] w w':=by
 have hW:=hS.le;have hY:=hX.arr.le;have hZ:=hK.arr.le;refine Zs func37 ntmps37 results37 ?_;refine Qe<|Qa<|QS (us:=[vs,vx,vk]) U λb1 w1 G ga T=>Qc<|Qd<|Qe<|Qs U T U U<|QL (hS.I G) U<|x (ZZ U U)<|xe<|QZ rfl (λh0=>?_) (λh0=>?_)
 ·refine Qe<|Qc ?_;exact Ql ⟨[_],La,by unfold Yy;rw[OS (by have hO:(8:Int)<(sz.length:Int):=h0;omega)];rfl,G⟩
 have hy:¬8<sz.length:=by have hO:¬(8:Int)<(sz.length:Int):=h0;omega
 refine Qh<|Qd<|Qe<|Qs U T U U<|QL (hS.I G) U<|Qb<|xe<|Qg<|QC (α:=Nat) [(2,2),(4,4),(22,32)] (λz=>[(22,oF oG z)]) (λz w'=>z<=sz.length/\w'=w1/\(sz.drop z).any KN=sz.any KN) (λz=>sz.length - z) ol 0 La
  ⟨Ln _,U,U⟩ ?_
 rintro k g w2 ⟨hk,rfl,ha⟩;refine Qe<|QX U U<|xe<|Qd<|QG U (λh1=>?_) (λh1=>?_)
 ·refine Qx ?_;have hj:sz.length<=k:=by have hz:¬(k:Int)<(sz.length:Int):=h1;omega
  rw[Lr hj]at ha;have h2:¬sz.any KN=true:=by rw[<-ha];decide
  refine Qd<|Q3 (α:=Bool) [(33,42)] (λz=>[(42,.bool z)]) (λz w'=>w'=w2/\z=decide (32<qx.length\/32<ks.length)) ol ?_ ?_
  ·refine Qw<|Qs U T U U<|QL (hX.I G).arr U<|xb (ZZ U U) (λhP=>?_) (λhP=>?_)
   ·refine Qb<|Qr<|Qr<|Qr<|Qr<|QK U<|xe ?_;exact⟨_,La,U,by first|exact bT oa|exact bF oa|exact bD oa⟩
   refine Qb<|Qs U T U U<|QL (hK.I G).arr U<|x (ZZ U U)<|QK U<|xe ?_;exact⟨_,La,U,by first|exact bT oa|exact bF oa|exact bD oa⟩
  rintro z g V ⟨rfl,rfl⟩;refine QZ U (λh3=>?_) (λh3=>?_)
  ·refine Qe<|Qc ?_;exact Ql ⟨[_],La,by unfold Yy;rw[OR hy,OR h2,OS (oz h3)];rfl,G⟩
  have hJ:¬(32<(qx.map (·.x)).length\/32<(ks.map (·.k)).length):=by simpa using h3
  have hM:Yq sz [] (qx.map (·.x))≠0->Yy sz (qx.map (·.x)) (ks.map (·.k))=Yq sz [] (qx.map (·.x)):=λh=>by
   unfold Yy;rw[OR hy,OR h2,OR hJ,OS h]
  have hQ:Yq sz [] (qx.map (·.x))=0->Yy sz (qx.map (·.x)) (ks.map (·.k))=Y0 sz [] (ks.map (·.k)):=λh=>by
   unfold Yy;rw[OR hy,OR h2,OR hJ,OR (by rw[h];exact λh=>h U)]
  refine Qh<|Qd<|Qe<|Qs U (T.I (O3.Z [] V)) U U<|QL ((hX.I G).I (O3.Z [] V)).arr U<|Qb<|xe<|Qg<|QC (α:=Nat) [(2,2),(5,9),(46,65)] (λz=>[(46,oF oG z)]) (λz w'=>z<=qx.length/\O3 [] V w'/\Yq sz ((qx.take z).map (·.nm)) ((qx.drop z).map (·.x))=Yq sz [] (qx.map (·.x))) (λz=>qx.length - z) ol 0 La
   ⟨Ln _,(O3.Z [] V),U⟩ ?_
  rintro k g wA ⟨hk,H,I⟩;refine Qe<|QX U U<|xe<|Qd<|QG U (λhc=>?_) (λhc=>?_)
  ·refine Qx ?_;have hj:qx.length<=k:=by have h4:¬(k:Int)<(qx.length:Int):=hc;omega
   rw[Lr hj]at I;have hR:Yq sz [] (qx.map (·.x))=0:=I.symm;have h5:=hQ hR;refine Qd<|Qe<|Qs U (T.I H) U U<|QL ((hK.I G).I H).arr U<|Qb<|xe<|Qg<|QC (α:=Nat) [(2,2),(10,14),(69,88)] (λz=>[(69,oF oG z)]) (λz w'=>z<=ks.length/\O3 [] V w'/\Y0 sz ((ks.take z).map (·.nm)) ((ks.drop z).map (·.k))=Y0 sz [] (ks.map (·.k))) (λz=>ks.length - z) ol 0 La
    ⟨Ln _,H,U⟩ ?_
   rintro k g wA ⟨hk,H,I⟩;refine Qe<|QX U U<|xe<|Qd<|QG U (λhc=>?_) (λhc=>?_)
   ·refine Qx ?_;have hj:ks.length<=k:=by have h4:¬(k:Int)<(ks.length:Int):=hc;omega
    rw[Lr hj]at I;have hT:Y0 sz [] (ks.map (·.k))=0:=I.symm;refine Qe<|Qc ?_;exact Ql ⟨[_],La,by rw[h5,hT];rfl,G.D H⟩
   have E:k<ks.length:=by have h4:(k:Int)<(ks.length:Int):=hc;omega
   have hl:(ks.take (k+1)).map (·.nm)=(ks.take k).map (·.nm)++[(ks[k]'E).nm]:=by rw[Ll E,Lp];rfl
   rw[Zf E,LG]at I;have he:=Lm E;have J:=(hK.I G).I H;have h6:=T.I H;refine Qh<|Qd<|Qg<|Qm<|O6 Xb J.arr U U E λaA hA=>?_;refine Zk (ks[k]'E) λq hq=>?_;rw[hq]at hA I hl he;have hm:=J.each q he;refine x (Qv hA U U)<|Qa<|Qo (us:=[oF oG 0]) U λb5 V ho h7 hf=>Qa<|Qo (us:=[.string .empty,nS,oF oG 0]) U λb6 w4 hp hU h8 =>
    Qa<|QA (j:=0) (u:=oF oG k) (hf.I hp) U U og U λw5 hr h9=>Qa<|Qj (us:=Zc q) (h8.J hr (by have:=hf.lt;simp;omega)) U U U U ⟨U,hm.one,U,Z⟩ λw6 hs ht=>xe ?_
   have hV:b5<b6:=by have:=hf.lt;omega
   have hg:O3 [] wA w6:=((ho.D hp).O hr h7).O hs (ou ho.size);have hB:Q7 w6.heap b5 3 [oF oG k]:=h9.J hs (by simp;omega);have hu:=h6.I hg;have hC:=J.I hg;refine Qe<|x ZC<|Qc<|Qd<|Qe<|Qs U ht U U<|Qb<|Qa<|xf<|(Qew (nms:=(ks.take k).map (·.nm)) (capt:=[.pointer (some ⟨b1,0,none⟩),.pointer (some ⟨b5,0,none⟩)]) (J.nm q he) (λw' L hh hL=>Qjq (hu.I hh) (hB.I hh) ((hC.up (λb hb=>.inr (hL b hb))).I hh) hk U)).mono ?_;rintro r7 w7 ⟨rfl,hi⟩;refine Qc ?_;have O:=hg.D hi;refine Qm<|ZA U U<|xe<|QZ U (λY=>?_) (λY=>?_)
   ·have e1:Y0 sz [] (ks.map (·.k))=J1 ((ks.take k).map (·.nm)) q.nm:=by rw[<-I];exact OS Y
    refine Qm<|Qc ?_;exact Ql ⟨[_],La,by rw[h5,e1];rfl,G.D (H.D O)⟩
   have hv:(if Xp sz q.k≠0 then Xp sz q.k else Y0 sz ((ks.take k).map (·.nm)++[q.nm]) ((ks.drop (k+1)).map (·.k)))=Y0 sz [] (ks.map (·.k)):=by rw[<-I];exact(OR Y).symm
   refine Qh ?_;have hD:=hu.I hi;have hE:=ht.I hi;refine Qe<|Q2 hD U U<|Q2 hE U U<|Qa<|xf<|(V8 (((hS.I G).I H).I O) (hm.I O)).mono ?_;rintro r8 w8 ⟨rfl,hF⟩;refine Qc ?_;have hw:=O.D hF;refine Qm<|ZA U U<|xe<|QZ U (λS=>?_) (λS=>?_)
   ·have e1:Y0 sz [] (ks.map (·.k))=Xp sz q.k:=by rw[<-hv];exact OS S
    have hN:Xp sz q.k≠0:=S;refine Qm<|Qc ?_;exact Ql ⟨[_],La,by rw[h5,e1];rfl,G.D (H.D hw)⟩
   have hG:Y0 sz ((ks.take k).map (·.nm)++[q.nm]) ((ks.drop (k+1)).map (·.k))=Y0 sz [] (ks.map (·.k)):=by rw[<-hv];exact(OR S).symm
   refine Qh<|Qw<|QN U U<|Qb<|xe ?_;exact⟨k+1,oa,La,E,H.D hw,by rw[hl];exact hG⟩
  have E:k<qx.length:=by have h4:(k:Int)<(qx.length:Int):=hc;omega
  have hl:(qx.take (k+1)).map (·.nm)=(qx.take k).map (·.nm)++[(qx[k]'E).nm]:=by rw[Ll E,Lp];rfl
  rw[Zf E,LG]at I;have he:=Lm E;have J:=(hX.I G).I H;have h6:=T.I H;refine Qh<|Qd<|Qg<|Qm<|O6 Xi J.arr U U E λaA hA=>?_;refine Zk (qx[k]'E) λq hq=>?_;rw[hq]at hA I hl he;have hm:=J.each q he;refine x (Qv hA U U)<|Qa<|Qo (us:=[oF oG 0]) U λb5 V ho h7 hf=>Qa<|Qo (us:=[.string .empty,nS]) U λb6 w4 hp hU h8 =>
   Qa<|QA (j:=0) (u:=oF oG k) (hf.I hp) U U og U λw5 hr h9=>Qa<|Qj (us:=Q6 q) (h8.J hr (by have:=hf.lt;simp;omega)) U U U U ⟨U,hm.one,Z⟩ λw6 hs ht=>xe ?_
  have hV:b5<b6:=by have:=hf.lt;omega
  have hg:O3 [] wA w6:=((ho.D hp).O hr h7).O hs (ou ho.size);have hB:Q7 w6.heap b5 3 [oF oG k]:=h9.J hs (by simp;omega);have hu:=h6.I hg;have hC:=J.I hg;refine Qe<|x ZC<|Qc<|Qd<|Qe<|Qs U ht U U<|Qb<|Qa<|xf<|(Qew (nms:=(qx.take k).map (·.nm)) (capt:=[.pointer (some ⟨b1,0,none⟩),.pointer (some ⟨b5,0,none⟩)]) (J.nm q he) (λw' L hh hL=>Qi2 (hu.I hh) (hB.I hh) ((hC.up (λb hb=>.inr (hL b hb))).I hh) hk U)).mono ?_;rintro r7 w7 ⟨rfl,hi⟩;refine Qc ?_;have O:=hg.D hi;refine Qm<|ZA U U<|xe<|QZ U (λY=>?_) (λY=>?_)
  ·have e1:Yq sz [] (qx.map (·.x))=J1 ((qx.take k).map (·.nm)) q.nm:=by rw[<-I];exact OS Y
   refine Qm<|Qc ?_;exact Ql ⟨[_],La,by rw[hM (by rw[e1];exact Y),e1];rfl,G.D (H.D O)⟩
  have hv:(if Jf sz q.ls≠0 then Jf sz q.ls else Yq sz ((qx.take k).map (·.nm)++[q.nm]) ((qx.drop (k+1)).map (·.x)))=Yq sz [] (qx.map (·.x)):=by rw[<-I];exact(OR Y).symm
  refine Qh ?_;have hD:=hu.I hi;have hE:=ht.I hi;refine Qe<|Q2 hD U U<|Q2 hE U U<|Qa<|xf<|(UK (((hS.I G).I H).I O) (hm.I O)).mono ?_;rintro r8 w8 ⟨rfl,hF⟩;refine Qc ?_;have hw:=O.D hF;refine Qm<|ZA U U<|xe<|QZ U (λS=>?_) (λS=>?_)
  ·have e1:Yq sz [] (qx.map (·.x))=Jf sz q.ls:=by rw[<-hv];exact OS S
   have hN:Jf sz q.ls≠0:=S;refine Qm<|Qc ?_;exact Ql ⟨[_],La,by rw[hM (by rw[e1];exact hN),e1];rfl,G.D (H.D hw)⟩
  have hG:Yq sz ((qx.take k).map (·.nm)++[q.nm]) ((qx.drop (k+1)).map (·.x))=Yq sz [] (qx.map (·.x)):=by rw[<-hv];exact(OR S).symm
  refine Qh<|Qw<|QN U U<|Qb<|xe ?_;exact⟨k+1,oa,La,E,H.D hw,by rw[hl];exact hG⟩
 have E:k<sz.length:=by have hz:(k:Int)<(sz.length:Int):=h1;omega
 rw[Zf E,List.any_cons]at ha;refine Qh<|Qd<|Qg<|Qe<|xii (hS.I G) U U E λgb hz=>?_;refine Zk (sz[k]'E) λn hn=>?_;rw[hn]at hz ha;refine x (QD hz U)<|Qc<|Q3 (α:=Bool) [(26,31)] (λz=>[(31,.bool z)]) (λz w'=>w'=w2/\z=KN n) ol ?_ ?_
 ·refine Qw<|Qb<|xb (YJ U U) (λhH=>?_) (λhH=>?_)
  ·refine Qb<|Qr<|Qr<|QK U<|xe ?_;exact⟨_,La,U,by unfold KN;rw[OV hH];rfl⟩
  refine Qb<|Qb<|x (ZZ U U)<|QK U<|xe ?_;exact⟨_,La,U,by unfold KN;rw[OX hH];rfl⟩
 rintro z g V ⟨rfl,rfl⟩;refine QW rfl (λhI=>?_) (λhI=>?_)
 ·refine Qe<|Qc ?_;exact Ql ⟨[_],La,by unfold Yy;rw[OR hy,OS (by rw[<-ha,hI];rfl)];rfl,G⟩
 rw[hI,Bool.false_or]at ha;refine Qh<|Qw<|QN U U<|Qb<|xe ?_;exact⟨k+1,oa,La,E,U,ha⟩
theorem Yg (q:α->Bool)(i:Nat)(a:α)(l:List α):fix q i (a::l)=if q a=true then(i:Int)else fix q (i+1) l:=rfl
theorem Qdw {α:Type}(q:α->Bool):∀(l:List α) (i:Nat),fix q i l=-1\/((i:Int)<=fix q i l/\fix q i l<(i:Int)+l.length)
 | [],i=>.inl U
 | a::l,i=>by
  rw[Yg];split
  ·right;simp only[oV];omega
  rcases Qdw q l (i+1)with h|h
  ·exact .inl h
  right;simp only[oV];omega
theorem QaL {α:Type}(q:α->Bool):∀(l:List α) (i:Nat),decide (0<=fix q i l)=l.any q
 | [],i=>rfl
 | a::l,i=>by
  rw[Yg,List.any_cons];cases h:q a with
  | true=>rw[OS rfl];simp
  | false=>rw[OR og,QaL q l (i+1)];rfl
theorem yd {α:Type}(q:α->Bool)(m:List α):∀(l:List α) (i:Nat),fix q i (l++m)=if 0<=fix q i l then fix q i l else fix q (i+l.length) m
 | [],i=>by
  show fix q i m=if(0:Int)<=-1 then(-1)else fix q i m
  rw[OR og]
 | a::l,i=>by
  rw[Mj,Yg,Yg];by_cases h:q a=true
  ·rw[OS h,OS h,OS oa]
  rw[OR h,OR h,yd q m l (i+1),LQ];rw[show i+1+l.length=i+(l.length+1) by omega]
theorem jE {α:Type}(q:α->Bool)(d:Nat):∀(l:List α) (i:Nat),fix q (i+d) l=if 0<=fix q i l then fix q i l+d else -1
 | [],i=>rfl
 | a::l,i=>by
  rw[Yg,Yg];by_cases h:q a=true
  ·rw[OS h,OS h,OS oa];omega
  rw[OR h,OR h,show i+d+1=(i+1)+d by omega,jE q d l (i+1)]
theorem Vs {α β:Type}(q:β->Bool)(g:α->β):∀(l:List α) (i:Nat),fix q i (l.map g)=fix (λa=>q (g a)) i l
 | [],i=>rfl
 | a::l,i=>by rw[LG,Yg,Yg,Vs q g l (i+1)]
theorem Qgh {α:Type}{q E:α->Bool}:∀{l:List α}{i:Nat},(∀a∈l,q a=E a)->fix q i l=fix E i l
 | [],i,_=>rfl
 | a::l,i,h=>by rw[Yg,Yg,h a Lt,Qgh (λb G=>h b (Lk _ G))]
theorem Qn1 [Fu prog gp fn]{cap:LV}{q:(Int×Int)->Bool}{v:O0}{l:xt}(h:Zv L w.heap v l.length 2 (l.flatMap QI))
  (Y:∀e∈l,∀(G:OZ),O3 [] w G->Q5 prog gp ([.agg (QI e).toArray]++cap) G λr w'=>r=.bool (q e)/\O3 [] G w'):
  Q5 prog 316 [v,.func (.func gp) #[] cap.toArray] w λr w'=>r=oF oG (fix q 0 l)/\O3 [] w w':=by
 have hc:=h.le;refine Zs func316 ntmps316 results316 ?_;refine Qe<|Qc<|Qd<|Qm<|QL h U<|Qb<|xe<|Qg<|QC (α:=Nat) [(4,5),(8,18)] (λz=>[(8,oF oG z)]) (λz w'=>z<=l.length/\O3 [] w w'/\fix q z (l.drop z)=fix q 0 l) (λz=>l.length - z) ol 0 La
  ⟨Ln _,O3.Z _ _,U⟩ ?_
 rintro k g G ⟨hk1,H,E⟩;refine Qe<|QX U U<|xe<|Qd<|QG U (λJ=>?_) (λJ=>?_)
 ·refine Qx ?_;have ha:l.length<=k:=by have hb:¬(k:Int)<(l.length:Int):=J;omega
  rw[Lr ha]at E;refine Qe<|Qc ?_;exact Ql ⟨[_],La,by rw[<-E];rfl,H⟩
 have I:k<l.length:=by have hb:(k:Int)<(l.length:Int):=J;omega
 rw[Zf I,Yg]at E;have S:=Lm I;refine Qh<|Qd<|Qg<|Qm<|Qc<|Qm<|Qb<|Qb<|O6 Yv (h.I H) U U I λhf T=>?_;refine Zk (l[k]'I) λe he=>?_;rw[he]at T E S;refine x (Qv T U U)<|Qa<|xc (first:=[]) (capt:=cap) U<|(Y e S G H).mono ?_;rintro r2 w2 ⟨rfl,V⟩;refine xe<|QW rfl (λO=>?_) (λO=>?_)
 ·rw[OS O]at E;refine Qm<|Qc ?_;exact Ql ⟨[_],La,by rw[<-E];rfl,H.D V⟩
 rw[OR (by rw[O];decide)]at E;refine Qh<|Qw<|QN U U<|Qb<|xe ?_;exact⟨k+1,oa,La,I,H.D V,E⟩
theorem Qoz [Fu prog gp fn]{cap:LV}{q:(Int×Int)->Bool}{v:O0}{l:xt}(h:Zv L w.heap v l.length 2 (l.flatMap QI))
  (G:∀e∈l,∀(E:OZ),O3 [] w E->Q5 prog gp ([.agg (QI e).toArray]++cap) E λr w'=>r=.bool (q e)/\O3 [] E w'):
  Q5 prog 292 [v,.func (.func gp) #[] cap.toArray] w λr w'=>r=.bool (l.any q)/\O3 [] w w':=by
 refine Zs func292 ntmps292 results292 ?_;refine Qe<|Qc<|Qm<|Qb<|Qa<|xf<|(Qn1 h G).mono ?_;rintro I E ⟨rfl,H⟩;refine x (Yl U U)<|Qc ?_;exact Ql ⟨[_],La,OT Value.bool (QaL q l 0),H⟩
theorem V6 (sz:LI):∀(ls:xt) (pr:Option Int),XJ sz pr ls=0->(∀p∈ls,0<=p.1/\p.1<(sz.length:Int))/\Y1 (ls.map (·.1))/\∀y,pr=some y->∀p∈ls,y<p.1
 | [],pr,_=>⟨λp E=>(by cases E),List.Pairwise.nil,λy _ p E=>(by cases E)⟩
 | l::ls,pr,h=>by
  unfold XJ at h;split at h
  ·cases h
  rename_i T;split at h
  ·cases h
  rename_i H;split at h
  ·cases h
  obtain⟨I,J,O⟩:=V6 sz ls (some l.1) h;have G:=O l.1 U;refine⟨λp E=>?_,L3.2 ⟨λx hx=>?_,J⟩,λy S p E=>?_⟩
  ·rcases Li.1 E with rfl|E
   ·omega
   exact I p E
  ·obtain⟨p,E,rfl⟩:=LD.1 hx;exact G p E
  subst S;have V:¬l.1<=y:=λe=>H (OV e);rcases Li.1 E with rfl|E
  ·omega
  have:=G p E;omega
theorem V4 (sz:LI):∀(ls:xt) (pr:Option Int),JW sz pr ls=0->(∀p∈ls,0<=p.1/\p.1<(sz.length:Int)/\-65536<=p.2/\p.2<=65536)/\Y1 (ls.map (·.1))/\∀y,pr=some y->∀p∈ls,y<p.1
 | [],pr,_=>⟨λp E=>(by cases E),List.Pairwise.nil,λy _ p E=>(by cases E)⟩
 | l::ls,pr,h=>by
  unfold JW at h;split at h
  ·cases h
  rename_i h1;split at h
  ·cases h
  rename_i I;split at h
  ·cases h
  rename_i J;obtain⟨O,S,T⟩:=V4 sz ls (some l.1) h;have G:=T l.1 U;have H:grt l.2=false:=by cases V:grt l.2 with|true=>exact OU (.inr V) J|false=>rfl
  unfold grt at H;simp only[Of,decide_eq_false_iff_not]at H;refine⟨λp E=>?_,L3.2 ⟨λx hx=>?_,S⟩,λy Y p E=>?_⟩
  ·rcases Li.1 E with rfl|E
   ·omega
   exact O p E
  ·obtain⟨p,E,rfl⟩:=LD.1 hx;exact G p E
  subst Y;have h8:¬l.1<=y:=λe=>I (OV e);rcases Li.1 E with rfl|E
  ·omega
  have:=G p E;omega
theorem Vg (sz:LI):∀(l:List qz) (sn:List ByteArray),Yq sz sn l=0->∀x∈l,Jf sz x.ls=0
 | [],_,_,x,hx=>by cases hx
 | a::l,sn,h,x,hx=>by
  unfold Yq at h;split at h
  ·rename_i E;exact OU h E
  split at h
  ·rename_i E;exact OU h E
  rename_i E;rcases Li.1 hx with rfl|hx
  ·exact Lo.1 E
  exact Vg sz l _ h x hx
theorem Vh (sz:LI):∀(l:List xI) (sn:List ByteArray),Y0 sz sn l=0->∀x∈l,Xp sz x=0
 | [],_,_,x,hx=>by cases hx
 | a::l,sn,h,x,hx=>by
  unfold Y0 at h;split at h
  ·rename_i E;exact OU h E
  split at h
  ·rename_i E;exact OU h E
  rename_i E;rcases Li.1 hx with rfl|hx
  ·exact Lo.1 E
  exact Vh sz l _ h x hx
structure Qq0 (sz:LI)(ex:List qz)(cs:List xI):Prop where
 s8:sz.length<=8
 s:∀n∈sz,1<=n/\n<=4096
 xl:ex.length<=32
 kl:cs.length<=32
 x:∀e∈ex,∀p∈e.ls,0<=p.1/\p.1<(sz.length:Int)
 k:∀e∈cs,(∀p∈e.ts,0<=p.1/\p.1<(sz.length:Int)/\-65536<=p.2/\p.2<=65536)/\e.ts.length<=8
theorem Vi {sz:LI}{ex:List qz}{cs:List xI}(h:Yy sz ex cs=0):Qq0 sz ex cs:=by
 unfold Yy at h;split at h
 ·cases h
 rename_i h8;split at h
 ·cases h
 rename_i O;split at h
 ·cases h
 rename_i ha;split at h
 ·rename_i hx;exact OU h hx
 rename_i hx;have S:=Lo.1 hx;refine⟨oa,λn T=>?_,oa,oa,λe H p G=>?_,λe H=>?_⟩
 ·have E:KN n=false:=by
   cases V:KN n with
   | false=>rfl
   | true=>exact OU (Nm.2 ⟨n,T,V⟩) O
  unfold KN at E;simp only[Of,decide_eq_false_iff_not]at E;omega
 ·have E:=Vg sz ex [] S e H;unfold Jf at E;split at E
  ·cases E
  exact(V6 sz e.ls none E).1 p G
 have E:=Vh sz cs [] h e H;unfold Xp at E;split at E
 ·cases E
 split at E
 ·rename_i I;exact OU E I
 rename_i I;obtain⟨J,Y,_⟩:=V4 sz e.ts none (Lo.1 I);refine⟨J,?_⟩;have:=xE sz.length (e.ts.map (·.1)) (List.Pairwise.imp (λ{a b} (h:a<b)=>(by omega:a≠b)) Y) (λx hx=>by
  obtain⟨p,G,rfl⟩:=LD.1 hx;exact⟨(J p G).1,(J p G).2.1⟩)
 rw[Lh]at this;omega
def Qmw (sz t:LI):Prop:=t.length=sz.length/\∀i,i<t.length->0<=O4 t i/\O4 t i<O4 sz i
theorem QfB (t:LI)(p:Int×Int)(l:xt)(s:Int):(l++[p]).foldl (λs p=>s+p.2*t.getD p.1.toNat 0) s=l.foldl (λs p=>s+p.2*t.getD p.1.toNat 0) s+p.2*O4 t p.1.toNat:=by
 rw[Mz];rfl
theorem Qha {nm:ByteArray}{ts:xt}{bd:Int}{t:LI}(hl:yT [] w.heap vl ts)(ht:QQ [] w.heap vt t)
  (hg:∀p∈ts,0<=p.1/\p.1<(t.length:Int)/\-65536<=p.2/\p.2<=65536) (h8:ts.length<=8) (hh:∀i,i<t.length->0<=O4 t i/\O4 t i<=4096):
  Q5 prog 295 [.agg #[.string nm,vl,oF oG bd],vt] w λr w'=>r=oF oG (Qo9 t ⟨nm,ts,bd⟩)/\O3 [] w w':=by
 refine Zs func295 ntmps295 results295 ?_;refine Qe<|Qa<|QS (us:=[.string nm,vl,oF oG bd]) U λb2 w1 V hv hi=>Qc<|Qe<|Qc<|Qd<|Qe<|Qs U hi U U<|QL (hl.I V) U<|Qb<|xe<|Qg<|QC (α:=Nat×Int) [(5,5),(7,7),(11,25)] (λz=>[(5,oF oG z.2),(11,oF oG z.1)]) (λz w'=>z.1<=ts.length/\O3 [] w w'/\z.2=(ts.take z.1).foldl (λs p=>s+p.2*t.getD p.1.toNat 0) 0/\-(268435456*(z.1:Int))<=z.2/\z.2<=268435456*(z.1:Int)) (λz=>ts.length - z.1) ol (0,0) oA
  ⟨Ln _,V,U,oh,oh⟩ ?_
 rintro⟨k,s⟩ g w2 ⟨hk,O,H,hj,hm⟩;simp only[]at hk H hj hm;refine Qe<|QX U U<|xe<|Qd<|QG U (λS=>?_) (λS=>?_)
 ·refine Qx ?_;have hn:ts.length<=k:=by have I:¬(k:Int)<(ts.length:Int):=S;omega
  rw[Ls hn]at H;refine Qm<|Qc ?_;exact Ql ⟨[_],La,by rw[H];rfl,O⟩
 have E:k<ts.length:=by have I:(k:Int)<(ts.length:Int):=S;omega
 have T:=hg _ (Lm E);have Y:ts.take (k+1)=ts.take k++[ts[k]'E]:=Ll E;refine Qh<|Qd<|Qg<|Qe<|O6 Yv (hl.I O) U U E λhw I=>?_;refine Zk (ts[k]'E) λe he=>?_;rw[he]at I T Y;refine x (Qv I U U)<|Qa<|Qo (us:=[oF oG 0,oF oG 0]) U λb7 w3 ho hp J=>Qa<|Qj (us:=QI e) J U U U U oA λw4 hq J=>xe ?_;have hr:O3 [] w2 w4:=ho.O hq hp;have ha:=O.D hr;have hs:e.1=((e.1.toNat:Nat):Int):=oa
 have hb:e.1.toNat<t.length:=oa
 have hf:=hh _ hb;have hy:-268435456<=e.2*O4 t e.1.toNat/\e.2*O4 t e.1.toNat<=268435456:=by
  have h1:(-65536)*O4 t e.1.toNat<=e.2*O4 t e.1.toNat:=Int.mul_le_mul_of_nonneg_right T.2.2.1 hf.1;have h2:e.2*O4 t e.1.toNat<=65536*O4 t e.1.toNat:=Int.mul_le_mul_of_nonneg_right T.2.2.2 hf.1;omega
 refine Zk (e.2*O4 t e.1.toNat) λpr hz=>?_;refine QR (O3 [] w4) [oD 0,oD 1,oD 2,oD 3,oD 4,oD 5,oD 6,oD 7,oD 8,oD 9,oD 10] mixed ol od (O3.C _ _) ?_;refine p Qy<|p (QP U)<|pq (λ_ G=>Qq (J.I G) U U)<|p Qy<|p (QP U) <|
  pq (λ_ G=>Qq (J.I G) U U)<|pic (i:=e.1.toNat) U (ht.I ha) U (OT (Value.int .i64) hs) hb λh0 hu=>pq (λ_ G=>QD (hu.I G) U) <|
  p (λ_=>QhM U U ⟨oa,oa⟩)<|p (λ_=>XI U U ⟨oa,oa⟩)<|p ZH<|pe ?_
 refine Qw<|QN U U<|Qb<|xe<|⟨(k+1,s+e.2*O4 t e.1.toNat),oh,oA,E,ha.D (O3.C _ _),?_,oh,oh⟩;simp only[];rw[Y,QfB,<-H]
theorem Qi1 {bt:Nat}{t:LI}(I:Q7 w.heap bt 56 [vt])(J:QQ [] w.heap vt t)(e:Int×Int)(Y:0<=e.1/\e.1<(t.length:Int)):
  Q5 prog 293 ([.agg (QI e).toArray]++[.pointer (some ⟨bt,0,none⟩)]) w λr w'=>r=.bool (!decide (t.getD e.1.toNat 0=e.2))/\O3 [] w w':=by
 refine Zs func293 ntmps293 results293 ?_;refine Qe<|Qa<|QS (us:=QI e) U λb2 O G ha H=>Qc ?_;have S:e.1=((e.1.toNat:Nat):Int):=oa
 have T:e.1.toNat<t.length:=oa
 refine Qd<|QR (O3 [] O) [oD 0,oD 1,oD 2,oD 3,oD 4,oD 5,oD 6,oD 7,oD 8] mixed ol od (O3.C _ _) ?_;refine pq (λ_ E=>Qq ((I.I G).I E) U U)<|p (QP U)<|pq (λ_ E=>Qq (H.I E) U U)<|pic (i:=e.1.toNat) U (J.I G) U (OT (Value.int .i64) S) T λa7 V =>
  pq (λ_ E=>QD (V.I E) U)<|p (QP U)<|pq (λ_ E=>Qq (H.I E) U U)<|p (λ_=>Jc U U) <|
  p ZH<|pe ?_
 refine Ql ⟨[_],La,?_,G.D (O3.C _ _)⟩;show Value.bool (decide (¬O4 t e.1.toNat=e.2))=_;unfold O4;simp
theorem Qg8 (t:LI)(x:qz):(!(x.ls.any λl=>!decide (t.getD l.1.toNat 0=l.2)))=VS t x:=by
 unfold VS;induction x.ls with
 | nil=>rfl
 | cons a l ih=>rw[List.any_cons,L5,<-ih];cases decide (t.getD a.1.toNat 0=a.2) <;> simp
theorem QlN {q:XV}{t:LI}(I:Q7 w.heap b 71 (Q6 q))(J:yT [] w.heap q.v q.ls)(H:QQ [] w.heap vt t)(O:∀p∈q.ls,0<=p.1/\p.1<(t.length:Int)):
  Q5 prog 291 ([vt]++[.pointer (some ⟨b,0,none⟩)]) w λr w'=>r=.bool (VS t q.x)/\O3 [] w w':=by
 refine Zs func291 ntmps291 results291 ?_;refine Qe<|Qa<|QS (us:=[vt]) H.cells λb2 Y E ha S=>Qc<|Qe<|Qs U (I.I E) U U<|x ZC<|Qa<|xf<|(Qoz (q:=λl=>!decide (t.getD l.1.toNat 0=l.2)) (cap:=[.pointer (some ⟨b2,0,none⟩)]) (J.I E) (λe T V G=>Qi1 (S.I G) ((H.I E).I G) e (O e T))).mono ?_;rintro r2 V ⟨rfl,G⟩;refine x (Zz U)<|Qc ?_;exact Ql ⟨[_],La,OT Value.bool (Qg8 t q.x),E.D G⟩
theorem QlM {q:KV}{t:LI}(G:Q7 w.heap b 76 (Zc q))(I:yT [] w.heap q.v q.ts)(J:QQ [] w.heap vt t)
  (O:∀p∈q.ts,0<=p.1/\p.1<(t.length:Int)/\-65536<=p.2/\p.2<=65536) (S:q.ts.length<=8) (T:∀i,i<t.length->0<=O4 t i/\O4 t i<=4096):
  Q5 prog 294 ([vt]++[.pointer (some ⟨b,0,none⟩)]) w λr w'=>r=.bool (UX t q.k)/\O3 [] w w':=by
 refine Zs func294 ntmps294 results294 ?_;refine Qe<|Qc ?_;have hd:O3 [] w { w with drawn:=w.drawn+1 }:=O3.C _ _
 refine Qd<|QR (O3 [] { w with drawn:=w.drawn+1 }) [oD 0,oD 1,oD 3,oD 4,oE 2,oD 5,oD 6] mixed ol od (O3.Z _ _) ?_
 refine pq (λ_ E=>Zx ((G.I hd).I E) U U)<|p Qy<|p (QP U)<|pq (λ_ E=>Qq ((G.I hd).I E) U U)<|pk<|xf<|(Qha (I.I hd) (J.I hd) O S T).mono ?_;rintro V Y ⟨rfl,H⟩;refine⟨H,?_⟩;refine p (λ_=>ZZ U U)<|p ZH<|pe ?_;exact Ql ⟨[_],La,U,hd.D H⟩
inductive Cd where
 | ex (b:Nat) (q:XV)
 | co (b:Nat) (q:KV)
def Cd.val:Cd->O0
 | .ex b _=>.func (.func 291) #[] #[.pointer (some ⟨b,0,none⟩)]
 | .co b _=>.func (.func 294) #[] #[.pointer (some ⟨b,0,none⟩)]
def Cd.src:Cd->Sum XV KV
 | .ex _ q=>.inl q
 | .co _ q=>.inr q
def QfD (t:LI):Sum XV KV->Bool
 | .inl q=>VS t q.x
 | .inr q=>UX t q.k
def Cd.vio (t:LI)(c:Cd):Bool:=QfD t c.src
abbrev UM (c:Cd):LV:=[c.val]
theorem QoB (c:Cd):(UM c).length=1:=rfl
def CdA (H:xx):Cd->Prop
 | .ex b q=>Q7 H b 71 (Q6 q)/\yT [] H q.v q.ls
 | .co b q=>Q7 H b 76 (Zc q)/\yT [] H q.v q.ts
theorem CdA.I {w w':OZ}{c:Cd}(h:CdA w.heap c)(E:O3 [] w w'):CdA w'.heap c:=by
 cases c with
 | ex b q=>exact⟨h.1.I E,h.2.I E⟩
 | co b q=>exact⟨h.1.I E,h.2.I E⟩
def Cd.rg (n:Nat):Cd->Prop
 | .ex _ q=>∀p∈q.ls,0<=p.1/\p.1<(n:Int)
 | .co _ q=>(∀p∈q.ts,0<=p.1/\p.1<(n:Int)/\-65536<=p.2/\p.2<=65536)/\q.ts.length<=8
theorem Qb2 {q:XV}(w:OZ):Q5 prog 245 [.agg (Q6 q).toArray] w λr w'=>O3 [] w w'/\∃b,r=(Cd.ex b q).val/\w.heap.size<=b/\Q7 w'.heap b 71 (Q6 q):=by
 refine Zs func245 ntmps245 results245 ?_;refine Qe<|Qa<|QS (us:=Q6 q) U λb1 I E G H=>Qc<|Qe<|x ZC<|Qc ?_;exact Ql ⟨[_],La,E,b1,U,G,H⟩
theorem Qdy {q:KV}(w:OZ):Q5 prog 246 [.agg (Zc q).toArray] w λr w'=>O3 [] w w'/\∃b,r=(Cd.co b q).val/\w.heap.size<=b/\Q7 w'.heap b 76 (Zc q):=by
 refine Zs func246 ntmps246 results246 ?_;refine Qe<|Qa<|QS (us:=Zc q) U λb1 I E G H=>Qc<|Qe<|x ZC<|Qc ?_;exact Ql ⟨[_],La,E,b1,U,G,H⟩
def CdB (H:xx):Cd->Prop
 | .ex b q=>Q7 H b 71 (Q6 q)
 | .co b q=>Q7 H b 76 (Zc q)
def Cd.blk:Cd->Nat
 | .ex b _=>b
 | .co b _=>b
theorem CdB.lt {H:xx}{c:Cd}(h:CdB H c):c.blk<H.size:=by cases c <;> exact Q7.lt h
theorem CdB.J {X:LN}{w w':OZ}{c:Cd}(h:CdB w.heap c)(E:O3 X w w')(G:c.blk∉X):CdB w'.heap c:=by
 cases c <;> exact Q7.J h E G
structure CdL (base:Nat)(w:OZ)(v:O0)(cds:List Cd):Prop where
 own:w.ownsRow base 394 1 v cds.length (cds.flatMap UM)
 bx:∀c∈cds,CdB w.heap c/\c.blk∉ob v
theorem CdL.add {base:Nat}{E G:OZ}{v H:O0}{cds:List Cd}{c:Cd}(h:CdL base w v cds)(O:O3 [] w E)(S:CdB E.heap c)(hb:w.heap.size<=c.blk)
  (T:G.ownsRow base 394 1 H (cds.length+1) (cds.flatMap UM++[c.val])) (V:O3 (ob v) E G) (Y:∀b∈ob H,b∈ob v\/E.heap.size<=b):CdL base G H (cds++[c]):=by
 have ha:=Zb h.own;have he:c.blk∉ob v:=λI=>ou (ha _ I)
 refine⟨?_,λd hd=>?_⟩
 ·rw[Lj,LA];simpa using T
 have key:CdB E.heap d/\d.blk∉ob v:=by
  rcases Lc.1 hd with hd|hd
  ·exact⟨(h.bx d hd).1.J O oe,(h.bx d hd).2⟩
  simp only[oI]at hd;subst hd;exact⟨S,he⟩
 refine⟨key.1.J V key.2,λI=>?_⟩;rcases Y _ I with J|J
 ·exact key.2 J
 have:=key.1.lt;omega
theorem Qjp {qx:List XV}{ks:List KV}(hX:yD [] w.heap vx qx)(hK:yz [] w.heap vk ks)(hG:qx.length<=32)(hH:ks.length<=32):
  Q5 prog 206 [.agg #[vs,vx,vk]] w λr w'=>O3 [] w w'/\∃cds,CdL w.heap.size w' r cds/\cds.map Cd.src=qx.map Sum.inl++ks.map Sum.inr:=by
 refine Zs func206 ntmps206 results206 ?_;refine Qe<|Qa<|QS (us:=[vs,vx,vk]) U λb1 J H hI h2=>Qc ?_;have h7:=H.size;refine Qe<|Qc<|Qd<|Qe<|Qs U h2 U U<|QL (hX.I H).arr U<|Qb<|xe<|Qg<|QC (α:=Nat×O0×List Cd) [(3,3),(5,5),(11,20)] (λz=>[(3,z.2.1),(11,oF oG z.1)]) (λz w'=>z.1<=qx.length/\O3 [] J w'/\CdL J.heap.size w' z.2.1 z.2.2/\z.2.2.map Cd.src=(qx.take z.1).map Sum.inl) (λz=>qx.length - z.1) ol (0,nS,[]) oA
  ⟨Ln _,O3.Z _ _,⟨QJ _ _ _ _,λc hc=>(by cases hc)⟩,rfl⟩ ?_
 rintro⟨k,vo,cds⟩ g wA ⟨hk,I,V,Y⟩;simp only[]at hk V Y;have hJ:cds.length=k:=by have:=OT oP Y;simp at this;omega
 refine Qe<|QX U U<|xe<|Qd<|QG U (λhi=>?_) (λhi=>?_)
 ·refine Qx ?_;have h8:qx.length<=k:=by have hl:¬(k:Int)<(qx.length:Int):=hi;omega
  rw[Ls h8]at Y;refine Qd<|Qe<|Qs U (h2.I I) U U<|QL ((hK.I H).I I).arr U<|Qb<|xe<|Qg<|QC (α:=Nat×O0×List Cd) [(3,3),(7,7),(24,33)] (λz=>[(3,z.2.1),(24,oF oG z.1)]) (λz w'=>z.1<=ks.length/\O3 [] J w'/\CdL J.heap.size w' z.2.1 z.2.2/\z.2.2.map Cd.src=qx.map Sum.inl++(ks.take z.1).map Sum.inr) (λz=>ks.length - z.1) ol (0,vo,cds) oA
   ⟨Ln _,I,V,by simp only[];rw[Y];simp⟩ ?_
  rintro⟨j,vp,cdt⟩ g wB ⟨hj,ha,O,he⟩;simp only[]at hj O he;have hM:cdt.length=qx.length+j:=by have:=OT oP he;simp at this;omega
  refine Qe<|QX U U<|xe<|Qd<|QG U (λhm=>?_) (λhm=>?_)
  ·refine Qx ?_;have h9:ks.length<=j:=by have hl:¬(j:Int)<(ks.length:Int):=hm;omega
   rw[Ls h9]at he;refine Qm<|Qc ?_;exact Ql ⟨[_],La,H.D ha,cdt,⟨Zy O.own h7,O.bx⟩,he⟩
  have S:j<ks.length:=by have hl:(j:Int)<(ks.length:Int):=hm;omega
  have h3:=Lm S;have h4:ks.take (j+1)=ks.take j++[ks[j]'S]:=Ll S;refine Qh<|Qd<|Qg<|Qe<|O6 Xb ((hK.I H).I ha).arr U U S λaA hA=>?_;refine Zk (ks[j]'S) λq hq=>?_;rw[hq]at hA h3 h4;have hn:=((hK.I H).I ha).each q h3;refine x (Qv hA U U)<|Qa<|Qo (us:=[.string .empty,nS,oF oG 0]) U λb7 w4 ho hp hr=>Qa<|Qj (us:=Zc q) hr U U U U ⟨U,hn.one,U,Z⟩ λw5 hs ht=>xe ?_;have hf:O3 [] wB w5:=ho.O hs hp;refine Qw<|Qb<|Q2 ht U U<|Qa<|xf<|(Qdy w5).mono ?_;rintro r6 w6 ⟨hu,E,rfl,hB,hv⟩;refine Qa<|QB (us:=[[(Cd.co E q).val]]) U U og oe ⟨rfl,rfl,Z⟩ λhC w7 hg hD hw=>?_;have G:=(hf.D hu).D hg;have hE:=(ha.D G).size;have hF:=hf.size;refine Qa<|Za (news:=[(Cd.co E q).val]) (L:=[]) (Qp O.own G) U U U (hw.at oe) (by simp[Cd.val,Value.oneCell']) oa oa λv8 w8 hy hh hz =>
   Qc ?_
  have hge:=Qi O.own;have h0:=O.add (c:=Cd.co E q) G (Q7.I hv hg) (by show _<=E;omega) hy hh hz;have h1:O3 [] J w8:=(ha.D G).then hh (λb hb=>.inr (hge b hb).1);refine Qw<|QN U U<|Qb<|xe ?_;exact⟨(j+1,v8,cdt++[Cd.co E q]),oh,oA,S,h1,h0,by simp only[];rw[Lp,he,h4];simp[Cd.src]⟩
 have T:k<qx.length:=by have hl:(k:Int)<(qx.length:Int):=hi;omega
 have h5:=Lm T;have h6:qx.take (k+1)=qx.take k++[qx[k]'T]:=Ll T;refine Qh<|Qd<|Qg<|Qe<|O6 Xi ((hX.I H).I I).arr U U T λaA hA=>?_;refine Zk (qx[k]'T) λq hq=>?_;rw[hq]at hA h5 h6;have hn:=((hX.I H).I I).each q h5;refine x (Qv hA U U)<|Qa<|Qo (us:=[.string .empty,nS]) U λb7 w4 ho hp hr=>Qa<|Qj (us:=Q6 q) hr U U U U ⟨U,hn.one,Z⟩ λw5 hs ht=>xe ?_;have hf:O3 [] wA w5:=ho.O hs hp;refine Qw<|Qb<|Q2 ht U U<|Qa<|xf<|(Qb2 w5).mono ?_;rintro r6 w6 ⟨hu,E,rfl,hB,hv⟩;refine Qa<|QB (us:=[[(Cd.ex E q).val]]) U U og oe ⟨rfl,rfl,Z⟩ λhC w7 hg hD hw=>?_;have G:=(hf.D hu).D hg;have hE:=(I.D G).size;have hF:=hf.size;refine Qa<|Za (news:=[(Cd.ex E q).val]) (L:=[]) (Qp V.own G) U U U (hw.at oe) (by simp[Cd.val,Value.oneCell']) oa oa λv8 w8 hy hh hz =>
  Qc ?_
 have hge:=Qi V.own;have h0:=V.add (c:=Cd.ex E q) G (Q7.I hv hg) (by show _<=E;omega) hy hh hz;have h1:O3 [] J w8:=(I.D G).then hh (λb hb=>.inr (hge b hb).1);refine Qw<|QN U U<|Qb<|xe ?_;exact⟨(k+1,v8,cds++[Cd.ex E q]),oh,oA,T,h1,h0,by simp only[];rw[Lp,Y,h6];simp[Cd.src]⟩
theorem Qn4 [Fu prog gp fn]{cap:LV}{q:Cd->Bool}{v:O0}{l:List Cd}(h:Zv L w.heap v l.length 1 (l.flatMap UM))
  (Y:∀e∈l,∀(G:OZ),O3 [] w G->Q5 prog gp ([e.val]++cap) G λr w'=>r=.bool (q e)/\O3 [] G w'):
  Q5 prog 243 [v,.func (.func gp) #[] cap.toArray] w λr w'=>r=oF oG (fix q 0 l)/\O3 [] w w':=by
 have hc:=h.le;refine Zs func243 ntmps243 results243 ?_;refine Qe<|Qc<|Qd<|Qm<|QL h U<|Qb<|xe<|Qg<|QC (α:=Nat) [(4,5),(8,18)] (λz=>[(8,oF oG z)]) (λz w'=>z<=l.length/\O3 [] w w'/\fix q z (l.drop z)=fix q 0 l) (λz=>l.length - z) ol 0 La
  ⟨Ln _,O3.Z _ _,U⟩ ?_
 rintro k g G ⟨hk1,H,E⟩;refine Qe<|QX U U<|xe<|Qd<|QG U (λJ=>?_) (λJ=>?_)
 ·refine Qx ?_;have ha:l.length<=k:=by have hb:¬(k:Int)<(l.length:Int):=J;omega
  rw[Lr ha]at E;refine Qe<|Qc ?_;exact Ql ⟨[_],La,by rw[<-E];rfl,H⟩
 have I:k<l.length:=by have hb:(k:Int)<(l.length:Int):=J;omega
 rw[Zf I,Yg]at E;have S:=Lm I;refine Qh<|Qd<|Qg<|Qm<|Qc<|Qm<|Qb<|Qb<|O6 QoB (h.I H) U U I λhf T=>?_;refine Zk (l[k]'I) λe he=>?_;rw[he]at T E S;refine x (QD T U)<|Qa<|xc (first:=[]) (capt:=cap) U<|(Y e S G H).mono ?_;rintro r2 w2 ⟨rfl,V⟩;refine xe<|QW rfl (λO=>?_) (λO=>?_)
 ·rw[OS O]at E;refine Qm<|Qc ?_;exact Ql ⟨[_],La,by rw[<-E];rfl,H.D V⟩
 rw[OR (by rw[O];decide)]at E;refine Qh<|Qw<|QN U U<|Qb<|xe ?_;exact⟨k+1,oa,La,I,H.D V,E⟩
theorem Qmc {c:Cd}{t:LI}(E:CdA w.heap c)(H:QQ [] w.heap vt t)(G:c.rg t.length)(I:∀i,i<t.length->0<=O4 t i/\O4 t i<=4096):
  ∃g fn cap,c.val=.func (.func g) #[] #[cap]/\Fu prog g fn/\Q5 prog g ([vt]++[cap]) w λr w'=>r=.bool (c.vio t)/\O3 [] w w':=by
 cases c with
 | ex b q=>exact⟨_,_,_,U,inferInstance,QlN E.1 E.2 H G⟩
 | co b q=>exact⟨_,_,_,U,inferInstance,QlM E.1 E.2 H G.1 G.2 I⟩
theorem Qg6 {bt:Nat}{c:Cd}{t:LI}(E:Q7 w.heap bt 56 [vt])(G:CdA w.heap c)(H:QQ [] w.heap vt t)(I:c.rg t.length)(J:∀i,i<t.length->0<=O4 t i/\O4 t i<=4096):
  Q5 prog 244 ([c.val]++[.pointer (some ⟨bt,0,none⟩)]) w λr w'=>r=.bool (c.vio t)/\O3 [] w w':=by
 obtain⟨gq,fn,cap,O,T,hcall⟩:=Qmc G H I J;rw[O];refine Zs func244 ntmps244 results244 ?_;refine Qe<|Qc<|Qm<|Y2 E U U<|Qa<|xc (g:=gq) (fn:=fn) (first:=[]) (capt:=[cap]) U<|hcall.mono ?_;rintro V Y ⟨rfl,S⟩;refine Qc ?_;exact Ql ⟨[_],La,U,S⟩
theorem Qba {v:O0}{cds:List Cd}{t:LI}(h:Zv L w.heap v cds.length 1 (cds.flatMap UM))(J:∀c∈cds,CdA w.heap c)(H:QQ [] w.heap vt t)(O:∀c∈cds,c.rg t.length)(S:∀i,i<t.length->0<=O4 t i/\O4 t i<=4096):
  Q5 prog 205 [v,vt] w λr w'=>r=oF oG (fix (Cd.vio t) 0 cds)/\O3 [] w w':=by
 refine Zs func205 ntmps205 results205 ?_;refine Qe<|Qa<|QS (us:=[vt]) H.cells λT w1 G ha V=>Qc<|Qm<|x ZC<|Qa<|xf<|(Qn4 (q:=Cd.vio t) (cap:=[.pointer (some ⟨T,0,none⟩)]) (h.I G) (λc I Y E=>Qg6 (V.I E) (((J c I).I G).I E) ((H.I G).I E) (O c I) S)).mono ?_;rintro r2 Y ⟨rfl,E⟩;refine Qc ?_;exact Ql ⟨[_],La,U,G.D E⟩
theorem QjB {sz t:LI}(I:QQ [] w.heap vs sz)(G:QQ [] w.heap vt t)(h:Qmw sz t):
  Q5 prog 242 [.agg #[vs,vx,vk],vt] w λr w'=>r=oF oG 0/\O3 [] w w':=by
 have he:=G.le;have h0:=h.1;refine Zs func242 ntmps242 results242 ?_;refine Qe<|Qa<|QS (us:=[vs,vx,vk]) U λb2 T E hf J=>Qc<|Qd<|Qm<|QL (G.I E) U<|Qs U J U U<|QL (I.I E) U<|x (Jc U U) <|
  xe ?_
 refine QG rfl (λO=>?_) (λO=>?_)
 ·refine Qh<|Qd<|Qm<|QL (G.I E) U<|Qb<|xe<|Qg<|QC (α:=Nat) [(4,6),(15,31)] (λz=>[(15,oF oG z)]) (λz w'=>z<=t.length/\w'=T) (λz=>t.length - z) ol 0 La ⟨Ln _,U⟩ ?_;rintro k g V ⟨hk,rfl⟩;refine Qe<|QX U U<|xe<|Qd<|QG U (λS=>?_) (λS=>?_)
  ·refine Qx<|Qe<|Qc ?_;exact Ql ⟨[_],La,U,E⟩
  have H:k<t.length:=by have hg:(k:Int)<(t.length:Int):=S;omega
  have hb:=h.2 k H;refine Qh<|Qd<|Qg<|Qm<|xic (i:=k) (G.I E) U U H λhh Y=>x (QD Y U)<|x Qk<|Qc<|Q3 (α:=Unit) [(20,30)] (λz=>[(30,.bool false)]) (λz w'=>w'=V) ol ?_ ?_
  ·refine Qw<|Qb<|xb (YJ U U) (λha=>oa) (λha=>?_);refine Qb<|Qb<|Qs U J U U<|Qb<|xic (i:=k) (I.I E) U U oa λhi hc=>x (QD hc U) <|
    x (Yl rfl U)<|QK U<|xe ?_
   exact⟨(),⟨OT Value.bool (OX oa),Z⟩,U⟩
  rintro _ g w3 rfl;refine ZO U ?_;refine Qh<|Qw<|QN U U<|Qb<|xe ?_;exact⟨k+1,oa,La,H,U⟩
 exact OU (show(t.length:Int)=(sz.length:Int) by omega) O
theorem yW {sz t:LI}{qx:List XV}{ks:List KV}(H:QQ [] w.heap vs sz)(S:yD [] w.heap vx qx)(hK:yz [] w.heap vk ks)(T:QQ [] w.heap vt t)(V:Yy sz (qx.map (·.x)) (ks.map (·.k))=0)(h:Qmw sz t):
  Q5 prog 204 [.agg #[vs,vx,vk],vt] w λr w'=>r=oF oG 0/\O3 [] w w':=by
 refine Zs func204 ntmps204 results204 ?_;refine Qe<|Qa<|QS (us:=[vs,vx,vk]) U λb2 w1 E ha I=>Qc<|Qd<|Qe<|Q2 I U U<|Qa<|xf<|(yg (H.I E) (S.I E) (hK.I E)).mono ?_;rintro r2 w2 ⟨J,O⟩;rw[V]at J;subst J;refine Qc<|Qm<|ZA U U<|xe<|ZO rfl ?_;refine Qh ?_;have G:=E.D O;refine Qe<|Q2 (I.I O) U U<|Qb<|Qa<|xf<|(QjB (H.I G) (T.I G) h).mono ?_;rintro r3 w3 ⟨rfl,Y⟩;refine Qc ?_;exact Ql ⟨[_],La,U,G.D Y⟩
def Uh (qx:List qz)(ks:List xI)(t:LI):Int×Int×Bool :=
 if 0<=fix (VS t) 0 qx then(1,fix (VS t) 0 qx,true)else if 0<=fix (UX t) 0 ks then(2,fix (UX t) 0 ks,true)else(0,0,false)
theorem QlK {cds:List Cd}{qx:List XV}{ks:List KV}(t:LI)(h:cds.map Cd.src=qx.map Sum.inl++ks.map Sum.inr):
  fix (Cd.vio t) 0 cds=if 0<=fix (VS t) 0 (qx.map (·.x))then fix (VS t) 0 (qx.map (·.x))else if 0<=fix (UX t) 0 (ks.map (·.k))then fix (UX t) 0 (ks.map (·.k))+qx.length else -1:=by
 have E:fix (Cd.vio t) 0 cds=fix (QfD t) 0 (cds.map Cd.src):=(Vs (QfD t) Cd.src cds 0).symm;rw[E,h,yd,Vs,Lh,jE,Vs (QfD t) Sum.inr ks 0];have e1:fix (λa=>QfD t (Sum.inl a)) 0 qx=fix (VS t) 0 (qx.map (·.x)):=(Vs (VS t) XV.x qx 0).symm;have e2:fix (λa=>QfD t (Sum.inr a)) 0 ks=fix (UX t) 0 (ks.map (·.k)):=(Vs (UX t) KV.k ks 0).symm;rw[e1,e2]
theorem Qna {P:Int×Int×Bool}{a b:Int}{c:Bool}(h:P=(a,b,c)):(Value.tuple #[oF oG a,oF oG b,.bool c,oF oG 0])=.tuple #[oF oG P.1,oF oG P.2.1,.bool P.2.2,oF oG 0]:=by rw[h]
theorem qI {sz t:LI}{qx:List XV}{ks:List KV}(hS:QQ [] w.heap vs sz)(S:yD [] w.heap vx qx)(hK:yz [] w.heap vk ks)(ht:QQ [] w.heap vt t)(hc:Yy sz (qx.map (·.x)) (ks.map (·.k))=0)(h:Qmw sz t):
  Q5 prog 137 [.agg #[vs,vx,vk],vt] w λr w'=>O3 [] w w'/\r=.tuple #[oF oG (Uh (qx.map (·.x)) (ks.map (·.k)) t).1,oF oG (Uh (qx.map (·.x)) (ks.map (·.k)) t).2.1,.bool (Uh (qx.map (·.x)) (ks.map (·.k)) t).2.2,oF oG 0]:=by
 have T:=Vi hc;have hu:qx.length<=32:=by have:=T.xl;simpa using this
 have hv:ks.length<=32:=by have:=T.kl;simpa using this
 refine Zs func137 ntmps137 results137 ?_;refine Qe<|Qa<|QS (us:=[vs,vx,vk]) U λb2 w1 V h6 hj=>x Qk<|x Qk<|x Qk<|Qc<|Qd<|Qe<|Q2 hj U U<|Qb<|Qa<|xf<|(yW (hS.I V) (S.I V) (hK.I V) (ht.I V) hc h).mono ?_;rintro r2 w2 ⟨rfl,hk⟩;refine Qc<|Qm<|ZA U U<|xe<|ZO rfl ?_;refine Qh ?_;have he:=V.D hk;have hl:=hj.I hk;refine Qe<|Q2 hl U U<|Qa<|xf<|(Qjp (S.I he) (hK.I he) hu hv).mono ?_;rintro r3 w3 ⟨hn,cds,hL,hf⟩;have hb:=he.D hn;have h7:cds.length=qx.length+ks.length:=by have:=OT oP hf;simpa using this
 have hw:∀i,i<t.length->0<=O4 t i/\O4 t i<=4096:=λi hi=>by
  have H:=h.2 i hi;have Y:i<sz.length:=by rw[<-h.1];exact hi
  have h3:=T.s _ (Lm Y);rw[ZI Y]at h3;omega
 have ho:∀c∈cds,c.src∈qx.map Sum.inl++ks.map Sum.inr:=λc I=>by rw[<-hf];exact LK I
 have hy:∀c∈cds,CdA w3.heap c:=λc I=>by
  have H:=ho c I;have Y:=(hL.bx c I).1;cases c with
  | ex b q =>
   have G:q∈qx:=by simpa[Cd.src]using H
   exact⟨Y,(S.each q G).I hb⟩
  | co b q =>
   have G:q∈ks:=by simpa[Cd.src]using H
   exact⟨Y,(hK.each q G).I hb⟩
 have hz:∀c∈cds,c.rg t.length:=λc I=>by
  have H:=ho c I;rw[h.1];cases c with
  | ex b q =>
   have G:q∈qx:=by simpa[Cd.src]using H
   exact T.x q.x (LK G)
  | co b q =>
   have G:q∈ks:=by simpa[Cd.src]using H
   exact T.k q.k (LK G)
 have h0:=QlK t hf;have g1:=Qdw (VS t) (qx.map (·.x)) 0;have g2:=Qdw (UX t) (ks.map (·.k)) 0;simp only[Oc]at g1 g2;refine Qb<|Qa<|xf<|(Qba (QH (L:=[]) hL.own oa oe) hy (ht.I hb) hz hw).mono ?_;rintro r4 w4 ⟨rfl,hp⟩;rw[h0];have ha:=hb.D hp;refine Zk (Uh (qx.map (·.x)) (ks.map (·.k)) t) λP J=>?_;rw[J];unfold Uh at J;refine Zk (fix (VS t) 0 (qx.map (·.x))) λO hg=>?_;refine Zk (fix (UX t) 0 (ks.map (·.k))) λi2 hh=>?_;rw[hg,hh]at J;rw[hg]at g1;rw[hh]at g2;refine Zk (if 0<=O then O else if 0<=i2 then i2+(qx.length:Int)else -1) λr E=>?_
 rw[hg,hh,E];refine Qc<|Qg<|Qm<|QX U U<|Qc<|QZ U (λh4=>?_) (λh4=>?_)
 ·have n1:¬0<=O:=λh=>by rw[OS h]at E;omega
  have n2:¬0<=i2:=λh=>by rw[OR n1,OS h]at E;omega
  refine Qe<|x Qk<|x Qk<|x Qk<|Qc ?_;exact Ql ⟨[_,_,_,_],oC,ha,Qna (by rw[<-J,OR n1,OR n2])⟩
 have hs:=(hl.I hn).I hp;refine Qm<|Qs U hs U U<|QL (S.I ha).arr U<|QX U U<|Qc<|QZ U (λh5=>?_) (λh5=>?_)
 ·have p1:0<=O:=by
   refine Lo.1 λn1=>?_;by_cases h:0<=i2
   ·rw[OR n1,OS h]at E;omega
   rw[OR n1,OR h]at E;omega
  have e:r=O:=by rw[OS p1]at E;exact E.symm
  refine Qm<|x Qk<|x Qk<|x Qk<|Qc ?_;exact Ql ⟨[_,_,_,_],oC,ha,Qna (by rw[<-J,OS p1,e])⟩
 have n1:¬0<=O:=λh=>by rw[OS h]at E;omega
 have p2:0<=i2:=by
  refine Lo.1 λn2=>?_;rw[OR n1,OR n2]at E;omega
 have e:r - (qx.length:Int)=i2:=by rw[OR n1,OS p2]at E;omega
 refine Qd<|QR (O3 [] w4) [oD 0,oD 1,oD 2,oD 3,oD 4,oD 5,oD 6,oD 7,oD 8] mixed ol od (O3.C _ _) ?_;refine p Qy<|p (QP U)<|pq (λ_ hc=>Qq (hs.I hc) U U)<|p (λ_=>Yo (S.I ha).arr U) <|
  p (λ_=>Jb U U ⟨oa,oa⟩)<|p ZH<|p ZH<|p ZH<|p ZH <|
  pe ?_
 exact Ql ⟨[_,_,_,_],oC,ha.D (O3.C _ _),Qna (by rw[<-J,OR n1,OS p2,<-e])⟩
def YA (base:Nat)(av:LN)(H:xx)(v:O0)(n sz:Nat)(cs:LV):Prop:=∀L:LN,(∀b∈L,b<base\/b∈av)->Zv L H v n sz cs
theorem YA.I {base:Nat}{av:LN}{w w':OZ}{v:O0}{n sz:Nat}{cs:LV}(h:YA base av w.heap v n sz cs)(E:O3 [] w w'):YA base av w'.heap v n sz cs:=λL G=>(h L G).I E
theorem YA.app {base:Nat}{I:LN}{v:O0}(h:YA base av w.heap v n sz cs)(J:O3 av w w')(O:∀b∈I,b∈av\/w.heap.size<=b):YA base I w'.heap v n sz cs:=by
 intro L S;have T:Zv (av++L.filter λb=>decide (b<base)) w.heap v n sz cs:=h _ (λb E=>by
  rcases Lc.1 E with E|E
  ·exact .inr E
  exact .inl (by simpa using(L9.1 E).2))
 refine T.grow J (λb E=>Lc.2 (.inl E)) λb E=>?_;rcases S b E with G|G
 ·exact .inl (Lc.2 (.inr (L9.2 ⟨E,oz G⟩)))
 rcases O b G with H|H
 ·exact .inl (Lc.2 (.inl H))
 exact .inr H
theorem YA.of_own {base:Nat}{v:O0}{e:Nat}(h:w.ownsRow N e sz v n cs)(H:n<=1099511627776)(E:base<=N)(I:∀b∈av,b<N):YA base av w.heap v n sz cs:=λL J =>
 QH h H λb E hbL=>by
  have O:=(Qi h b E).1;rcases J b hbL with G|G
  ·omega
  have:=I b G;omega
structure Yu {α:Type}(g:α->LV)(sz T:Nat)(p:α->O0×Nat×Nat×LV)(base:Nat)(w:OZ)(v:O0)(l:List α):Prop where
 own:w.ownsRow base T sz v l.length (l.flatMap g)
 each:∀q∈l,YA base (ob v) w.heap (p q).1 (p q).2.1 (p q).2.2.1 (p q).2.2.2
theorem Yu.nil {g:α->LV}{p:α->O0×Nat×Nat×LV}{base:Nat}:Yu g sz T p base w (nS) []:=⟨QJ _ _ _ _,λq E=>by cases E⟩
theorem Yu.I {α:Type}{g:α->LV}{sz T:Nat}{p:α->O0×Nat×Nat×LV}{base:Nat}{w w':OZ}{v:O0}{l:List α}(h:Yu g sz T p base w v l)(E:O3 [] w w'):Yu g sz T p base w' v l:=⟨Qp h.own E,λq G=>(h.each q G).I E⟩
theorem Yu.app {α:Type}{g:α->LV}{sz T:Nat}{p:α->O0×Nat×Nat×LV}{base N e:Nat}{w E G:OZ}{v H:O0}{l:List α}{q:α}(h:Yu g sz T p base w v l)(S:O3 [] w E)
  (V:E.ownsRow N e (p q).2.2.1 (p q).1 (p q).2.1 (p q).2.2.2) (Y:(p q).2.1<=1099511627776) (hN:w.heap.size<=N) (I:base<=w.heap.size)
  (ho:G.ownsRow base T sz H (l.length+1) (l.flatMap g++g q)) (J:O3 (ob v) E G) (O:∀b∈ob H,b∈ob v\/E.heap.size<=b):Yu g sz T p base G H (l++[q]):=by
 have ha:=Zb h.own;refine⟨?_,λd hd=>?_⟩
 ·rw[Lj,LA];simpa using ho
 rcases Lc.1 hd with hd|hd
 ·exact((h.each d hd).I S).app J O
 simp only[oI]at hd;subst hd;exact(YA.of_own V Y oa (λb I=>ou (ha b I))).app J O
theorem QcK {ha hb hc:O0}{b:Zd}(h:ZK L w.heap va vm ve a)(h':ZK L' w.heap ha hb hc b):
  Q5 prog 71 [.agg #[va,oF oG a.st,vm,ve],.agg #[ha,oF oG b.st,hb,hc]] w λr w'=>r=.bool (decide (a.st=b.st/\a.al=b.al/\a.mr=b.mr/\a.ed=b.ed))/\O3 [] w w':=by
 refine Zs func71 ntmps71 results71 ?_;refine Qe<|Qa<|QS (us:=[va,oF oG a.st,vm,ve]) U λb2 w1 hh hl hi=>Qa<|QS (us:=[ha,oF oG b.st,hb,hc]) U λb3 w2 he E H=>Qc ?_;have I:=hh.D he;have J:=hi.I he;refine Q3 (α:=Bool) [(4,30)] (λz=>[(4,.bool z)]) (λz w'=>O3 [] w w'/\z=decide (a.st=b.st/\a.al=b.al/\a.mr=b.mr/\a.ed=b.ed)) ol ?_ ?_
 ·refine Qw<|Qs U J U U<|Qs U H U U<|xb (Q9 U U) (λh9=>?_) (λh9=>?_)
  ·refine Qb<|Qs U J U U<|Qs U H U U<|Qa<|xf<|(Jt (h.al.I I) (h'.al.I I)).mono ?_;rintro r3 w3 ⟨O,S⟩;have T:=I.D S;refine Qi4 (decide (a.al=b.al)) (λE=>?_) (λE=>?_)
   ·rw[E]at O;subst O;refine QK U<|Qb<|Qs U (J.I S) U U<|Qs U (H.I S) U U<|Qa<|xf<|(Jt (h.mr.I T) (h'.mr.I T)).mono ?_;rintro r4 w4 ⟨V,hf⟩;have Y:=T.D hf;have hg:=S.D hf;refine Qi4 (decide (a.mr=b.mr)) (λG=>?_) (λG=>?_)
    ·rw[G]at V;subst V;refine QK U<|Qb<|Qs U (J.I hg) U U<|Qs U (H.I hg) U U<|Qa<|xf<|(jH (h.ed.I Y) (h'.ed.I Y)).mono ?_;rintro r5 w5 ⟨rfl,hj⟩;refine QK U<|Qc ?_;exact⟨_,La,Y.D hj,bD ⟨λe=>⟨h9,OW E,OW G,e⟩,λe=>e.2.2.2⟩⟩
    rw[G]at V;subst V;refine QK U<|Qb<|Qr<|Qr<|Qr<|Qr<|Qr<|QK U<|Qc ?_;exact⟨_,La,Y,bF (λe=>OY G e.2.2.1)⟩
   rw[E]at O;subst O;refine QK U<|Qb<|Qr<|Qr<|Qr<|Qr<|Qr<|QK U<|Qb<|Qr<|Qr<|Qr<|Qr<|Qr<|x (U3 U) <|
    Qc ?_
   exact⟨_,La,T,bF (λe=>OY E e.2.1)⟩
  refine Qb<|Qr<|Qr<|Qr<|Qr<|Qr<|QK U<|Qb<|Qr<|Qr<|Qr<|Qr<|Qr<|x (U3 U) <|
   Qb<|Qr<|Qr<|Qr<|Qr<|Qr<|QK U<|Qc ?_
  exact⟨_,La,I,bF (λe=>h9 e.1)⟩
 rintro z g w6 ⟨hk,rfl⟩;exact Ql ⟨[_],La,U,hk⟩
theorem Qkb (h:ZK L w.heap va vm ve a):
  Q5 prog 83 [.agg #[va,oF oG a.st,vm,ve]] w λr w'=>r=.bool (K9 a)/\O3 [] w w':=by
 refine Zs func83 ntmps83 results83 ?_;refine Qe<|Qa<|QS (us:=[va,oF oG a.st,vm,ve]) U λb1 G hb hg H=>Qc<|Q3 (α:=Bool) [(2,11)] (λz=>[(2,.bool z)]) (λz w'=>O3 [] w w'/\z=K9 a) ol ?_ ?_
 ·refine QR (O3 [] G) [oD 0,oE 1,oD 2,oD 3,oD 4,oD 5,oE 6,oE 7,oD 8,oD 9] mixed ol od (O3.C _ _) ?_;have T:=hb.D (O3.C [] G);refine pq (λ_ E=>Zx (H.J E oe) rfl rfl)<|pk<|xf<|(JF (h.I T)).mono ?_;rintro r2 w2 ⟨rfl,V⟩;have I:=T.D V;have J:=(O3.C [] G).D V;refine⟨J,?_⟩;refine pb (λ_=>Q9 U U) (λO=>?_) (λO=>?_)
  ·have E:KD a=0:=O;refine p Qy<|pq (λ_ E=>Zx (H.J E oe) rfl rfl)<|pq (λ_ E=>Zx (H.J E oe) rfl rfl) <|
    pk<|xf<|(KE (h.I I) ((Z6 a).1 E)).mono ?_
   rintro r3 w3 ⟨S,hh,hi,hj,rfl,he⟩;have Y:=I.D S;refine⟨J.D S,?_⟩;refine pk<|xf<|(QcK (h.I Y) (he [] oe)).mono ?_;rintro r4 w4 ⟨rfl,ha⟩;refine⟨(J.D S).D ha,?_⟩;refine p (YS U)<|p ZH<|pe ?_;refine⟨_,La,Y.D ha,?_⟩;unfold K9;rw[OV E,OK];exact bD ⟨λe=>⟨e.1.symm,e.2.1.symm,e.2.2.1.symm,e.2.2.2.symm⟩,λe=>⟨e.1.symm,e.2.1.symm,e.2.2.1.symm,e.2.2.2.symm⟩⟩
  have E:¬KD a=0:=O;refine p Qy<|ps<|ps<|ps<|ps<|p (YS U)<|p ZH<|pe ?_;exact⟨_,La,I,by unfold K9;rw[OX E];rfl⟩
 rintro z g w5 ⟨hf,rfl⟩;exact Ql ⟨[_],La,U,hf⟩
section
variable {pS:String}
theorem Zl [Ag P t sz]{x:O1}(h:Q7 w.heap b T cs)(hx:ev f x=.pointer (some ⟨b,o,none⟩))(hl:us.length=sz)(G:(cs.drop o).take sz=us):
  (execOp (ev f) ⟨d,.load t x,ty,pS,af,gd⟩).run P w=.ok (.value (.agg us.toArray)) w:=q7 hx hl λj v E=>by
 rw[Ka,Kh,h.cell];rw[<-G,LT]at E;split at E
 ·simpa using E
 cases E
end
theorem Qdq {v:O0}{qs:List IV}(h:XD L w.heap v qs):
  Q5 prog 200 [v] w λr w'=>O3 [] w w'/\w'.ownsRow w.heap.size 61 4 r (qs.map (·.p)).length ((qs.map (·.p)).flatMap ZS):=by
 have ho:=h.arr.le;refine Zs func200 ntmps200 results200 ?_;refine Qe<|Qc<|Qe<|Qc<|Qd<|Qm<|QL h.arr U<|Qb<|xe<|Qg<|QC (α:=Nat×O0) [(3,3),(5,5),(8,17)] (λz=>[(3,z.2),(8,oF oG z.1)]) (λz w'=>z.1<=qs.length/\O3 [] w w'/\w'.ownsRow w.heap.size 61 4 z.2 z.1 (((qs.take z.1).map (·.p)).flatMap ZS)) (λz=>qs.length - z.1) ol (0,nS) oA
  ⟨Ln _,O3.Z _ _,QJ _ _ _ _⟩ ?_
 rintro⟨k,vo⟩ g w1 ⟨hk,H,I⟩;simp only[]at hk I;refine Qe<|QX U U<|xe<|Qd<|QG U (λO=>?_) (λO=>?_)
 ·refine Qx ?_;have hc:k=qs.length:=by have J:¬(k:Int)<(qs.length:Int):=O;omega
  subst hc;rw[Ls (Lx _)]at I;refine Qm<|Qc ?_;exact Ql ⟨[_],La,H,by rw[Lh];exact I⟩
 have E:k<qs.length:=by have J:(k:Int)<(qs.length:Int):=O;omega
 have V:=Lm E;have Y:qs.take (k+1)=qs.take k++[qs[k]'E]:=Ll E;refine Qh<|Qd<|Qg<|Qe<|O6 Yj (h.arr.I H) U U E λhp J=>?_;refine Zk (qs[k]'E) λq hq=>?_;rw[hq]at J V Y;have G:=h.each q V;refine x (Qv J U U)<|Qa<|Qo (us:=[.string .empty,nS,oF oG 0,nS,nS]) U λb5 w2 he hf S=>Qa<|Qj (us:=QO q) S U U U U ⟨U,G.al.one,U,G.mr.one,G.ed.one,Z⟩ λw3 hg S =>
  xe ?_
 have hh:O3 [] w1 w3:=he.O hg hf;refine Qw<|Qb<|Q0 U<|x (Zl (us:=ZS q.p) S U U U)<|Qa<|QB (us:=[ZS q.p]) U U og oe ⟨rfl,rfl,Z⟩ λhr w4 hi hs hj=>?_;have T:=hh.D hi;have ha:=Qp I T;have ht:=(H.D T).size;have hl:∀u∈ZS q.p,u.oneCell'=true:=by
  intro u hu;simp only[oK,oJ,or_false]at hu;rcases hu with rfl|rfl|rfl|rfl
  ·exact G.al.one
  ·rfl
  ·exact G.mr.one
  exact G.ed.one
 refine Qa<|Za (news:=ZS q.p) (L:=[]) ha U U U (hj.at oe) hl oa oa λv5 w5 hm hn hv=>Qc ?_;have hge:=Qi ha;refine Qw<|QN U U<|Qb<|xe<|⟨(k+1,v5),oh,oA,E,(H.D T).then hn (λb hb=>.inr (hge b hb).1),?_⟩;simp only[];rw[Y,Lp,LA];simpa using hm
theorem QiH {r:O0}{base e:Nat}{ps:List AV}(h:w.ownsRow base e 4 r ps.length (ps.flatMap ZS))(E:ps.length<=1099511627776)(G:∀b∈L,b<base)(H:∀p∈ps,ZK L w.heap p.va p.vm p.ve p.a):Km L w.heap r ps :=
 ⟨QH h E (λb I hbL=>ov (Qi h b I).1 (G b hbL)),H⟩
theorem QiG {n m:Int}(E:Q7 w.heap b 3 [oF oG m]):
  Q5 prog 85 ([oF oG n]++[.pointer (some ⟨b,0,none⟩)]) w λr w'=>r=.bool (decide (m<=n))/\O3 [] w w':=by
 refine Zs func85 ntmps85 results85 ?_;refine Qe<|Qc<|Qm<|Y2 E U U<|x (Yl U U)<|Qc ?_;exact Ql ⟨[_],La,U,O3.Z _ _⟩
abbrev Uz (n:Int):LV:=[oF oG n]
theorem Qn5 (n:Int):(Uz n).length=1:=rfl
theorem QmU:∀l:LI,l.flatMap Uz=l.map (.int .i64)
 | []=>rfl
 | a::l=>by rw[LM,QmU l];rfl
theorem QQ.fl {v:O0}(h:QQ L H v l):Zv L H v l.length 1 (l.flatMap Uz):=by
 rw[QmU l];exact h
theorem QiE [Fu prog gp fn]{cap:LV}{q:Int->Bool}{v:O0}(h:Zv L w.heap v l.length 1 (l.flatMap Uz))
  (Y:∀e∈l,∀(G:OZ),O3 [] w G->Q5 prog gp ([oF oG e]++cap) G λr w'=>r=.bool (q e)/\O3 [] G w'):
  Q5 prog 49 [v,.func (.func gp) #[] cap.toArray] w λr w'=>r=oF oG (fix q 0 l)/\O3 [] w w':=by
 have hc:=h.le;refine Zs func49 ntmps49 results49 ?_;refine Qe<|Qc<|Qd<|Qm<|QL h U<|Qb<|xe<|Qg<|QC (α:=Nat) [(4,5),(8,18)] (λz=>[(8,oF oG z)]) (λz w'=>z<=l.length/\O3 [] w w'/\fix q z (l.drop z)=fix q 0 l) (λz=>l.length - z) ol 0 La
  ⟨Ln _,O3.Z _ _,U⟩ ?_
 rintro k g G ⟨hk1,H,E⟩;refine Qe<|QX U U<|xe<|Qd<|QG U (λJ=>?_) (λJ=>?_)
 ·refine Qx ?_;have ha:l.length<=k:=by have hb:¬(k:Int)<(l.length:Int):=J;omega
  rw[Lr ha]at E;refine Qe<|Qc ?_;exact Ql ⟨[_],La,by rw[<-E];rfl,H⟩
 have I:k<l.length:=by have hb:(k:Int)<(l.length:Int):=J;omega
 rw[Zf I,Yg]at E;have S:=Lm I;refine Qh<|Qd<|Qg<|Qm<|Qc<|Qm<|Qb<|Qb<|O6 Qn5 (h.I H) U U I λhf T=>?_;refine Zk (l[k]'I) λe he=>?_;rw[he]at T E S;refine x (QD T U)<|Qa<|xc (first:=[]) (capt:=cap) U<|(Y e S G H).mono ?_;rintro r2 w2 ⟨rfl,V⟩;refine xe<|QW rfl (λO=>?_) (λO=>?_)
 ·rw[OS O]at E;refine Qm<|Qc ?_;exact Ql ⟨[_],La,by rw[<-E];rfl,H.D V⟩
 rw[OR (by rw[O];decide)]at E;refine Qh<|Qw<|QN U U<|Qb<|xe ?_;exact⟨k+1,oa,La,I,H.D V,E⟩
theorem QoA [Fu prog gp fn]{cap:LV}{q:Int->Bool}{v:O0}(h:Zv L w.heap v l.length 1 (l.flatMap Uz))
  (G:∀e∈l,∀(E:OZ),O3 [] w E->Q5 prog gp ([oF oG e]++cap) E λr w'=>r=.bool (q e)/\O3 [] E w'):
  Q5 prog 84 [v,.func (.func gp) #[] cap.toArray] w λr w'=>r=.bool (l.any q)/\O3 [] w w':=by
 refine Zs func84 ntmps84 results84 ?_;refine Qe<|Qc<|Qm<|Qb<|Qa<|xf<|(QiE h G).mono ?_;rintro I E ⟨rfl,H⟩;refine x (Yl U U)<|Qc ?_;exact Ql ⟨[_],La,OT Value.bool (QaL q l 0),H⟩
theorem QeO {q:IV}{nev:Nat}{vg:O0}{amg:LI}{bm:Nat}{seen:List ByteArray}(hA:ZK L w.heap q.p.va q.p.vm q.p.ve q.p.a)(h1:J6 q.nm)(hg:QQ L' w.heap vg amg)(hD:amg.length<=4096)(hm:Yd JB w.heap bm (nmM seen))(hbL:bm∈L)(h2:bm∈L'):
  Q5 prog 35 [.agg (QO q).toArray,oF oG nev,vg,.map (some bm)] w λr w'=>r=oF oG (Yi nev amg seen q.it)/\O3 [bm] w w'/\(Yi nev amg seen q.it=0->Yd JB w'.heap bm (nmM (seen++[q.nm]))):=by
 have E:Yi nev amg seen q.it=(if YX q.nm=false then 7 else if q.nm∈seen then 8 else if KD q.p.a≠0 then KD q.p.a else if K9 q.p.a=false then 6 else if q.p.a.st=0 then 12 else
  if(q.p.a.al.any λe=>decide ((nev:Int)<=e))=true then 2 else if(mns q.p.a.al amg).length≠0 then 9 else 0):=rfl
 refine Zk (Yi nev amg seen q.it) λR hR=>?_;rw[hR]at E ⊢;refine Zs func35 ntmps35 results35 ?_;refine Qe<|Qa<|QS (us:=QO q) U λb4 w1 ht hE h3=>Qa<|QS (us:=[oF oG nev]) U λb5 w2 T hF h4=>Qc ?_;have V:=ht.D T;have Y:=h3.I T;refine Qd<|Qg<|Qe<|Qs U Y U U<|Qa<|xf<|(VB q.nm h1 w2).mono ?_;rintro r3 w3 ⟨rfl,rfl⟩;refine x (Zz U)<|Qc<|QW U (λhi=>?_) (λhi=>?_)
 ·have G:YX q.nm=false:=by simpa using hi
  rw[OS G]at E;subst E;refine Qe<|Qc ?_;exact Ql ⟨[_],La,U,V.any,λe=>OU e og⟩
 have G:¬YX q.nm=false:=by simpa using hi
 rw[OR G]at E;have hu:=hm.I V;refine Qm<|Qs U Y U U<|x (QbA hu U U)<|Qc<|QZ U (λha=>?_) (λha=>?_)
 ·rw[OS ha]at E;subst E;refine Qe<|Qc ?_;exact Ql ⟨[_],La,U,V.any,λe=>OU e og⟩
 rw[OR ha]at E;refine Qh ?_;have hG:=hm.lt;refine Qm<|Qs U Y U U<|Qa<|Xw (k:=q.nm) hu U U λw4 hj hv=>xe ?_;rw[show ev _ _=Value.bool true from rfl,Qeu ha]at hv;have H:O3 [bm] w w4:=V.any.Q hj;have hH:=ht.size;have hc:=Y.J hj (by simp;omega);have h5:=h4.J hj (by simp;omega);have hf:ZK L w4.heap q.p.va q.p.vm q.p.ve q.p.a:=hA.st (H.mono (λb I=>by simp at I;subst I;exact hbL));have h6:QQ L' w4.heap vg amg:=hg.st (H.mono (λb I=>by simp at I;subst I;exact h2));refine Qd<|Qe<|Q0 U<|x (Zl (us:=ZS q.p) hc U U U)<|Qa<|xf<|(JF hf).mono ?_;rintro r5 w5 ⟨rfl,hh⟩;refine Qc<|Qm<|ZA U U<|xe<|QZ rfl (λJ=>?_) (λJ=>?_)
 ·rw[OS J]at E;subst E;refine Qm<|Qc ?_;exact Ql ⟨[_],La,U,H.D hh,λe=>OU e J⟩
 rw[OR J]at E;have h7:=(Z6 q.p.a).1 (Lo.1 J);refine Qh<|Qd<|Qg<|Qe<|Q0 U<|x (Zl (us:=ZS q.p) (hc.I hh) U U U)<|Qa<|xf<|(Qkb (hf.I hh)).mono ?_;rintro r6 w6 ⟨rfl,h8⟩;have O:=hh.D h8;have hw:=H.D O;have hy:=hc.I O;refine x (Zz U)<|Qc<|QW U (λhk=>?_) (λhk=>?_)
 ·have G:K9 q.p.a=false:=by simpa using hk
  rw[OS G]at E;subst E;refine Qe<|Qc ?_;exact Ql ⟨[_],La,U,hw,λe=>OU e og⟩
 have G:¬K9 q.p.a=false:=by simpa using hk
 rw[OR G]at E;refine Qe<|Q0 U<|Qs U hy U U<|x (Q9 U U)<|Qc<|QZ U (λhl=>?_) (λhl=>?_)
 ·have ho:q.p.a.st=0:=hl;rw[OS ho]at E;subst E;refine Qe<|Qc ?_;exact Ql ⟨[_],La,U,hw,λe=>OU e og⟩
 have ho:¬q.p.a.st=0:=hl;rw[OR ho]at E;refine Qe<|Q0 U<|Qs U hy U U<|x ZC<|Qa<|xf<|(QoA (q:=λe=>decide ((nev:Int)<=e)) (cap:=[.pointer (some ⟨b5,0,none⟩)]) (QQ.fl (hf.al.I O)) (λe he w2 T=>QiG ((h5.I O).I T))).mono ?_;rintro r7 w7 ⟨rfl,h9⟩;have S:=O.D h9;have hB:=H.D S;refine Qc<|QW U (λhp=>?_) (λhp=>?_)
 ·rw[OS hp]at E;subst E;refine Qe<|Qc ?_;exact Ql ⟨[_],La,U,hB,λe=>OU e og⟩
 rw[OR (by rw[hp];decide)]at E;have hI:=h7.al_le;refine Qe<|Q0 U<|Qs U (hc.I S) U U<|Qb<|Qa<|xf<|(QgK (hf.al.I S) (h6.I S) oa).mono ?_;rintro r8 w8 ⟨hC,rfl⟩;have hz:=S.D hC;have h0:=H.D hz;refine x (zI U)<|Qc<|QZ U (λhq=>?_) (λhq=>?_)
 ·have hs:(mns q.p.a.al amg).length≠0:=λe=>hq (Lq e);rw[OS hs]at E;subst E;refine Qe<|Qc ?_;exact Ql ⟨[_],La,U,h0,λe=>OU e og⟩
 have hs:¬(mns q.p.a.al amg).length≠0:=λe=>hq (λh=>e (by rw[show mns q.p.a.al amg=[] from h];rfl));rw[OR hs]at E;subst E;refine Qh<|Qe<|Qc ?_;exact Ql ⟨[_],La,U,h0,λ_=>hv.I hz⟩
theorem jM {v:O0}{l:xt}(h:yT L w.heap v l):
  Q5 prog 60 [v] w λr w'=>O3 [] w w'/\w'.ownsRow w.heap.size 73 2 r l.length (l.flatMap QI):=by
 have hc:=h.le;refine Zs func60 ntmps60 results60 ?_;refine Qe<|Qc ?_;obtain⟨ao,cap,G⟩:=h.shape;refine Qd<|Qm<|x (Xu (show ev _ _=_ from G) U)<|xe<|QW rfl (λH=>?_) (λH=>?_)
 ·refine Qe<|Qc<|Ql ⟨[nS],La,O3.Z _ _,?_⟩;rcases h.2.2 with⟨E,I⟩|⟨a,c,E,_⟩
  ·have:l=[]:=Lq I;subst this;exact QJ _ _ _ _
  rw[E]at G;cases G;cases H
 rcases h.2.2 with⟨E,I⟩|⟨a,c,E,I,V⟩
 ·rw[E]at G;injection G with e1;subst e1;cases H
 refine Qh<|Qe ?_;have Y:∀u∈l.flatMap QI,u.oneCell'=true:=by
  intro u hu;obtain⟨p,_,J⟩:=Mi.1 hu;simp only[oK,oJ,or_false]at J;rcases J with rfl|rfl <;> rfl
 refine Qa<|XQ λb5 w1 O S T=>Qb<|Qa<|Za (base:=w.heap.size) (T.own (n:=0) (sz:=2) U oa S) U (show ev _ _=_ from E) h.1 (V.I O) Y oa (ou T.lt) λv2 w2 ha hb he=>Qc<|Ql ⟨[v2],La,O.O hb S,?_⟩;simpa[tup]using ha
theorem jL {v:O0}{l:xt}(h:yT L w.heap v l):
  Q5 prog 61 [v] w λr w'=>O3 [] w w'/\w'.ownsRow w.heap.size 78 2 r l.length (l.flatMap QI):=by
 have hc:=h.le;refine Zs func61 ntmps61 results61 ?_;refine Qe<|Qc ?_;obtain⟨ao,cap,G⟩:=h.shape;refine Qd<|Qm<|x (Xu (show ev _ _=_ from G) U)<|xe<|QW rfl (λH=>?_) (λH=>?_)
 ·refine Qe<|Qc<|Ql ⟨[nS],La,O3.Z _ _,?_⟩;rcases h.2.2 with⟨E,I⟩|⟨a,c,E,_⟩
  ·have:l=[]:=Lq I;subst this;exact QJ _ _ _ _
  rw[E]at G;cases G;cases H
 rcases h.2.2 with⟨E,I⟩|⟨a,c,E,I,V⟩
 ·rw[E]at G;injection G with e1;subst e1;cases H
 refine Qh<|Qe ?_;have Y:∀u∈l.flatMap QI,u.oneCell'=true:=by
  intro u hu;obtain⟨p,_,J⟩:=Mi.1 hu;simp only[oK,oJ,or_false]at J;rcases J with rfl|rfl <;> rfl
 refine Qa<|XQ λb5 w1 O S T=>Qb<|Qa<|Za (base:=w.heap.size) (T.own (n:=0) (sz:=2) U oa S) U (show ev _ _=_ from E) h.1 (V.I O) Y oa (ou T.lt) λv2 w2 ha hb he=>Qc<|Ql ⟨[v2],La,O.O hb S,?_⟩;simpa[tup]using ha
theorem YA.low {base:Nat}{v:O0}(h:YA base av w.heap v n sz cs)(G:O3 X w w')(H:∀b∈X,b<base):YA base av w'.heap v n sz cs:=by
 intro L I;have J:Zv (X++L) w.heap v n sz cs:=h _ (λb E=>by
  rcases Lc.1 E with E|E
  ·exact .inl (H b E)
  exact I b E)
 exact(J.J G (λb E=>Lc.2 (.inl E))).up (λb E=>.inl (Lc.2 (.inr E)))
theorem Yu.low {α:Type}{g:α->LV}{sz T:Nat}{p:α->O0×Nat×Nat×LV}{base:Nat}{X:LN}{w w':OZ}{v:O0}{l:List α}(h:Yu g sz T p base w v l)(E:O3 X w w')(G:∀b∈X,b<base):Yu g sz T p base w' v l :=
 ⟨Qf h.own E (λb H I=>ov (Qi h.own b H).1 (G b I)),λq J=>(h.each q J).low E G⟩
theorem Yu.arr {g:α->LV}{p:α->O0×Nat×Nat×LV}{base:Nat}{v:O0}{l:List α}(h:Yu g sz T p base w v l)(E:l.length<=1099511627776)(G:∀b∈L,b<base):Zv L w.heap v l.length sz (l.flatMap g):=
 QH h.own E (λb H hbL=>ov (Qi h.own b H).1 (G b hbL))
abbrev xvP (q:XV):O0×Nat×Nat×LV:=(q.v,q.ls.length,2,q.ls.flatMap QI)
abbrev kvP (q:KV):O0×Nat×Nat×LV:=(q.v,q.ts.length,2,q.ts.flatMap QI)
abbrev XvN (base:Nat)(w:OZ)(v:O0)(l:List XV):Prop:=Yu Q6 2 71 xvP base w v l
abbrev KvN (base:Nat)(w:OZ)(v:O0)(l:List KV):Prop:=Yu Zc 3 76 kvP base w v l
theorem XvN.xcs {base:Nat}{v:O0}{l:List XV}{qs:List XV}(h:XvN base w v l)(J:l.map (·.x)=qs.map (·.x))(E:∀q∈qs,J6 q.nm)(O:l.length<=1099511627776)(G:∀b∈L,b<base):yD L w.heap v l:=by
 refine⟨h.arr O G,λq E=>h.each q E L (λb S=>.inl (G b S)),λq T=>?_⟩;have V:q.x∈qs.map (·.x):=by rw[<-J];exact LK T
 obtain⟨H,Y,e⟩:=LD.1 V;have I:=E H Y;have h3:H.nm=q.nm:=OT qz.nm e;rw[h3]at I;exact I
theorem KvN.kcs {base:Nat}{v:O0}{l:List KV}{qs:List KV}(h:KvN base w v l)(J:l.map (·.k)=qs.map (·.k))(E:∀q∈qs,J6 q.nm)(O:l.length<=1099511627776)(G:∀b∈L,b<base):yz L w.heap v l:=by
 refine⟨h.arr O G,λq E=>h.each q E L (λb S=>.inl (G b S)),λq T=>?_⟩;have V:q.k∈qs.map (·.k):=by rw[<-J];exact LK T
 obtain⟨H,Y,e⟩:=LD.1 V;have I:=E H Y;have h3:H.nm=q.nm:=OT xI.nm e;rw[h3]at I;exact I
theorem Qt {base e:Nat}{v:O0}(h:w.ownsRow base e sz v n cs):v.oneCell'=true:=by
 rcases h.2 with⟨E,_⟩|⟨g,cap,cur,E,_⟩ <;> subst E <;> rfl
theorem xJ {base e:Nat}{v:O0}(h:w.ownsRow base e sz v n cs):v.cells=#[v]:=by
 rcases h.2 with⟨E,_⟩|⟨g,cap,cur,E,_⟩ <;> subst E <;> rfl
theorem j7 {q:XV}(h:q.v.oneCell'=true):∀u∈Q6 q,u.oneCell'=true:=by
 intro u E;simp only[oK,oJ,or_false]at E;rcases E with rfl|rfl
 ·rfl
 exact h
theorem QeI {q:KV}(h:q.v.oneCell'=true):∀u∈Zc q,u.oneCell'=true:=by
 intro u E;simp only[oK,oJ,or_false]at E;rcases E with rfl|rfl|rfl
 ·rfl
 ·exact h
 rfl
def QqZ (N:Nat)(w:OZ)(r:O0)(sz:LI)(ex:List qz)(cs:List xI):Prop:=∃vs vx vk qx ks,r=.agg #[vs,vx,vk]/\qx.map (·.x)=ex/\ks.map (·.k)=cs/\∀L:LN,(∀b∈L,b<N)->QQ L w.heap vs sz/\yD L w.heap vx qx/\yz L w.heap vk ks
theorem jT {c:CL}(h:ZF L w.heap c):
  Q5 prog 38 [c.val] w λr w'=>O3 [] w w'/\QqZ w.heap.size w' r (szs c.V.co) c.V.ex c.V.cs:=by
 have pc:=h.co.arr.le;have pd:=h.ex.arr.le;have pf:=h.cs.arr.le;refine Zs func38 ntmps38 results38 ?_;refine Qe<|Qa<|QS (us:=c.cells) U λb1 w1 ga pg gb=>Qa<|Qo (us:=[nS,nS,nS]) U λb2 w2 gc ph gg=>xe ?_;have pj:=ga.size;have pm:=gb.lt;have pn:=gg.lt;refine Qe<|x (Qz Z)<|Qa<|Qo (us:=[nS,nS,nS]) U λG w3 g8 g9 h8=>Qa<|Qj (us:=[nS,nS,nS]) h8 U U U U oB λw4 ka h8 =>
  xe ?_
 have po:=h8.lt;have hf:O3 [] w2 w4:=g8.O ka g9;have gh:O3 [] w w4:=(ga.D gc).D hf;have gi:=(gb.I gc).I hf;have kb:=gg.I hf;have h4:=h.I gh;have pp:b1<G:=oa
 have pu:b2<G:=oa
 have kc:w.heap.size<=G:=oa
 have hJ:∀{wa wb:OZ},O3 [G] wa wb->O3 [] w wa->O3 [] w wb:=λha E=>E.O ha kc;refine Qd<|Qe<|Qs U gi U U<|QL h4.co.arr U<|Qb<|xe<|Qg<|QC (α:=Nat×O0) [(5,5),(14,26)] (λz=>[(14,oF oG z.1)]) (λz w'=>z.1<=c.co.length/\O3 [G] w4 w'/\Q7 w'.heap G 128 [z.2,nS,nS]/\Qu 3 w4.heap.size w' z.2 ((c.co.take z.1).map (·.p.a.st))) (λz=>c.co.length - z.1) ol (0,nS) La
  ⟨Ln _,O3.Z _ _,h8,QJ _ _ _ _⟩ ?_
 rintro⟨k,vs⟩ g w5 ⟨hk,hv,h9,O⟩;simp only[]at hk h9 O;have gj:=hJ hv gh;have h5:=h.I gj;have gk:=gi.J hv (by simp;omega);have ke:=kb.J hv (by simp;omega);have pw:=hv.size;refine Qe<|QX U U<|xe<|Qd<|QG U (λhK=>?_) (λhK=>?_)
 ·refine Qx ?_;have kf:c.co.length<=k:=by have T:¬(k:Int)<(c.co.length:Int):=hK;omega
  rw[Ls kf]at O;refine Qd<|Qe<|Qs U gk U U<|QL h5.ex.arr U<|Qb<|xe<|Qg<|QC (α:=Nat×O0×List XV) [(7,7),(30,45)] (λz=>[(30,oF oG z.1)]) (λz w'=>z.1<=c.ex.length/\O3 [G] w5 w'/\Q7 w'.heap G 128 [vs,z.2.1,nS]/\XvN w5.heap.size w' z.2.1 z.2.2/\z.2.2.map (·.x)=(c.ex.take z.1).map (·.x)) (λz=>c.ex.length - z.1) ol (0,nS,[]) La
   ⟨Ln _,O3.Z _ _,h9,Yu.nil,U⟩ ?_
  rintro⟨j,vx,qx⟩ g w6 ⟨hj,hg,hM,hh,hn⟩;simp only[]at hj hM hh hn;have gl:=hJ hg gj;have h6:=h.I gl;have kg:=gk.J hg (by simp;omega);have kh:=ke.J hg (by simp;omega);have pz:=hg.size;have p0:qx.length=j:=by have:=OT oP hn;simp at this;omega
  refine Qe<|QX U U<|xe<|Qd<|QG U (λhN=>?_) (λhN=>?_)
  ·refine Qx ?_;have ki:c.ex.length<=j:=by have T:¬(j:Int)<(c.ex.length:Int):=hN;omega
   rw[Ls ki]at hn;refine Qd<|Qe<|Qs U kg U U<|QL h6.cs.arr U<|Qb<|xe<|Qg<|QC (α:=Nat×O0×List KV) [(9,9),(49,66)] (λz=>[(49,oF oG z.1)]) (λz w'=>z.1<=c.cs.length/\O3 [G] w6 w'/\Q7 w'.heap G 128 [vs,vx,z.2.1]/\KvN w6.heap.size w' z.2.1 z.2.2/\z.2.2.map (·.k)=(c.cs.take z.1).map (·.k)) (λz=>c.cs.length - z.1) ol (0,nS,[]) La
    ⟨Ln _,O3.Z _ _,hM,Yu.nil,U⟩ ?_
   rintro⟨i,vk,ks⟩ g w7 ⟨hi,ho,hO,hp,hr⟩;simp only[]at hi hO hp hr;have gm:=hJ ho gl;have h7:=h.I gm;have kj:=kh.J ho (by simp;omega);have p1:=ho.size;have p2:ks.length=i:=by have:=OT oP hr;simp at this;omega
   refine Qe<|QX U U<|xe<|Qd<|QG U (λhP=>?_) (λhP=>?_)
   ·refine Qx ?_;have kk:c.cs.length<=i:=by have T:¬(i:Int)<(c.cs.length:Int):=hP;omega
    rw[Ls kk]at hr;have kn:Zj [vs,vx,vk]:=⟨Qt O,Qt hh.own,Qt hp.own,Z⟩;refine Qe<|Q2 hO U U<|Qa<|Qj (us:=[vs,vx,vk]) kj U U U U kn λw8 hA ko=>xe ?_;refine Ql ⟨[.agg #[vs,vx,vk]],⟨⟨_,U,Qn U (ko.at (L:=[]) oe).cells⟩,Z⟩,gm.O hA oa,?_⟩;have kq:=Qf ((Qf O hg (λb E H=>by have:=(Qi O b E).1;simp at H;omega))) ho (λb E H=>by have:=(Qi O b E).1;simp at H;omega);have kr:=Qf kq hA (λb E H=>by have:=(Qi O b E).1;simp at H;omega);have kt:=(Yu.low hh ho (by simp;omega)).low hA (by simp;omega);have ku:=Yu.low hp hA (by simp;omega);refine⟨vs,vx,vk,qx,ks,U,hn,hr,λL hL=>⟨?_,XvN.xcs kt hn h.ex.nm oa (λb E=>ou (hL b E)),KvN.kcs ku hr h.cs.nm oa (λb E=>ou (hL b E))⟩⟩;have he:szs c.V.co=c.co.map (·.p.a.st):=by show((c.co.map IV.it).map _)=_;rw[Mh];rfl
    rw[he];exact Qu.ints kr (by rw[Lh];omega) (λb E=>ou (hL b E))
   have hs:i<c.cs.length:=by have T:(i:Int)<(c.cs.length:Int):=hP;omega
   have gn:=Lm hs;have go:c.cs.take (i+1)=c.cs.take i++[c.cs[i]'hs]:=Ll hs;refine Qh<|Qd<|Qg<|Qe<|O6 Xb h7.cs.arr U U hs λp3 gp=>?_;refine Zk (c.cs[i]'hs) λq hq=>?_;rw[hq]at gp gn go;have J:=h7.cs.each q gn;refine x (Qv gp U U)<|Qa<|Qo (us:=[.string .empty,nS,oF oG 0]) U λb9 w9 kv kw hw=>Qa<|Qj (us:=Zc q) hw U U U U ⟨U,J.one,U,Z⟩ λV kx hw =>
    xe ?_
   have hB:O3 [] w7 V:=kv.O kx kw;have gq:=hO.I hB;have hQ:=Qi hp.own;have S:G∉ob vk:=λH=>ou (hQ G H).1
   have hR:b9∉ob vk:=λH=>ou (hQ b9 H).2
   refine QR (O3 (ob vk) V) [oD 0,oD 1,oD 2,oD 3,oD 4,oD 5,oD 7,oD 8,oE 6,oD 9,oE 10,oE 11,oD 12,oE 13] mixed ol od (O3.C _ _) ?_;have kz:=hB.D (O3.C [] V);refine p (QP U)<|pq (λ_ I=>Qq (gq.J I S) U U)<|p (QP U)<|pq (λ_ I=>Qq (hw.J I hR) U U) <|
    p (QP rfl)<|pq (λ_ I=>Qq (hw.J I hR) U U)<|p (QP U)<|pq (λ_ I=>Qq (hw.J I hR) U U) <|
    pk<|xf<|(jL (J.I kz)).mono ?_
   rintro hy p4 ⟨k0,hS⟩;have hz:=(O3.C [] V).D k0;refine⟨hz.any,?_⟩;refine p (λ_=>Qz ⟨U,xJ hS,U,Z⟩)<|pk<|QB (us:=[Zc ⟨q.nm,hy,q.ts,q.bd⟩]) U U og oe ⟨rfl,rfl,Z⟩ λp5 p6 h0 p7 k4=>⟨(hz.D h0).any,?_⟩;have hC:=(hB.D hz).D h0;have hT:V.heap.size=({ V with drawn:=V.drawn+1 }:OZ).heap.size:=rfl
   have p8:=hB.size;have p9:=hC.size;refine pk<|Za (news:=Zc ⟨q.nm,hy,q.ts,q.bd⟩) (L:=[]) (Qp hp.own hC) U U U (k4.at oe) (QeI (q:=⟨q.nm,hy,q.ts,q.bd⟩) (Qt hS)) oa oa λhU gr gs hD k5=>⟨((hz.D h0).any (L:=ob vk)).Q hD,?_⟩;have k6:KvN w6.heap.size gr hU (ks++[⟨q.nm,hy,q.ts,q.bd⟩]):=Yu.app hp hC (Qp hS h0) J.le (by rw[<-hT];omega) oa gs hD k5;have k7:=(gq.J ((hz.D h0).any (L:=ob vk)) S).J hD S;refine p (QP U)<|pkl (hl:=by kernel_rfl)<|QA (j:=2) (u:=hU) k7 U U oe (Qt gs) λqc gt k8=>pe ?_;have k9:O3 [G] w6 gr:=(ho.D hC).then hD (λb E=>.inr (hQ b E).1);refine Qw<|QN U U<|Qb<|xe<|⟨(i+1,hU,ks++[⟨q.nm,hy,q.ts,q.bd⟩]),oh,La,hs,?_,k8,Yu.low k6 gt (by simp;omega),?_⟩
   ·exact k9.Q gt
   simp only[];rw[Lp,hr,go,Lp];rfl
  have ht:j<c.ex.length:=by have T:(j:Int)<(c.ex.length:Int):=hN;omega
  have gu:=Lm ht;have gv:c.ex.take (j+1)=c.ex.take j++[c.ex[j]'ht]:=Ll ht;refine Qh<|Qd<|Qg<|Qe<|O6 Xi h6.ex.arr U U ht λqf gw=>?_;refine Zk (c.ex[j]'ht) λq hq=>?_;rw[hq]at gw gu gv;have J:=h6.ex.each q gu;refine x (Qv gw U U)<|Qa<|Qo (us:=[.string .empty,nS]) U λb7 ql ma mf hE=>Qa<|Qj (us:=Q6 q) hE U U U U ⟨U,J.one,Z⟩ λY mg hE =>
   xe ?_
  have hF:O3 [] w6 Y:=ma.O mg mf;have gx:=hM.I hF;have hV:=Qi hh.own;have S:G∉ob vx:=λH=>ou (hV G H).1
  have gy:b7∉ob vx:=λH=>ou (hV b7 H).2
  refine QR (O3 (ob vx) Y) [oD 0,oD 1,oD 2,oD 3,oD 4,oD 5,oE 6,oD 7,oE 8,oE 9,oD 10,oE 11] mixed ol od (O3.C _ _) ?_;have mh:=hF.D (O3.C [] Y);refine p (QP U)<|pq (λ_ I=>Qq (gx.J I S) U U)<|p (QP U)<|pq (λ_ I=>Qq (hE.J I gy) U U) <|
   p (QP rfl)<|pq (λ_ I=>Qq (hE.J I gy) U U)<|pk<|xf<|(jM (J.I mh)).mono ?_
  rintro h1 qo ⟨mj,hW⟩;have h2:=(O3.C [] Y).D mj;refine⟨h2.any,?_⟩;refine p (λ_=>Qz ⟨U,xJ hW,Z⟩)<|pk<|QB (us:=[Q6 ⟨q.nm,h1,q.ls⟩]) U U og oe ⟨rfl,rfl,Z⟩ λqr q0 h3 q1 mo=>⟨(h2.D h3).any,?_⟩;have hG:=(hF.D h2).D h3;have hT:Y.heap.size=({ Y with drawn:=Y.drawn+1 }:OZ).heap.size:=rfl
  have q2:=hF.size;have q3:=hG.size;refine pk<|Za (news:=Q6 ⟨q.nm,h1,q.ls⟩) (L:=[]) (Qp hh.own hG) U U U (mo.at oe) (j7 (q:=⟨q.nm,h1,q.ls⟩) (Qt hW)) oa oa λhX gz g0 hH mq=>⟨((h2.D h3).any (L:=ob vx)).Q hH,?_⟩;have ms:XvN w5.heap.size gz hX (qx++[⟨q.nm,h1,q.ls⟩]):=Yu.app hh hG (Qp hW h3) J.le (by rw[<-hT];omega) oa g0 hH mq;have mt:=(gx.J ((h2.D h3).any (L:=ob vx)) S).J hH S;have mu:O3 [G] w5 gz:=(hg.D hG).then hH (λb E=>.inr (hV b E).1);refine p (QP U)<|pkl (hl:=by kernel_rfl)<|QA (j:=1) (u:=hX) mt U U oe (Qt g0) λq4 g2 mv=>pe ?_;refine Qw<|QN U U<|Qb<|xe<|⟨(j+1,hX,qx++[⟨q.nm,h1,q.ls⟩]),oh,La,ht,?_,mv,Yu.low ms g2 (by simp;omega),?_⟩
  ·exact mu.Q g2
  simp only[];rw[Lp,hn,gv,Lp];rfl
 have hu:k<c.co.length:=by have T:(k:Int)<(c.co.length:Int):=hK;omega
 have g3:=Lm hu;have g4:c.co.take (k+1)=c.co.take k++[c.co[k]'hu]:=Ll hu;have q5:((c.co.take k).map (·.p.a.st)).length=k:=by simp;omega
 refine Qh<|Qd<|Qg<|Qe<|O6 Yj h5.co.arr U U hu λj1 T=>?_;refine Zk (c.co[k]'hu) λq hq=>?_;rw[hq]at T g3 g4;have J:=h5.co.each q g3;refine x (Qv T U U)<|Qa<|Qo (us:=[.string .empty,nS,oF oG 0,nS,nS]) U λb5 j2 mw my hY=>Qa<|Qj (us:=QO q) hY U U U U ⟨U,J.al.one,U,J.mr.one,J.ed.one,Z⟩ λmz m2 hY =>
  xe ?_
 have g5:O3 [] w5 mz:=mw.O m2 my;have m3:=h9.I g5;refine Qw<|Qs U m3 U U<|Q0 U<|Qs U hY U U<|Qa<|QB (us:=[[oF oG q.p.a.st]]) U U og oe ⟨rfl,rfl,Z⟩ λj3 za m4 zb m5=>?_;have hI:=g5.D m4;have zv:=hI.size;have g6:=Qi O;have S:G∉ob vs:=λH=>ou (g6 G H).1
 refine Qa<|Za (news:=[oF oG q.p.a.st]) (L:=[]) (Qp O hI) U U U (m5.at oe) (by simp[Value.oneCell']) oa oa λv24 m6 hZ hf z0=>?_;have m7:=(h9.I hI).J hf S;have m8:O3 [G] w4 m6:=(hv.D hI).then hf (λb E=>.inr (g6 b E).1);refine Q0 rfl<|Qa<|QA (j:=0) (u:=v24) m7 U U oe (Qt hZ) λz1 g7 m9 =>
  xe ?_
 have pa:=Qf hZ g7 (λb E H=>by have:=(Qi hZ b E).1;simp at H;omega);refine Qw<|QN U U<|Qb<|xe<|⟨(k+1,v24),oh,La,hu,m8.Q g7,m9,?_⟩;simp only[];rw[g4,Lp];exact Qu.snoc (n:=q.p.a.st) pa
end Go.Lg
