/- Merged out of 60 texts. -/
import Derived.Test.YteekilnpgonojaaGreatDoorNea
import Derived.Laws.Strings
import Derived.RangeFuncNested
import Derived.RangeFuncLeaves
import Derived.RangeFuncCalls
import Derived.OrdersIn
import Derived.TacticsIn
set_option maxHeartbeats 40000000
set_option maxRecDepth 100000
set_option linter.all false
open Go Go.Lg
open Go.Value renaming int->oF
open Go.IntKind renaming i64->oG
open _root_.List renaming mem_singleton->oI,not_mem_nil->oJ,mem_cons->oL,length_append->oM,replicate->oN,length_singleton->oO,length->oP,getD->oQ,range'->oR,all_cons->oS,range->oT,mem_append->oV,length_cons->oW,map_cons->oX,getElem?_toArray->oZ,append_assoc->o0,cons_append->Ob,length_map->Oc,size_toArray->Od,flatMap_cons->Oe,getElem?_eq_getElem->Of,headD_cons->Ol,all_eq_true->Om,tail_cons->On,singleton_append->Ov,append_nil->Ox,mem_map->Oz,mem_range'_1->OA,range'_succ->OB,mem_filter->OF,take_append->OK,map_nil->OL,flatMap_nil->OM
open _root_.Bool renaming and_eq_true->oK,not_eq_true'->Og,or_eq_false_iff->Oh,true_and->OO
open _root_.Array renaming replicate->oU
open _root_.Nat renaming add_mul->Oo,add_assoc->ON,zero_mul->OP,beq->OS
open _root_.Int renaming toNat_natCast->Ot
open _root_.Option renaming map_some->Oy
open Go renaming World->O1,Value->O2,Operand->O3,Program->O4
open Go.Proofs Go.Proofs.Tryz
variable {w w' W':O1}{L L' X ds ns av:LN}{n t i sz b T j E g N id o ty cap b1 B kt lo hi b2 et G M gf gp:Nat}{cs us news capt:LV}{H:xC}{a:Q9}{α β:Type}{y:O3}{z va ve vm vt v' vl vs vx vk:O2}{l u al ul out rs:LI}{f f1:Fr}{P:O4}{fn:Func}{aa:List Q9}{s:Int}{es:List Ed}{d:xF}{af:xD}{gd:xt}{K:xz}{k':IntKind}{at_:Array Nat}{ops:xE}{rest:xu}{Φ:O2→O1→Prop}
namespace Go.Lg
theorem Qbm (h:ZH L w.heap va vm ve a):
  Q6 prog 199 [.agg #[va,oF oG a.st,vm,ve]] w λr w'=>O5 [] w w'/\∃v,r=.tuple #[v,oF oG (Jl a)]/\(Jl a≠0->v=zA)/\(Jl a=0->Jv w.heap.size w'.heap v (Yd a)):=by
 refine Zq func199 ?_;refine Qc<|Qe<|QS (us:=[va,oF oG a.st,vm,ve]) U λb1 w1 T hl V=>Qe<|Qo (us:=[nS,oF oG 0,nS,nS]) U λb2 w2 G hm H=>Qb ?_;have I:=T.D G;refine Qd<|Qc<|Q5 (V.I G) U U<|QM<|(Je (h.I I)).mono ?_;rintro r3 w3 ⟨rfl,E⟩;refine Qb ?_;have hn:=T.size;refine Qm<|ZA U U<|xe<|QY rfl (λJ=>?_) (λJ=>?_)
 ·refine Qc<|x (Qz Z)<|Qa<|Qe<|Qj (us:=[nS,oF oG 0,nS,nS]) (H.I E) U U U U oC λw4 hf hg=>Qb<|Qk ⟨[zA,oF oG (Jl a)],⟨⟨_,U,Qn U (hg.at (L:=[]) oe).cells⟩,rfl,Z⟩,(I.D E).O hf oa,zA,rfl,λ_=>rfl,λe=>OW e J⟩
 have O:Jl a=0:=Lo.1 J;have hh:=(Z1 a).1 O;have ho:=H.lt;have S:=I.D E;refine Qh<|Qc<|Q5 ((V.I G).I E) U U<|QM<|(Jt (h.I S) hh).mono ?_;rintro v w5 ⟨Y,hF⟩;obtain⟨us,ha,hb,hi⟩:=JR hF;have hp:=E.size;have hj:=S.size;refine Qe<|Qj (us:=us) ((H.I E).I Y) U ha hb U hi λw6 he hk =>
  Qb<|Qk ⟨[.agg us.toArray,oF oG 0],⟨⟨_,U,Qn hb (hk.at (L:=[]) oe).cells⟩,rfl,Z⟩,(S.D Y).O he oa,v,by rw[O,ha];rfl,λe=>OW O e,λ_=>?_⟩
 exact(KA hF oa he).mono hj
def gget:List ((Int×Int)×Int)->Int×Int->Option Int
 | [],_=>none
 | (k',v)::m,k=>if k'=k then some v else gget m k
def gput:List ((Int×Int)×Int)->Int×Int->Int->List ((Int×Int)×Int)
 | [],k,v=>[(k,v)]
 | (k',v')::m,k,v=>if k'=k then(k',v)::m else(k',v')::gput m k v
def QqW (s:Q9)(cls:LI)(x:Nat)(m:List ((Int×Int)×Int))(v:Int):List ((Int×Int)×Int):=gput m (O6 cls x,v) (O6 cls (to0 s x v).toNat)
def QqT (s:Q9)(l:List Uj)(cls:LI)(z:LI×List ((Int×Int)×Int))(x:Nat):LI×List ((Int×Int)×Int):=
 if O6 cls x<0 then z else(if((lget l x).mk' && (lget l x).ps)=true then Qnt z.1 (O6 cls x)else z.1,(lget l x).en.foldl (QqW s cls x) z.2)
def QpC (s:Q9)(l:List Uj)(cls:LI):LI×List ((Int×Int)×Int):=(oR 0 cls.length).foldl (QqT s l cls) ([],[])
def QqV (m:List ((Int×Int)×Int))(c:Nat)(v:Int):Option Ed:=(gget m ((c:Int),v)).map λt=>((c:Int),v,t)
def QqU (m:List ((Int×Int)×Int))(al:LI)(n:Nat):List Ed:=(oR 0 n).flatMap λc=>al.filterMap (QqV m c)
def QqX (s:Q9)(l:List Uj)(cls:LI):Q9:=⟨s.al,QpP cls+1,(QpC s l cls).1,QqU (QpC s l cls).2 s.al (QpP cls+1).toNat⟩
def red (p s:Q9):Q9:=QqX s (ctls p s (opQ p s)) (Qqj p s (opQ p s))
def xJ (p s:Q9):Int:=if opE p s≠0 then opE p s else if opQ p s=[]then 0 else Jl (red p s)
theorem Ks (h:i<l.length):O6 l i∈l:=by rw[<-ZG h];exact Ll h
theorem Zk (a:α){Q:Prop}(h:∀b,a=b->Q):Q:=h a U
theorem exN {a:Int}(E:0<=a){Q:Prop}(h:∀u:Nat,a=u->Q):Q:=h a.toNat (Int.toNat_of_nonneg E).symm
theorem Qar {J n1 I:Nat}(S:Zb H b1 3 (a.al.map (.int .i64)))(T:Zb H b2 3 (a.mr.map (.int .i64)))(V:Zb H J 167 (a.ed.flatMap QF))(g1:N<=b1)(g2:N<=b2)(g3:N<=J)
  (Y:a.al.length=n1) (l2:a.mr.length=G) (l3:a.ed.length=I) (m1:n1<=1000) (m2:G<=1000) (m3:I<=1000):
  Jv N H (.agg #[.slice (some ⟨b1,0,none⟩) n1 n1,oF oG a.st,.slice (some ⟨b2,0,none⟩) G G,.slice (some ⟨J,0,none⟩) I I]) a:=by
 subst Y l2 l3;refine⟨_,_,_,U,λL O=>⟨?_,?_,?_⟩⟩
 ·exact S.arr (λE=>ou (O _ E)) oe oa (Lu _)
 ·exact T.arr (λE=>ou (O _ E)) oe oa (Lu _)
 exact V.arr (λE=>ou (O _ E)) (by rw[Y5 _ 3 J4]) oa (Lu _)
section
variable {pS:String}
class Ay (P:O4)(t:Nat)(m e sz:outParam Nat):Prop where
 u:P.underlying t=some (.array m e)
 i:(P.info? e).map (·.size)=some sz
theorem ZZ {x:O3}{m e:Nat}[h:Ay P t m e sz]{k:IntKind}(hx:ev f x=.pointer (some ⟨b,o,none⟩))(G:ev f y=.int k i)(H:i<m):
  (execOp (ev f) ⟨d,.indexAddr t x y,ty,pS,af,gd⟩).run P w=.ok (.value (.pointer (some ⟨b,o+i*sz,none⟩))) w:=by
 have hi:=h.i;cases E:P.info? e with
 | none=>simp[E]at hi
 | some ii =>
  simp[E]at hi;simp[execOp,hx,G,Instr.indexAt,asIntOf,run_underlying h.u,Instr.sureAddr,sizeOf,typeInfo,E,hi,Km];intro I;omega
theorem QmK {a:Nat}(E:a<256):inK .u8 ((a &&& b:Nat):Int):=by
 have:a &&& b<=a:=Nat.and_le_left;exact⟨oa,oa⟩
theorem z7 {x:O3}{a:Nat}(hx:ev f x=.int .u8 a)(H:ev f y=.int .u8 b)(E:a<256)(I:b<256):
  (execOp (ev f) ⟨d,.binOp .and t x y G,ty,pS,af,gd⟩).run P w=.ok (.value (.int .u8 ((a &&& b:Nat):Int))) w:=by
 refine Ji hx H ?_;simp only[binOp,Op.intBits,BitVec.ofInt_natCast,ne_eq,not_true_eq_false,if_false,Sem.run_pure];rw[BitVec.toNat_and,BitVec.toNat_ofNat,BitVec.toNat_ofNat,M9 (show a<2 ^ IntKind.u8.bits from E),M9 (show b<2 ^ IntKind.u8.bits from I),YJ (QmK E)]
theorem QaA (m i:Nat):((m:Int) / 2 ^ i)=((m / 2 ^ i:Nat):Int):=by rw[Int.natCast_ediv,Int.natCast_pow];rfl
end
inductive Pt where
 | pl (l:xu)
 | fk (pre:xu) (i j:Nat) (t1 t2:Pt)
def Pt.len:Pt->Nat
 | .pl l=>l.length
 | .fk pre _ _ t1 _=>pre.length+(1+t1.len)
def KE (all:Array Oper):xu->Array Bool->Bool
 | [],_=>true
 | (k,q)::pl,ls=>q && (Region.ready .any all ls).contains k && Region.free .any all ls k && KE all pl (ls.setIfInBounds k true)
def Z8:xu->Array Bool->Array Bool
 | [],ls=>ls
 | (k,_)::pl,ls=>Z8 pl (ls.setIfInBounds k true)
def XT (P:O4)(all:xE)(C:xA)(K:xz):Pt->Fr->O1->Prop
 | .pl l=>XP P all C K l
 | .fk pre i j t1 t2=>XP P all C (λf w=>(Yb all f (QV all i)=true/\XO P (QV all i) f w λE w'=>C w'/\XT P all C K t1 E w') /\
   (Yb all f (QV all j)=true/\XO P (QV all j) f w λE w'=>C w'/\XT P all C K t2 E w')) pre
section
variable {all:xE}{C:xA}{B:xz}
theorem YM:∀(pl:xu) (ls:Array Bool),(Z8 pl ls).size=ls.size
 | [],_=>rfl
 | (k,q)::pl,ls=>by rw[Z8,YM];simp
theorem YI {m:Nat}(O:Region.noSelect all.toArray=true):∀(pl:xu) (ls:Array Bool) (f:Fr) (w:O1),C w->KE all.toArray pl ls=true ->
  (∀f,B f w->XA P all C K m (Z8 pl ls) f w)->XP P all C B pl f w->XA P all C K (pl.length+m) ls f w
 | [],ls,f,w,E,S,H,h=>by
  simp only[XP]at h;rw[Nj,LR];exact H f h
 | (I,q)::pl,ls,f,w,E,S,H,h=>by
  simp only[KE,oK]at S;obtain⟨⟨⟨rfl,hr⟩,hf⟩,Y⟩:=S;simp only[XP]at h;have T:I∈Region.ready .any all.toArray ls:=by simpa using hr
  have e:(oP ((I,true)::pl))+m=(pl.length+m)+1:=by simp;omega
  rw[e];cases G:all[I]? with
  | none =>
   exfalso;obtain⟨_,o,hc,_⟩:=mem_ready.1 T;simp[G]at hc
  | some o =>
   rw[Zm G]at h;have ha:∀(j:Nat) (o:Oper) cs b,all[j]?=some o->o.op≠.select cs b:=λj o cs b V=>Region.noSelect_spec O j o cs b (oz V);have hb:=λj oj V=>Region.free_spec (ops:=all.toArray) (md:=.any) (i:=I) (oi:=o) (listed:=ls) (oz G) hf j oj (oz V);cases J:Yb all f o with
   | false =>
    rw[J]at h;exact Xj (v:=undef) (D:=λw=>U4 o=true->C w) G (λ_ h=>h) ha _ ls f w (λ_=>E) hb T (.inr ⟨J,U⟩) (YI O pl _ _ _ E Y H h)
   | true =>
    rw[J]at h;simp only[cond_true]at h;obtain⟨v,hv,hx⟩:=h;exact Xj (v:=v) (D:=λw=>U4 o=true->C w) G (λ_ h=>h) ha _ ls f w (λ_=>E) hb T (.inl ⟨J,hv⟩) (YI O pl _ _ _ E Y H hx)
end
theorem YY.lt_of {a:Int}(h:YY (a::l)){x:Int}(hx:x∈l):a<x:=(L3.1 h).1 x hx
theorem YY.tail {a:Int}(h:YY (a::l)):YY l:=(L3.1 h).2
theorem Qlx (keep:Bool->Bool->Bool):∀(n:Nat) (a b:LI),a.length+b.length<=n->YY a->YY b->∀x,x∈mrg keep a b↔(x∈a\/x∈b)/\keep (decide (x∈a)) (decide (x∈b))=true:=by
 intro n;induction n with
 | zero =>
  intro a b h _ _ x;have S:a=[]:=Lp oa;have T:b=[]:=Lp oa;subst S T;simp[KK]
 | succ n ih =>
  intro a b H ia ib x;cases a with
  | nil =>
   cases b with
   | nil=>simp[KK]
   | cons y b =>
    rw[Kl keep oe];have:=ih [] b (by simp at H ⊢;omega) ia ib.tail x;have G:y∉b:=λh=>ou (ib.lt_of h)
    simp only[Jq,tl,hx,cond_true,cond_false,On,Ol,oV];rw[this];by_cases e:x=y
    ·subst e;cases E:keep false true <;> simp[E,G]
    cases keep false true <;> simp[e]
  | cons u a =>
   cases b with
   | nil =>
    rw[Kl keep oe];have:=ih a [] (by simp at H ⊢;omega) ia.tail ib x;have G:u∉a:=λh=>ou (ia.lt_of h)
    simp only[Jq,tl,hx,cond_true,cond_false,On,Ol,oV];rw[this];by_cases e:x=u
    ·subst e;cases E:keep true false <;> simp[E,G]
    cases keep true false <;> simp[e]
   | cons y b =>
    rw[Kl keep oe];have O:u∉a:=λh=>ou (ia.lt_of h)
    have G:y∉b:=λh=>ou (ib.lt_of h)
    rcases Int.lt_trichotomy u y with I|I|I
    ·have J:u∉y::b:=λh=>by
      rcases Li.1 h with h|h
      ·omega
      have:=ib.lt_of h;omega
     have:=ih a (y::b) (by simp at H ⊢;omega) ia.tail ib x;have e1:decide (u<=y)=true:=OX oa;have e2:decide (y<=u)=false:=OZ oa;simp only[Jq,tl,hx,e1,e2,cond_true,cond_false,On,Ol,oV];rw[this];by_cases e:x=u
     ·subst e;cases E:keep true false <;> simp[E,O,J]
     cases keep true false <;> simp[e]
    ·subst I;have:=ih a b (by simp at H ⊢;omega) ia.tail ib.tail x;have e1:decide (u<=u)=true:=OX oa;simp only[Jq,tl,hx,e1,cond_true,On,Ol,oV];rw[this];by_cases e:x=u
     ·subst e;cases E:keep true true <;> simp[E,O,G]
     cases keep true true <;> simp[e]
    have J:y∉u::a:=λh=>by
     rcases Li.1 h with h|h
     ·omega
     have:=ia.lt_of h;omega
    have:=ih (u::a) b (by simp at H ⊢;omega) ia ib.tail x;have e1:decide (u<=y)=false:=OZ oa;have e2:decide (y<=u)=true:=OX oa;simp only[Jq,tl,hx,e1,e2,cond_true,cond_false,On,Ol,oV];rw[this];by_cases e:x=y
    ·subst e;cases E:keep false true <;> simp[E,G,J]
    cases keep false true <;> simp[e]
theorem zq {keep:Bool->Bool->Bool}{a b:LI}(ia:YY a)(ib:YY b)(x:Int):x∈mrg keep a b↔(x∈a\/x∈b)/\keep (decide (x∈a)) (decide (x∈b))=true :=
 Qlx keep _ a b (Lu _) ia ib x
def setK (m k:Nat):LI:=((oR 0 k).filter λi=>decide (((m / 2 ^ i) &&& 1)=1)).map λi:Nat=>(i:Int)
theorem U0 (m k:Nat):setK m (k+1)=if(m / 2 ^ k) &&& 1=1 then setK m k++[(k:Int)]else setK m k:=by
 unfold setK;rw[Mz,L5,Ls,LR];by_cases h:(m / 2 ^ k) &&& 1=1
 ·rw[OU h,Mf,OU (OX h)];rfl
 rw[OT h,Mf,OT (by rw[OZ h];simp),Nk,Np,LQ]
theorem JG (m:Nat):∀k,(setK m k).length<=k
 | 0=>by simp[setK]
 | k+1=>by
  have:=JG m k;rw[U0];split
  ·simp;omega
  omega
theorem QbH (m k:Nat):YY (setK m k):=by
 unfold setK YY;rw[MO];refine List.Pairwise.sublist MY ?_;exact(Nh (s:=0) (n:=k)).imp (λh=>oa)
instance ayCx1:Ay prog 113 4 5 1:=⟨od,od⟩
section
variable {pS:String}
theorem qU {e bys:Nat}[h:Sl P t e sz bys z]{base:Nat}{v:O2}(E:w.ownsRow base e sz v n cs):
  (Builtin.append_ #[t,t] ty #[v,nS]).run P w=.ok v w:=by
 obtain⟨i,hi,_,H,_⟩:=Sl.info h;rcases E.2 with⟨rfl,rfl⟩|⟨g,cap,cur,rfl,I,J,G,O,S,T⟩
 ·simp[Builtin.append_,run_underlying h.u,sizeOf,typeInfo,hi,Builtin.lenOf,Builtin.firstCells]
 simp[Builtin.append_,run_underlying h.u,sizeOf,typeInfo,hi,Builtin.lenOf,Builtin.firstCells,G,storeCells]
theorem QaL {e bys:Nat}[h:Sl P t e sz bys z]{s:O3}{base:Nat}{v:O2}(E:w.ownsRow base e sz v n cs)(I:ev f s=v)
  {v2:O2} {m:Nat}   (G:Zn L w.heap v2 m sz news) (J:ev f y=v2) (O:∀u∈news,u.oneCell'=true)
  (H:n+m<=1099511627776) (S:base<=w.heap.size)
  (hK:∀v' w',w'.ownsRow base e sz v' (n+m) (cs++news)->O5 (ob v) w w'->(∀b∈ob v',b∈ob v\/w.heap.size<=b)->K (QW f d v') w') (T:bys<=128:=by decide):
  XO P ⟨d,.call ⟨.builtin .append,#[s,y],#[t,t]⟩,ty,pS,af,gd⟩ f w K:=by
 rcases G.2.2 with⟨e1,e2⟩|⟨a,c,e1,_,e3⟩
 ·subst e2;have V:news=[]:=Lp (by have:=G.1;simpa using this);subst V;have Y:(execOp (ev f) ⟨d,.call ⟨.builtin .append,#[s,y],#[t,t]⟩,ty,pS,af,gd⟩).run P w=.ok (.value v) w:=by
   simp[execOp,resolve,invoke,builtin,I,J,e1,qU (ty:=ty) E]
  exact xv Y (hK v w (oz E) (O5.Z _ _) (λb H=>.inl H))
 exact Za E I (J.D e1) G.1 e3 O H S hK T
end
theorem QeX {v:O2}(h:QQ L w.heap v l)(x:Int):
  Q6 prog 217 [v,oF oG x] w λr w'=>r=.bool (decide (x∈l))/\w'=w:=by
 have S:=h.le;refine Zq func217 ?_;refine Qc<|Lg.Qb<|Qd<|Qc<|Lg.Qb<|Qf<|QD (α:=Nat) [(4,17)] (λk=>[(5,oF oG k)]) (λk w'=>w'=w/\k<=l.length/\(x∈l↔x∈l.drop k)) (λk=>l.length - k) ol 0 La ⟨U,Ln _,oe⟩ ?_;rintro k g w' ⟨rfl,T,G⟩;refine Qd<|Qc<|Lg.Qa<|Lg.Qa<|Lg.x (Xo h U)<|Lg.QZ U U<|xe<|QG rfl (λJ=>?_) (λJ=>?_)
 ·refine Qy<|Qc<|Lg.Qb<|Qk ⟨[.bool false],La,?_,U⟩;rw[Lq oa]at G;simp[tup,G]
 have I:k<l.length:=oa
 have hd:=Zg I;refine Qh<|Qd<|Qf<|Qc<|Lg.Qa<|Lg.Qa<|xii h U U I λV O=>Lg.x (QA O U)<|Lg.Qa<|Lg.x (Q0 U U)<|xe<|QY rfl (λH=>?_) (λH=>?_)
 ·refine Qc<|Lg.Qb<|Qk ⟨[.bool true],La,?_,U⟩;have:x∈l:=by rw[G,hd,H];exact Lr
  simp[tup,this]
 refine Qh<|Qw<|Lg.Qa<|Lg.QP U U<|Lg.Qb<|⟨k+1,oa,La,U,oa,?_⟩;rw[G,hd,Li];exact⟨λh=>h.resolve_left (λe=>H e.symm),.inr⟩
theorem QbA (h:zg L w.heap ve a.ed)(s e:Int)(st:Int):
  Q6 prog 218 [.agg #[va,oF oG st,vm,ve],oF oG s,oF oG e] w λr w'=>r=oF oG (xj a.ed s e)/\O5 [] w w':=by
 have he:=h.le;refine Zq func218 ?_;refine Qc<|Qe<|QS (us:=[va,oF oG st,vm,ve]) U λb3 T J hf G=>Lg.Qb ?_
 replace h:=h.I J;refine Qd<|Qc<|Lg.Qb<|Qf<|QD (α:=Nat) [(6,38)] (λk=>[(7,oF oG k)]) (λk w'=>w'=T/\k<=a.ed.length/\xj (a.ed.drop k) s e=xj a.ed s e) (λk=>a.ed.length - k) ol 0 La ⟨U,Ln _,U⟩ ?_;rintro k g V ⟨rfl,hk,H⟩;refine Qd<|Qc<|Lg.Qa<|Lg.Q2 U<|Lg.x (Qq G U U)<|Lg.x (Xo h U)<|Lg.QZ U U<|xe<|QG rfl (λY=>?_) (λY=>?_)
 ·refine Qy<|Qc<|Lg.Qb<|Qk ⟨[oF oG (-1)],La,?_,J⟩;rw[Lq oa]at H;rw[<-H];rfl
 have I:k<a.ed.length:=oa
 have hd:=Zg I;refine Qh<|Qd<|Qf<|Q3 (α:=Bool) [(15,32)] (λz=>[(32,.bool z)]) (λz w'=>w'=V/\z=decide (a.ed[k].1=s/\a.ed[k].2.1=e)) ol ?_ ?_
 ·refine Qw<|Lg.Q2 U<|Lg.x (Qq G U U)<|Lg.Qa<|xie h U U I λhg ha=>Lg.x (Zp U)<|Lg.x (QA (ha.fld 0 _ U) U) <|
   Lg.Qa<|xb (Q0 U U) (λO=>?_) (λO=>?_)
  ·refine Lg.Qa<|Lg.Q2 U<|Lg.x (Qq G U U)<|Lg.Qa<|xie h U U I λhh hb=>Lg.x (Zp U)<|Lg.x (QA (hb.fld 1 _ U) U) <|
    Lg.Qa<|Lg.x (Q0 U U)<|Lg.QH U<|xe ?_
   exact⟨_,La,U,by simp[O]⟩
  refine Lg.Qa<|Qr<|Qr<|Qr<|Qr<|Qr<|Qr<|Qr<|Qr<|Lg.QH U<|xe ?_;exact⟨_,La,U,by simp[O]⟩
 rintro z g w3 ⟨rfl,rfl⟩;refine QY rfl (λS=>?_) (λS=>?_)
 ·refine Qc<|Lg.Q2 U<|Lg.x (Qq G U U)<|Lg.Qa<|xie h U U I λhi hc=>Lg.x (Zp U)<|Lg.x (QA (hc.fld 2 _ U) U) <|
   Lg.Qb<|Qk ⟨[oF oG a.ed[k].2.2],La,?_,J⟩
  rw[<-H,hd,xj,OU S];rfl
 refine Qh<|Qw<|Lg.Qa<|Lg.QP U U<|Lg.Qb<|⟨k+1,oa,La,U,oa,?_⟩;rw[<-H,hd,xj,OT S]
def yp (l:LI)(n:Int):Int:=if n∈l then(l.idxOf n:Int)else -1
theorem QiN {n:Int}{k:Nat}(h:n∉l.take k)(G:k<l.length)(H:O6 l k=n):yp l n=k:=by
 have I:n∈l:=by rw[<-H,<-ZG G];exact Ll G
 unfold yp;rw[OU I];have J:l=l.take k++l.drop k:=(MI k l).symm;have:l.idxOf n=k:=by
  rw[J,MA,OT h,LE G,List.idxOf_cons,show l[k]=n by rw[ZG G];exact H];simp;omega
 rw[this]
theorem Qgi {v:O2}(h:QQ L w.heap v l)(n:Int):
  Q6 prog 219 [v,oF oG n] w λr w'=>r=oF oG (yp l n)/\w'=w:=by
 have S:=h.le;refine Zq func219 ?_;refine Qc<|Qb<|Qd<|Qc<|Qb<|Qf<|QD (α:=Nat) [(4,18)] (λz=>[(5,oF oG z)]) (λz w'=>w'=w/\z<=l.length/\n∉l.take z) (λz=>l.length - z) ol 0 La ⟨U,Ln _,oe⟩ ?_;rintro k g T ⟨rfl,V,H⟩;refine Qd<|Qm<|Qa<|QK h U<|QZ U U<|xe<|QG rfl (λJ=>?_) (λJ=>?_)
 ·refine Qy<|Qc<|Qb ?_;rw[Lt oa]at H;exact Qk ⟨[oF oG (-1)],La,by unfold yp;rw[OT H];rfl,U⟩
 have G:k<l.length:=oa
 refine Qh<|Qd<|Qf<|Qm<|Qa<|xic (i:=k) h U U G λY O=>x (QA O U)<|Qa<|x (Q0 U U)<|xe<|QY rfl (λI=>?_) (λI=>?_)
 ·refine Qm<|Qb<|Qk ⟨[oF oG k],La,by rw[QiN H G I];rfl,U⟩
 refine Qh<|Qw<|Qa<|QP U U<|Qb<|⟨k+1,oa,La,U,G,?_⟩;rw[Lm G,ZG G];simp only[oV,oI,not_or];exact⟨H,λe=>I e.symm⟩
theorem qp {v:O2}(h:QQ L w.heap v l)(hl:l.length<=1000000):
  Q6 prog 140 [v] w λr w'=>O5 [] w w'/\∃va,r=.agg #[va,oF oG 0,nS,nS]/\Qu 3 w.heap.size w' va l:=by
 refine Zq func140 ?_;refine Qc<|Qe<|Qo (us:=[nS,oF oG 0,nS,nS]) U λb2 G T he V=>xe ?_;have hf:=T.size;have hg:=V.lt;refine Qc<|Qe<|XG λb3 w2 H hh hi=>Qa<|?_;have Y:=T.D H;have hp:=H.size;have I:w2.ownsRow G.heap.size 3 1 (.slice (some ⟨b3,0,none⟩) 0 0) 0 []:=hi.own (n:=0) (sz:=1) U oa hh;refine Qe<|QaL I U (h.I Y) U (Uu l) oa oa λva J hj ha hq=>?_;have O:Qu 3 G.heap.size J va l:=by
  have:J.ownsRow G.heap.size 3 1 va (0+l.length) ([]++l.map (.int .i64)):=hj;rw[LR,L8]at this;exact this
 have hA:=Qu.ints (L:=[]) O oa oe;have hk:=(V.I H).J ha (QT I hg);have hm:O5 [] w J:=Y.then ha (λb S=>.inr (ou (Qi I b S).1));refine x (Qz ⟨hA.cells,Z⟩)<|Qe<|Qj (us:=[va,oF oG 0,nS,nS]) hk U U U U ⟨hA.one,U,U,U,Z⟩ λw4 hc hn=>xe ?_;have ho:=Qg O hc (λb S=>by have:=(Qi O b S).1;simp;omega);exact Qk ⟨[.agg #[va,oF oG 0,nS,nS]],⟨⟨_,U,Qn U (hn.at (L:=[]) oe).cells⟩,Z⟩,hm.O hc he,va,rfl,Zv ho hf⟩
theorem xH:∀(n:Nat) (l:LI),l.Nodup->(∀x∈l,0<=x/\x<n)->l.length<=n
 | 0,l,_,h=>by
  cases l with
  | nil=>simp
  | cons a l=>have:=h a Lr;omega
 | n+1,l,hd,h=>by
  by_cases G:(n:Int)∈l
  ·have I:=xH n (l.erase (n:Int)) (hd.erase _) (λx hx=>by
    have H:=(List.Nodup.mem_erase_iff hd).1 hx;have J:=h x H.2;have O:x≠(n:Int):=H.1;omega)
   rw[List.length_erase_of_mem G]at I;omega
  have:=xH n l hd (λx hx=>by
   have J:=h x hx;have O:x≠(n:Int):=λe=>G (by rw[<-e];exact hx);omega)
  omega
def Ui (a:Q9)(s:Int)(out:LI)(v:Int):LI:=if 0<=xj a.ed s v/\xj a.ed s v∉out then out++[xj a.ed s v]else out
def fdR (a:Q9)(out:LI)(s:Int):LI:=a.al.foldl (Ui a s) out
def j0 (a:Q9):Nat->Nat->LI->LI
 | 0,_,out=>out
 | f+1,i,out=>if i<out.length then j0 a f (i+1) (fdR a out (O6 out i))else out
def fd0 (a:Q9):LI:=if 0<a.st then[0]else[]
def xq (a:Q9):LI:=j0 a a.st.toNat 0 (fd0 a)
structure zd (a:Q9)(out:LI):Prop where
 b:∀x∈out,0<=x/\x<a.st
 d:out.Nodup
theorem zd.len (h:zd a out)(G:0<=a.st):out.length<=a.st.toNat:=xH _ _ h.d (λx hx=>ou (h.b x hx))
theorem QaM {v:Int}(h:0<=xj es s v):(s,v,xj es s v)∈es:=by
 induction es with
 | nil=>simp[xj]at h
 | cons e es ih =>
  rw[xj]at h ⊢;split at h
  ·rename_i G;rw[OU G];obtain⟨p,q,r⟩:=e;obtain⟨H,I⟩:=G;simp only[]at H I;subst H I;exact Lr
  rename_i G;rw[OT G];exact Lj _ (ih h)
theorem Qi8 (I:ZE a)(h:zd a out)(s v:Int):zd a (Ui a s out v):=by
 unfold Ui;split
 ·rename_i G;have J:=I.ed _ (QaM G.1);refine⟨λx hx=>?_,?_⟩
  ·rcases Lc.1 hx with hx|hx
   ·exact h.b x hx
   simp only[oI]at hx;subst hx;exact⟨G.1,J.2.2.2.2⟩
  rw[MC];refine⟨h.d,oe,λx hx y H=>?_⟩;simp only[oI]at H;subst H;exact λe=>G.2 (by rw[<-e];exact hx)
 exact h
theorem Ql1 {v:Int}:∀x∈out,x∈Ui a s out v:=λx hx=>by unfold Ui;split;exact Mc _ hx;exact hx
theorem Qoz {v:Int}(h:0<=xj a.ed s v):xj a.ed s v∈Ui a s out v:=by
 unfold Ui;by_cases G:xj a.ed s v∈out
 ·rw[OT (λe=>e.2 G)];exact G
 rw[OU ⟨h,G⟩];simp
theorem Qi6 {a:Q9}(G:ZE a)(s:Int):∀(vs:LI) (out:LI),zd a out->zd a (vs.foldl (Ui a s) out)
 | [],_,h=>h
 | v::vs,_,h=>Qi6 G s vs _ (Qi8 G h s v)
theorem Qa5 {a:Q9}{s:Int}:∀(vs:LI) (out:LI),∀x∈out,x∈vs.foldl (Ui a s) out
 | [],_,_,hx=>hx
 | _::vs,_,x,hx=>Qa5 vs _ x (Ql1 x hx)
theorem Qi7 {a:Q9}{s:Int}:∀(vs:LI) (out:LI),∀v∈vs,0<=xj a.ed s v->xj a.ed s v∈vs.foldl (Ui a s) out
 | v::vs,out,u,G,h=>by
  rcases Li.1 G with rfl|G
  ·exact Qa5 vs _ _ (Qoz h)
  exact Qi7 vs _ u G h
theorem Qe0 {a:Q9}{s:Int}:∀(vs:LI) (out:LI),∃r,vs.foldl (Ui a s) out=out++r
 | [],out=>⟨[],oe⟩
 | v::vs,out=>by
  obtain⟨r,G⟩:=Qe0 (a:=a) (s:=s) vs (Ui a s out v);rw[LZ,G];unfold Ui;split
  ·exact⟨[xj a.ed s v]++r,oe⟩
  exact⟨r,U⟩
theorem yK {r:LI}(h:i<l.length):O6 (l++r) i=O6 l i:=by
 rw[<-ZG h,<-ZG (by simp;omega),MG h]
def Cl (a:Q9)(out:LI)(i:Nat):Prop:=∀j,j<i->j<out.length->∀v∈a.al,0<=xj a.ed (O6 out j) v->xj a.ed (O6 out j) v∈out
theorem Cl.next (h:Cl a out i)(hi:i<out.length):Cl a (fdR a out (O6 out i)) (i+1):=by
 intro j S T v H G;obtain⟨r,O⟩:=Qe0 (a:=a) (s:=O6 out i) a.al out;have I:fdR a out (O6 out i)=out++r:=O;have J:j<out.length:=oa
 rw[I,yK J]at G ⊢;by_cases e:j=i
 ·subst e;have:=Qi7 a.al out v H G;rw[<-I];exact this
 exact Mc _ (h j oa J v H G)
theorem Qi5 {a:Q9}(H:ZE a):∀(f i:Nat) (out:LI),zd a out->Cl a out i->i+f=a.st.toNat->zd a (j0 a f i out)/\Cl a (j0 a f i out) (j0 a f i out).length
 | 0,i,out,h,G,O=>by
  have:=h.len H.st0;exact⟨h,λj J I=>G j (by rw[j0]at J;omega) I⟩
 | f+1,i,out,h,G,O=>by
  rw[j0];split
  ·rename_i hi;exact Qi5 H f (i+1) _ (Qi6 H _ _ _ h) (G.next hi) oa
  rename_i hi;exact⟨h,λj J I=>G j oa I⟩
theorem Qi9 (a:Q9):zd a (fd0 a):=by
 unfold fd0;split
 ·rename_i h;exact⟨λx hx=>by simp only[oI]at hx;subst hx;exact⟨oa,h⟩,oe⟩
 exact⟨oe,oe⟩
theorem yv (I:ZE a):zd a (xq a)/\∀s∈xq a,∀v∈a.al,0<=xj a.ed s v->xj a.ed s v∈xq a:=by
 obtain⟨J,O⟩:=Qi5 I a.st.toNat 0 (fd0 a) (Qi9 a) (λj G=>oa) oa;refine⟨J,λs S v T H=>?_⟩;obtain⟨j,G,rfl⟩:=LM S;have:=O j G G v T;unfold xq at G H ⊢;rw[ZG G]at H ⊢;exact this H
def KR (a:Q9)(fd:LI)(i:Nat)(v:Int):Option Ed:=if 0<=xj a.ed (O6 fd i) v then some ((i:Int),v,yp fd (xj a.ed (O6 fd i) v))else none
def Xc (a:Q9)(fd:LI)(n:Nat):LI:=((oR 0 n).filter λi=>decide (O6 fd i∈a.mr)).map λi:Nat=>(i:Int)
def Xr (a:Q9)(fd:LI)(n:Nat):List Ed:=(oR 0 n).flatMap λi=>a.al.filterMap (KR a fd i)
def Xf (a:Q9):Q9:=⟨a.al,(xq a).length,Xc a (xq a) (xq a).length,Xr a (xq a) (xq a).length⟩
theorem Jm {β:Type}{r:Int->Int->Prop}{q:β->β->Prop}{g:Int->Option β}(G:∀x y u v,r x y->g x=some u->g y=some v->q u v):∀{l:LI},l.Pairwise r->(l.filterMap g).Pairwise q
 | [],_=>oe
 | x::l,h=>by
  obtain⟨I,H⟩:=L3.1 h;rw[Mx];split
  ·exact Jm G H
  rename_i u J;refine L3.2 ⟨λv O=>?_,Jm G H⟩;obtain⟨y,S,T⟩:=MX.1 O;exact G x y u v (I y S) J T
theorem Qbe (H:ZE a):ZE (Xf a)/\(Xf a).al=a.al/\(Xf a).st<=a.st:=by
 obtain⟨Y,h2⟩:=yv H;have hl:=Y.len H.st0;have h0:=H.st0;have h4:=H.st1;refine⟨⟨H.al,H.ali,by simp[Xf],by simp only[Xf];omega,λs S=>?_,?_,λe J=>?_,?_⟩,U,by simp only[Xf];omega⟩
 ·simp only[Xf,Xc,Oz,OF,OA]at S;obtain⟨i,⟨hi,_⟩,rfl⟩:=S;simp only[Xf];omega
 ·simp only[Xf,Xc];unfold YY;rw[MO];refine List.Pairwise.sublist MY ?_;exact(Nh (s:=0) (n:=(xq a).length)).imp (λh=>oa)
 ·simp only[Xf,Xr,List.mem_flatMap,List.mem_filterMap,OA]at J;obtain⟨i,⟨_,hi⟩,v,I,G⟩:=J;unfold KR at G;split at G
  ·rename_i hn;cases G
   have T:i<(xq a).length:=oa
   have V:=h2 (O6 (xq a) i) (by rw[<-ZG T];exact Ll T) v I hn;have hx:=MH V;simp only[Xf];unfold yp;rw[OU V];exact⟨oa,oa,I,oa,oa⟩
  cases G
 simp only[Xf,Xr];have key:∀(is:LN),is.Pairwise (·<·)->(is.flatMap λi=>a.al.filterMap (KR a (xq a) i)).Pairwise λx y:Ed=>x.1<y.1\/(x.1=y.1/\x.2.1<y.2.1):=by
  intro is;induction is with
  | nil=>intro _;simp
  | cons i is ih =>
   intro hp;obtain⟨p1,p2⟩:=L3.1 hp;rw[LH,MF];have from_i:∀(i:Nat) (e:Ed),e∈a.al.filterMap (KR a (xq a) i)->e.1=i:=by
    intro i e J;obtain⟨v,_,G⟩:=MX.1 J;unfold KR at G;split at G
    ·cases G;rfl
    cases G
   refine⟨?_,ih p2,λe J e' ha=>?_⟩
   ·refine Jm (r:=(·<·)) (λx y u v hb O I=>?_) H.ali;unfold KR at O I;split at O
    ·cases O;split at I
     ·cases I;exact .inr ⟨U,hb⟩
     cases I
    cases O
   obtain⟨j,hj,hc⟩:=Mb.1 ha;have e1:=from_i i e J;have e2:=from_i j e' hc;have:=p1 j hj;left;omega
 exact key _ (Nh (s:=0) (n:=(xq a).length))
theorem Qgk (h:ZH L w.heap va vm ve a)(ho:ZE a):
  Q6 prog 216 [.agg #[va,oF oG a.st,vm,ve]] w λr w'=>O5 [] w w'/\Qu 3 w.heap.size w' r (xq a):=by
 have h0:=ho.st0;have h1:=ho.st1;have hU:=ho.al_le;refine Zq func216 ?_;refine Qc<|Qe<|QS (us:=[va,oF oG a.st,vm,ve]) U λb1 O hh hV hs=>Qb<|Qc<|Qb ?_;have h8:=hh.size;refine Q3 (α:=O2) [(3,3),(7,12)] (λz=>[(3,z)]) (λz w'=>O5 [] O w'/\Qu 3 O.heap.size w' z (fd0 a)) ol ?_ ?_
 ·refine Qc<|Qs U hs U U<|x (Z7 U U)<|xe<|QG U (λh9=>?_) (λh9=>?_)
  ·refine Qh ?_;exact⟨nS,La,O5.Z _ _,by unfold fd0;rw[OT h9];exact QL _ _ _ _⟩
  refine Qw<|Qa<|Qe<|QC (us:=[[oF oG 0]]) U U og oe ⟨rfl,rfl,Z⟩ λhW w2 hv hX hA=>?_;have hn:w2.ownsRow O.heap.size 3 1 (nS) 0 []:=QL _ _ _ _;have hY:=hv.size;refine Qe<|Za (news:=[oF oG 0]) (L:=[]) hn U U U (hA.at oe) (by simp[Value.oneCell']) oa oa λv3 w3 hB hC hZ =>
   Qb<|⟨v3,La,hv.then hC (λb hb=>by simp[ob]at hb),?_⟩
  unfold fd0;rw[OU h9];exact hB
 rintro v0 g4 w4 ⟨hD,hE⟩;refine Zk (xq a) λT hT=>?_;have hF:j0 a a.st.toNat 0 (fd0 a)=T:=hT;refine Qd<|Qc<|Qb<|Qf<|QD (α:=Nat×LI×O2) [(3,6),(13,48)] (λz=>[(3,z.2.2),(4,oF oG z.1)])
  (λz w'=>O5 [] O w'/\Qu 3 O.heap.size w' z.2.2 z.2.1/\zd a z.2.1/\z.1<=z.2.1.length/\j0 a (a.st.toNat - z.1) z.1 z.2.1=T) (λz=>a.st.toNat - z.1) ol (0,fd0 a,v0) oA
  ⟨hD,hE,Qi9 a,Ln _,hF⟩ ?_
 rintro⟨i,out,v⟩ g5 w5 ⟨hj,V,G,hi,Y⟩;simp only[]at V G hi Y;have hw:=G.len h0;have hy:=Qu.ints (L:=[]) V oa oe;refine Qd<|Qm<|Qa<|QK hy U<|QZ U U<|xe<|QG rfl (λhz=>?_) (λhz=>?_)
 ·have e:out=T:=by
   rw[<-Y];generalize a.st.toNat - i=f;cases f with
   | zero=>rfl
   | succ f=>rw[j0,OT oa]
  refine Qy<|Qm<|Qb ?_;rw[e]at V;exact Qk ⟨[v],La,hh.D hj,by rw[hT];exact Zv V h8⟩
 have I:i<out.length:=oa
 have hG:a.st.toNat - i=(a.st.toNat - (i+1))+1:=oa
 rw[hG,j0,OU I]at Y;refine Zk (O6 out i) λs J=>?_;rw[J]at Y;refine Zk (fdR a out s) λR hR=>?_;rw[hR]at Y;unfold fdR at hR;refine Qh<|Qd<|Qf<|Qc<|Qb<|Qf<|QD (α:=Nat×LI×O2) [(3,3),(5,6),(19,48)] (λz=>[(3,z.2.2),(5,oF oG z.1)])
  (λz w'=>O5 [] O w'/\Qu 3 O.heap.size w' z.2.2 z.2.1/\zd a z.2.1/\z.1<=a.al.length/\i<z.2.1.length/\O6 z.2.1 i=s/\(a.al.drop z.1).foldl (Ui a s) z.2.1=R) (λz=>a.al.length - z.1) ol (0,out,v) oA
  ⟨hj,V,G,Ln _,I,J,hR⟩ ?_
 clear hj V G hi hw hy I J hR hz;rintro⟨k,out,v⟩ g6 w6 ⟨ha,he,G,hk,I,J,H⟩;simp only[]at he G hk I J H;have hw:=G.len h0;have h2:=(h.al.I hh).I ha;have hl:=hs.I ha;have h3:=Qu.ints (L:=[]) he oa oe;refine Qd<|Qm<|Qs U hl U U<|QK h2 U<|QZ U U<|xe<|QG rfl (λhH=>?_) (λhH=>?_)
 ·refine Qy<|Qw<|Qa<|QP U U<|Qb ?_;rw[Lq oa]at H;have hI:out=R:=H;exact⟨(i+1,out,v),oh,oA,ha,he,G,I,by simp only[];rw[hI];exact Y⟩
 have hf:k<a.al.length:=oa
 rw[LE hf,LZ,ZG hf]at H;refine Zk (O6 a.al k) λu hu=>?_;rw[hu]at H;have hJ:=(h.ed.I hh).I ha;refine Zk (xj a.ed s u) λt ht=>?_;have hK:Ui a s out u=if 0<=t/\t∉out then out++[t]else out:=by unfold Ui;rw[ht]
 have hm:=Qi8 ho G s u;rw[hK]at H hm;refine Qh<|Qd<|Qf<|Qd<|ZD [] (Xb 0 12 [10])<|pq (λ_ S=>ZY (hl.I S) U U)<|p QE<|p QE<|pic (i:=i) U h3 U U I λga h4=>?_;rw[J]at h4;refine pq (λ_ S=>QA (h4.I S) U)<|p (QR U)<|pq (λ_ S=>Qq (hl.I S) U U)<|p QE <|
  pic (i:=k) U h2 U U hf λgb h5=>?_
 rw[hu]at h5;have hsr:=QbA (va:=va) (vm:=vm) (a:=a) (hJ.I (O5.C [] w6)) s u a.st;rw[ht]at hsr;refine pq (λ_ S=>QA (h5.I S) U)<|pk<|xg<|hsr.mono ?_;rintro r7 w7 ⟨rfl,hL⟩;have hg:=(O5.C [] w6).D hL;refine⟨hg,p ZN<|pe ?_⟩;have h6:=Qp he hg;have hM:=h3.I hg;refine Q3 (α:=Unit) [(37,44)] (λz=>[(44,.bool (decide (0<=t/\t∉out)))]) (λz w'=>w'=w7) ol ?_ ?_
 ·refine Qw<|Qa<|xb (Ys U U) (λhp=>?_) (λhp=>?_)
  ·refine Qa<|Qa<|Qa<|QM<|(QeX hM t).mono ?_;rintro r8 w8 ⟨rfl,rfl⟩;refine x (Zx U)<|QH U<|xe<|⟨(),⟨OV Value.bool ?_,Z⟩,U⟩;show(!decide (t∈out))=_;rw[Bool.eq_iff_iff];simp[hp]
  refine Qa<|Qr<|Qr<|Qr<|Qr<|QH U<|xe ?_;exact⟨(),⟨OV Value.bool (OZ (λe=>hp e.1)).symm,Z⟩,U⟩
 rintro _ g9 w9 rfl;refine QG rfl (λhq=>?_) (λhq=>?_)
 ·rw[OT hq]at H;refine Qh<|Qw<|Qa<|QP U U<|Qb<|⟨(k+1,out,v),oh,oA,ha.D hg,h6,G,hf,I,J,H⟩
 rw[OU hq]at H hm;have h7:=ha.D hg;have gc:=h7.size;refine Qw<|Qa<|Qa<|Qe<|QC (us:=[[oF oG t]]) U U og oe ⟨rfl,rfl,Z⟩ λgg gh hr gi hN=>?_;have hO:=Qp h6 hr;have gj:=hr.size;refine Qe<|Za (news:=[oF oG t]) (L:=[]) hO U U U (hN.at oe) (by simp[Value.oneCell']) oa oa λhP gk hQ hS gl =>
  Qb ?_
 have hge:=Qi he;refine Qw<|Qa<|QP U U<|Qb<|⟨(k+1,out++[t],hP),oh,oA,(h7.D hr).then hS (λb hb=>.inr (hge b hb).1),Qu.snoc hQ,hm,hf,by simp;omega,?_,H⟩;simp only[];rw[yK I];exact J
structure CrI (w7:O1)(b4:Nat)(vcl:O2)(n:Int)(vm vd:O2)(M:LI)(E:List Ed)(w:O1):Prop where
 st:O5 [b4] w7 w
 B:Zb w.heap b4 59 [vcl,oF oG n,vm,vd]
 m:Qu 3 w7.heap.size w vm M
 e:YH 167 w7.heap.size w vd E
 dj:Dj vm vd
section
variable {w7 w'':O1}{b4:Nat}{vcl:O2}{n:Int}{vd:O2}{M:LI}{E:List Ed}
theorem CrI.I (h:CrI w7 b4 vcl n vm vd M E w)(G:O5 [] w w'):CrI w7 b4 vcl n vm vd M E w':=⟨h.st.D G,h.B.I G,Qp h.m G,Qp h.e G,h.dj⟩
theorem CrI.setM (h:CrI w7 b4 vcl n vm vd M E w)(J:b4<w7.heap.size){G:O2}{M':LI}(O:O5 (ob vm) w w')(S:Qu 3 w7.heap.size w' G M')(T:∀b∈ob G,b∈ob vm\/w.heap.size<=b)(H:O5 [b4] w' w'')
  (V:Zb w''.heap b4 59 [vcl,oF oG n,G,vd]):CrI w7 b4 vcl n G vd M' E w'' :=
 ⟨(h.st.then O (λb J=>.inr (Qi h.m b J).1)).Q H,V,Qg S H (λb I=>by have:=(Qi S b I).1;simp;omega),
  Qg (Qg h.e O h.dj.symm) H (λb I=>by have:=(Qi h.e b I).1;simp;omega),(h.dj.symm.grow T (Zc h.e)).symm⟩
theorem CrI.setE (h:CrI w7 b4 vcl n vm vd M E w)(J:b4<w7.heap.size){G:O2}{E':List Ed}(O:O5 (ob vd) w w')(S:YH 167 w7.heap.size w' G E')(T:∀b∈ob G,b∈ob vd\/w.heap.size<=b)(H:O5 [b4] w' w'')
  (V:Zb w''.heap b4 59 [vcl,oF oG n,vm,G]):CrI w7 b4 vcl n vm G M E' w'' :=
 ⟨(h.st.then O (λb J=>.inr (Qi h.e b J).1)).Q H,V,Qg (Qg h.m O h.dj) H (λb I=>by have:=(Qi h.m b I).1;simp;omega),
  Qg S H (λb I=>by have:=(Qi S b I).1;simp;omega),h.dj.grow T (Zc h.m)⟩
end
theorem Qaf (a:Q9)(fd:LI)(k:Nat):Xc a fd (k+1)=if O6 fd k∈a.mr then Xc a fd k++[(k:Int)]else Xc a fd k:=by
 unfold Xc;rw[Mz,L5,Ls,LR];by_cases h:O6 fd k∈a.mr
 ·rw[OU h,Mf,OU (OX h)];rfl
 rw[OT h,Mf,OT (by rw[OZ h];simp),Nk,Np,LQ]
theorem QcI (a:Q9)(fd:LI):∀k,(Xc a fd k).length<=k
 | 0=>by simp[Xc]
 | k+1=>by
  have:=QcI a fd k;rw[Qaf];split
  ·simp;omega
  omega
theorem QgI (a:Q9)(fd:LI)(k:Nat):Xr a fd (k+1)=Xr a fd k++a.al.filterMap (KR a fd k):=by
 unfold Xr;rw[Mz,LA,LR];simp
theorem jh (h:ZH L w.heap va vm ve a)(V:ZE a):
  Q6 prog 141 [.agg #[va,oF oG a.st,vm,ve]] w λr w'=>O5 [] w w'/\Jv w.heap.size w'.heap r (Xf a):=by
 have h0:=V.st0;have h1:=V.st1;have kw:=V.al_le;have gc:=(yv V).1;have gg:=gc.len h0;refine Zq func141 ?_;refine Zk (xq a) λfd hv=>?_;rw[hv]at gg;have gh:Xf a=⟨a.al,fd.length,Xc a fd fd.length,Xr a fd fd.length⟩:=by unfold Xf;rw[hv]
 refine Qc<|Qe<|QS (us:=[va,oF oG a.st,vm,ve]) U λb1 w1 gi kx hw=>Qe<|Qo (us:=[nS,oF oG 0,nS,nS]) U λb2 w2 hz kz hF=>xe ?_;have Y:=gi.D hz;have hfr:=Qgk (h.I Y) V;rw[hv]at hfr;refine Qc<|Q5 (hw.I hz) U U<|QM<|hfr.mono ?_;rintro vf w3 ⟨hp,gj⟩;refine Qb ?_;have hG:=Y.D hp;have hH:=(hw.I hz).I hp;refine Qc<|Qs U hH U U<|QM<|(qp (h.al.I hG) oa).mono ?_;rintro r4 w4 ⟨hJ,vcl,rfl,ha⟩;have hK:=Qu.ints (L:=[]) ha oa oe;refine Qe<|Qo (us:=[nS,oF oG 0,nS,nS]) U λb4 w5 gk gl gm =>
  Qe<|Qj (us:=[vcl,oF oG 0,nS,nS]) gm U U U U ⟨hK.one,U,U,U,Z⟩ λw6 gn hL=>xe ?_
 have h2:O5 [] w4 w6:=gk.O gn gl;have he:=hJ.D h2;have hM:=Qu.ints (L:=[]) gj oa oe;have k0:=hp.size;have k4:=hJ.size;have k5:=h2.size;have k6:=hw.lt;have k7:=hF.lt;have k8:=hL.lt;refine Qm<|QK hM U<|Q2 U<|Qe<|QB (u:=oF oG fd.length) hL U U oe rfl λw7 S go=>xe ?_;have k9:=S.size;have ma:O5 [b4] w3 w7:=(he.any (L:=[b4])).Q S;have hN:O5 [] w w7:=(hG.D he).O S oa;have hO:QQ [b4] w7.heap vf fd:=((hM.up (L':=[b4]) (λb G=>.inr (by simp at G;omega))).I he).st S;have h3:ZH [b4] w7.heap va vm ve a:=(h.up (λb G=>.inr (by simp at G;omega))).I hN;have gp:Qu 3 w3.heap.size w7 vcl a.al:=Qg (Qp ha h2) S (λb G=>by have:=Zc ha b G;simp;omega);have hP:=(hH.I he).J S (by simp;omega);have gq:=((hF.I hp).I he).J S (by simp;omega);have hf:b4<w7.heap.size:=oa
 have n1:b1∉[b4]:=by simp;omega
 have n2:b2∉[b4]:=by simp;omega
 refine Qd<|Qc<|Qb<|Qf<|QD (α:=Nat×O2×O2) [(5,7),(16,69)] (λz=>[(5,oF oG z.1)])
  (λz w'=>z.1<=fd.length/\CrI w7 b4 vcl fd.length z.2.1 z.2.2 (Xc a fd z.1) (Xr a fd z.1) w'/\(Xr a fd z.1).length<=z.1*32) (λz=>fd.length - z.1) ol (0,nS,nS) La
  ⟨Ln _,⟨O5.Z _ _,go,QL _ _ _ _,QL _ _ _ _,Dj.nil' _⟩,Ln _⟩ ?_
 rintro⟨i,v1,v2⟩ g8 w8 ⟨hi,I,h4⟩;simp only[]at hi I h4;have gr:=QcI a fd i;have hQ:=hO.st I.st;refine Qd<|Qm<|Qa<|QK hQ U<|QZ U U<|xe<|QG rfl (λgs=>?_) (λgs=>?_)
 ·have gt:i=fd.length:=oa
  rw[gt]at I h4 gr;refine Qy ?_;have gu:=Qu.ints (L:=[]) I.m oa oe;have gv:=YH.eds (L:=[]) I.e oa oe;refine Qc<|Q5 I.B U U<|Qe<|Qj (us:=[vcl,oF oG fd.length,v1,v2]) (gq.J I.st n2) U U U U ⟨hK.one,U,gu.one,gv.one,Z⟩ λw9 hq gw=>xe ?_;refine Qk ⟨[.agg #[vcl,oF oG fd.length,v1,v2]],⟨⟨_,U,Qn U (gw.at (L:=[]) oe).cells⟩,Z⟩,(hN.O I.st oa).O hq oa,?_⟩;rw[gh];have k1:=Qg (Qg gp I.st (λb G=>by have:=Zc ha b G;simp;omega)) hq (λb G=>by have:=(Qi ha b G).1;simp;omega);have k2:=Qg I.m hq (λb G=>by have:=(Qi I.m b G).1;simp;omega);have k3:=Qg I.e hq (λb G=>by have:=(Qi I.e b G).1;simp;omega);refine⟨vcl,v1,v2,U,λL' h5=>⟨?_,?_,?_⟩⟩
  ·exact Qu.ints k1 (by show a.al.length<=_;omega) (λb G=>ou (h5 b G))
  ·exact Qu.ints k2 (by show(Xc a fd fd.length).length<=_;omega) (λb G=>ou (h5 b G))
  exact YH.eds k3 (by show(Xr a fd fd.length).length<=_;omega) (λb G=>ou (h5 b G))
 have h6:i<fd.length:=oa
 refine Zk (O6 fd i) λs hr=>?_;have hg:=Qaf a fd i;rw[hr]at hg;refine Qh<|Qd<|Qf<|Q3 (α:=O2) [(22,34)] (λz=>[]) (λz w'=>CrI w7 b4 vcl fd.length z v2 (Xc a fd (i+1)) (Xr a fd i) w') ol ?_ ?_
 ·have gx:=h3.st I.st;have gy:=hP.J I.st n1;refine Qd<|ZD [] (Xb 0 7 [6])<|p (QR U)<|pq (λ_ H=>Qq (gy.I H) U U)<|p QE<|p QE<|pic (i:=i) U hQ U U h6 λmf hR=>?_;rw[hr]at hR;refine pq (λ_ H=>QA (hR.I H) U)<|pk<|xg<|(QeX (gx.mr.I (O5.C [] w8)) s).mono ?_;rintro mg mh ⟨rfl,rfl⟩;have h7:=I.I (O5.C [] w8);refine⟨O5.C _ _,pe ?_⟩;refine QG U (λh8=>?_) (λh8=>?_)
  ·rw[OT h8]at hg;refine Qh ?_;exact⟨v1,Z,by rw[hg];exact h7⟩
  rw[OU h8]at hg;refine Qw<|Qs U h7.B U U<|Qa<|Qe<|QC (us:=[[oF oG i]]) U U og oe ⟨rfl,rfl,Z⟩ λmj mo gz mq g0=>?_;have hh:=h7.I gz;refine Qe<|Za (news:=[oF oG i]) (L:=[]) hh.m U U U (g0.at oe) (by simp[Value.oneCell']) oa hh.st.size λhS g2 g3 Y g4=>?_;have hT:Qu 3 w7.heap.size g2 hS (Xc a fd i++[(i:Int)]):=Qu.snoc g3;refine Q2 U<|Qe<|QB (hh.B.J Y (QT hh.m hf)) U U oe (Qu.ints (L:=[]) hT (by simp;omega) oe).one λms g5 g6 =>
   xe ?_
  exact⟨hS,Z,by rw[hg];exact hh.setM hf Y hT g4 g5 g6⟩
 rintro v3 mt mu g7;refine Zk (Xr a fd (i+1)) λE1 h9=>?_;have hU:=QgI a fd i;rw[h9]at hU;refine Qc<|Qb<|Qf<|QD (α:=Nat×List Ed×O2) [(6,7),(35,69)] (λz=>[(6,oF oG z.1)])
  (λz w'=>z.1<=a.al.length/\CrI w7 b4 vcl fd.length v3 z.2.2 (Xc a fd (i+1)) z.2.1 w'/\z.2.1.length<=i*32+z.1/\z.2.1++(a.al.drop z.1).filterMap (KR a fd i)=E1) (λz=>a.al.length - z.1) ol (0,Xr a fd i,v2) La
  ⟨Ln _,g7,h4,hU.symm⟩ ?_
 rintro⟨k,E,vd⟩ mv hV ⟨hk,O,g9,J⟩;simp only[]at hk O g9 J;have hA:=h3.st O.st;have hs:=hP.J O.st n1;have hW:=hO.st O.st;refine Qd<|Qm<|Qs U hs U U<|QK hA.al U<|QZ U U<|xe<|QG rfl (λka=>?_) (λka=>?_)
 ·refine Qy<|Qw<|Qa<|QP U U<|Qb ?_;rw[Lq oa,List.filterMap_nil,LQ]at J;refine⟨(i+1,v3,vd),oh,La,h6,?_,?_⟩
  ·simp only[];rw[h9,<-J];exact O
  simp only[];rw[h9,<-J];omega
 have T:k<a.al.length:=oa
 refine Zk (O6 a.al k) λu hu=>?_;rw[LE T,ZG T,hu,Mx]at J;refine Zk (xj a.ed s u) λt ht=>?_;have kb:KR a fd i u=if 0<=t then some ((i:Int),u,yp fd t)else none:=by unfold KR;rw[hr,ht]
 rw[kb]at J;have hsr:=QbA (va:=va) (vm:=vm) (a:=a) (hA.ed.I (O5.C [] hV)) s u a.st;rw[ht]at hsr;refine Qh<|Qd<|Qf<|Qd<|ZD [] (Xb 0 12 [10])<|pq (λ_ H=>ZY (hs.I H) U U)<|p QE<|p QE<|pic (i:=i) U hW U U h6 λmw hX=>?_;rw[hr]at hX;refine pq (λ_ H=>QA (hX.I H) U)<|p (QR U)<|pq (λ_ H=>Qq (hs.I H) U U)<|p QE <|
  pic (i:=k) U hA.al U U T λmy hY=>?_
 rw[hu]at hY;refine pq (λ_ H=>QA (hY.I H) U)<|pk<|xg<|hsr.mono ?_;rintro mz hB ⟨rfl,kc⟩;have hj:=(O5.C [] hV).D kc;refine⟨hj,p ZN<|pe ?_⟩;have hm:=O.I hj;have ke:=hs.I hj;have kf:=hW.I hj;refine Qm<|x (Ys U U)<|xe<|QG rfl (λhC=>?_) (λhC=>?_)
 ·rw[OT hC]at J;refine Qh<|Qw<|Qa<|QP U U<|Qb<|⟨(k+1,E,vd),oh,La,T,hm,oh,J⟩
 rw[OU hC]at J;have kg:=Qi O.e;have kh:QQ (b4::ob vd) hB.heap va a.al:=(((h3.al.up (L':=b4::ob vd) (λb G=>by
  rcases Li.1 G with rfl|G
  ·exact .inl oe
  exact .inr (kg b G).1)).J O.st oe).I hj)
 have ki:=QT hm.e hf;have kj:b1∉ob vd:=QT hm.e oa;refine ZD (ob vd) (Xb 0 16 [10,12,13,15])<|p (QR U)<|pq (λ_ H=>Qq (hm.B.J H ki) U U)<|p QE<|p (QR U)<|pq (λ_ H=>Qq (ke.J H kj) U U) <|
  p QE<|pic (i:=k) U kh U U T λm2 hZ=>?_
 rw[hu]at hZ;refine pq (λ_ H=>QA (hZ.J H (λb G=>Lj _ G)) U)<|p QE<|p QE <|
  pk<|xg<|(Qgi (kf.I (O5.C [] hB)) t).mono ?_
 rintro m3 m4 ⟨rfl,rfl⟩;refine⟨O5.C _ _,p (λ_=>Qz ⟨U,U,U,Z⟩)<|pk<|QC (us:=[QF ((i:Int),u,yp fd t)]) U U og (by exact(by decide:1*3<=1000000)) oA λm5 m6 kk m7 kn=>?_⟩;have hD:=(O5.C [] hB).D kk;have hn:=hm.I hD;refine⟨hD.any,?_⟩;refine pk<|Za (news:=QF ((i:Int),u,yp fd t)) (L:=[]) hn.e U U U (kn.at oe) (λy hy=>by simp only[QF,oL,oJ,or_false]at hy;rcases hy with rfl|rfl|rfl <;> rfl) oa hn.st.size λga ko kq hE kr=>⟨(hD.any (L:=ob vd)).Q hE,?_⟩
 have gb:YH 167 w7.heap.size ko ga (E++[((i:Int),u,yp fd t)]):=YH.snoc kq;refine p (QR U)<|pkl (hl:=by kernel_rfl)<|QB (hn.B.J hE (QT hn.e hf)) U U oe (YH.eds (L:=[]) gb (by simp;omega) oe).one λm8 kt ku =>
  pe ?_
 have kv:=hn.setE hf hE gb kr kt ku;refine Qw<|Qa<|QP U U<|Qb<|⟨(k+1,E++[((i:Int),u,yp fd t)],ga),oh,La,T,kv,by simp;omega,?_⟩;simp only[o0,Ov];exact J
section
variable {pS:String}
theorem JH {x:O3}{k:IntKind}{a b:Int}(hx:ev f x=.int k a)(H:ev f y=.int k b)(I:0<=a)(O:0<b):
  (execOp (ev f) ⟨d,.binOp .rem t x y G,ty,pS,af,gd⟩).run P w=.ok (.value (.int k (a % b))) w:=by
 refine Ji hx H ?_;have J:¬b=0:=oa
 simp[binOp,Op.intDiv,J,Int.tmod_eq_emod_of_nonneg I]
end
instance ayMa1:Ay prog 26 5 22 5:=⟨od,od⟩
instance ayMa2:Ay prog 22 5 5 1:=⟨od,od⟩
abbrev bys (ns:LN):LV:=ns.map λn:Nat=>.int .u8 (n:Int)
theorem qw (h:j<ns.length):(bys ns)[j]?=some (.int .u8 ((ns.getD j 0:Nat):Int)):=by simp[bys,oQ,h]
theorem QcK:∀(ns:LN),Zr (bys ns)
 | []=>trivial
 | _::ns=>⟨rfl,QcK ns⟩
theorem Jr (h:∀n∈ns,n<256)(j:Nat):ns.getD j 0<256:=by
 by_cases G:j<ns.length
 ·simp only[oQ,Of G,Option.getD_some];exact h _ (Ll G)
 simp[oQ,G]
structure GrI (al:LI)(S i k:Nat)(M:LI)(E:List Ed):Prop where
 mb:∀x∈M,0<=x/\x<S
 mi:YY M
 ml:∀x∈M,x<(i:Int)+1
 mn:M.length<=S
 eb:∀e∈E,0<=e.1/\e.1<S/\e.2.1∈al/\0<=e.2.2/\e.2.2<S
 ei:E.Pairwise λx y=>x.1<y.1\/(x.1=y.1/\x.2.1<y.2.1)
 el:∀e∈E,e.1<i\/(e.1=i/\e.2.1∈al.take k)
 en:E.length<=i*5+k
theorem QlW {S:Nat}{M:LI}(G:∀x∈M,0<=x/\x<S)(hi:YY M):M.length<=S:=xH S M (hi.imp (λh=>oa)) G
theorem GrI.mark {S:Nat}{M:LI}{E:List Ed}(h:GrI al S i 0 M E)(G:∀x∈M,x<(i:Int))(hi:i<S):GrI al S i 0 (M++[(i:Int)]) E:=by
 have H:∀x∈M++[(i:Int)],0<=x/\x<S:=λx hx=>by
  rcases Lc.1 hx with hx|hx
  ·exact h.mb x hx
  simp only[oI]at hx;omega
 have I:YY (M++[(i:Int)]):=by
  refine MF.2 ⟨h.mi,oe,λx hx y J=>?_⟩;simp only[oI]at J;subst J;exact G x hx
 refine⟨H,I,λx hx=>?_,QlW H I,h.eb,h.ei,h.el,h.en⟩;rcases Lc.1 hx with hx|hx
 ·have:=G x hx;omega
 simp only[oI]at hx;omega
theorem GrI.skip {S k:Nat}{M:LI}{E:List Ed}(h:GrI al S i k M E)(G:k<al.length):GrI al S i (k+1) M E :=
 ⟨h.mb,h.mi,h.ml,h.mn,h.eb,h.ei,λe H=>(h.el e H).imp id (λx=>⟨x.1,by rw[Lm G];exact Mc _ x.2⟩),ou h.en⟩
theorem GrI.edge {S k:Nat}{M:LI}{E:List Ed}(h:GrI al S i k M E)(H:k<al.length)(O:YY al)(hi:i<S){t:Int}(T:0<=t)(V:t<S):GrI al S i (k+1) M (E++[((i:Int),O6 al k,t)]):=by
 have Y:O6 al k∈al:=Ks H;refine⟨h.mb,h.mi,h.ml,h.mn,λe G=>?_,?_,λe G=>?_,by have:=h.en;simp;omega⟩
 ·rcases Lc.1 G with G|G
  ·exact h.eb e G
  simp only[oI]at G;subst G;exact⟨oh,oh,Y,T,V⟩
 ·refine MF.2 ⟨h.ei,oe,λx hx y J=>?_⟩;simp only[oI]at J;subst J;rcases h.el x hx with I|⟨I,h2⟩
  ·left;exact I
  right;refine⟨I,?_⟩;simp only[];have hp:YY (al.take k++al.drop k):=by rw[MI];exact O
  refine(MF.1 hp).2.2 _ h2 _ ?_;rw[LE H,ZG H];exact Lr
 rw[Lm H,ZG H];rcases Lc.1 G with G|G
 ·exact(h.el e G).imp id (λx=>⟨x.1,Mc _ x.2⟩)
 simp only[oI]at G;subst G;exact .inr ⟨U,Nv _ oe⟩
theorem GrI.next {S k:Nat}{M:LI}{E:List Ed}(h:GrI al S i k M E)(I:k<=5):GrI al S (i+1) 0 M E :=
 ⟨h.mb,h.mi,λx hx=>ou (h.ml x hx),h.mn,h.eb,h.ei,λe G=>by rcases h.el e G with H|H <;> (left;omega),ou h.en⟩
theorem Qf8 {v:O2}(h:QQ L w.heap v al)(G:∀e∈al,0<=e/\e<32)(hi:YY al)(hn:ns.length=27)(hr:∀n∈ns,n<256):
  Q6 prog 73 [v,.agg (bys ns).toArray] w λr w'=>O5 [] w w'/\∃a:Q9,Jv w.heap.size w'.heap r a/\ZE a/\a.st<=5/\a.al=al /\
   (ns.getD 0 0<250->∃a0:Q9,ZE a0/\0<a0.st/\a0.st<=((1+ns.getD 0 0 % 5:Nat):Int)/\a=Xf a0):=by
 have k0:al.length<=32:=xH 32 al (hi.imp (λh=>oa)) (λx hx=>ou (G x hx));refine Zq func73 ?_;have g0:=qw (ns:=ns) (j:=0) oa;have g1:=qw (ns:=ns) (j:=1) oa;have l0:=Jr hr 0;have l1:=Jr hr 1;refine Zk (ns.getD 0 0) λs0 hY=>?_;refine Zk (ns.getD 1 0) λm1 hZ=>?_;rw[hY]at g0 l0;rw[hZ]at g1 l1;refine Qc<|Qe<|QS (us:=bys ns) U λb3 w1 ga k4 h5=>Qe<|Qo (us:=[nS,oF oG 0,nS,nS]) U λb4 w2 h6 k5 hs=>xe ?_;have hp:=ga.D h6;have hu:=h5.I h6;have k6:=h5.lt;have k7:=hs.lt;refine Qd<|Qc<|Qs U hu U g0<|x (Ys U U)<|xe<|QY rfl (λgb=>?_) (λgb=>?_)
 ·refine Qm<|QM<|(qp (h.I hp) oa).mono ?_;rintro r3 w3 ⟨h7,vcl,rfl,T⟩;have hv:=Qu.ints (L:=[]) T oa oe;refine Qe<|Qj (us:=[vcl,oF oG 0,nS,nS]) (hs.I h7) U U U U ⟨hv.one,U,U,U,Z⟩ λw4 h8 gc=>xe ?_;have gg:=Qg T h8 (λb G=>by have:=(Qi T b G).1;simp;omega);refine Qk ⟨[.agg #[vcl,oF oG 0,nS,nS]],⟨⟨_,U,Qn U (gc.at (L:=[]) oe).cells⟩,Z⟩,(hp.D h7).O h8 oa,⟨al,0,[],[]⟩,?_,?_,(by decide:(0:Int)<=5),rfl,λh=>OW h oa⟩
  ·exact⟨vcl,_,_,U,λL' gh=>⟨Qu.ints gg (by show al.length<=_;omega) (λb G=>ou (gh b G)),Zn.nil _ _ _,Zn.nil _ _ _⟩⟩
  exact⟨G,hi,(by decide:(0:Int)<=0),(by decide:(0:Int)<=4096),oe,oe,oe,oe⟩
 refine Qh<|Qm<|QM<|(qp (h.I hp) oa).mono ?_;rintro r5 w5 ⟨h9,vcl,rfl,T⟩;have hv:=Qu.ints (L:=[]) T oa oe;refine Qe<|Qo (us:=[nS,oF oG 0,nS,nS]) U λI w6 gi gk gl =>
  Qe<|Qj (us:=[vcl,oF oG 0,nS,nS]) gl U U U U ⟨hv.one,U,U,U,Z⟩ λw7 gm hA=>xe ?_
 have hB:O5 [] w5 w7:=gi.O gm gk;have hh:=h9.D hB;have k8:=h9.size;have k9:=hA.lt;refine Zk (1+s0 % 5) λS hS=>?_;have gn:(1:Int)+(s0:Int) % 5=(S:Int):=oa
 refine Qc<|Qs U (hu.I hh) U g0<|x (JH (a:=(s0:Int)) (b:=5) U U oa oa)<|x (Z3 (k':=.i64) U ⟨oa,oa⟩)<|QP U U<|x (Vc U) <|
  Qe<|QB (u:=oF oG S) hA U (OV (Value.int .i64) gn) oe rfl λJ he go=>xe ?_
 have ma:=he.size;have mf:O5 [I] w2 J:=(hh.any (L:=[I])).Q he;have hC:O5 [] w J:=(hp.D hh).O he oa;have hD:QQ [I] J.heap v al:=(h.up (L':=[I]) (λb G=>.inr (by simp at G;omega))).I hC;have gp:Qu 3 w2.heap.size J vcl al:=Qg (Qp T hB) he (λb G=>by have:=Zc T b G;simp;omega);have hE:=(hu.I hh).J he (by simp;omega);have gq:=(hs.I hh).J he (by simp;omega);have hj:I<J.heap.size:=oa
 have n3:b3∉[I]:=by simp;omega
 have n4:b4∉[I]:=by simp;omega
 refine Qd<|Qc<|Qb<|Qf<|QD (α:=Nat×O2×O2×LI×List Ed) [(6,8),(22,76)] (λz=>[(6,oF oG z.1)])
  (λz w'=>z.1<=S/\CrI J I vcl S z.2.1 z.2.2.1 z.2.2.2.1 z.2.2.2.2 w'/\GrI al S z.1 0 z.2.2.2.1 z.2.2.2.2/\∀x∈z.2.2.2.1,x<(z.1:Int)) (λz=>S - z.1) ol (0,nS,nS,[],[]) La
  ⟨Ln _,⟨O5.Z _ _,go,QL _ _ _ _,QL _ _ _ _,Dj.nil' _⟩,⟨oe,oe,oe,oe,oe,oe,oe,oe⟩,oe⟩ ?_
 rintro⟨i,v1,v2,M,E⟩ g9 w9 ⟨gr,H,O,hM⟩;simp only[]at gr H O hM;have mg:=O.mn;have mh:=O.en;refine Qd<|Qm<|Qs U H.B U U<|QZ U U<|xe<|QG rfl (λgs=>?_) (λgs=>?_)
 ·have mj:i=S:=oa
  refine Qy ?_;have gt:=Qu.ints (L:=[]) H.m oa oe;have gu:=YH.eds (L:=[]) H.e oa oe;have gv:Qu 3 w2.heap.size w9 vcl al:=Qg gp H.st (λb G=>by have:=Zc T b G;simp;omega);have gw:ZH [] w9.heap vcl v1 v2 ⟨al,(S:Int),M,E⟩:=⟨Qu.ints gv (by show al.length<=_;omega) oe,gt,gu⟩;have hw:ZE ⟨al,(S:Int),M,E⟩:=⟨G,hi,oh,oh,O.mb,O.mi,O.eb,O.ei⟩;have hz:=Qbe hw;have hH:O5 [] w w9:=hC.O H.st oa;have gx:=gq.J H.st n4;have mo:=H.st.size;refine Qc<|Q5 H.B U U<|QM<|(jh (a:=⟨al,(S:Int),M,E⟩) gw hw).mono ?_;rintro vr mq ⟨hJ,hF⟩;obtain⟨us,hK,hL,gy⟩:=JR hF;refine Qe<|Qj (us:=us) (gx.I hJ) U hK hL U gy λms hN gz=>xe ?_;have g2:=hH.size;refine Qk ⟨[.agg us.toArray],⟨⟨_,U,Qn hL (gz.at (L:=[]) oe).cells⟩,Z⟩,(hH.D hJ).O hN oa,Xf ⟨al,(S:Int),M,E⟩,?_,hz.1,?_,hz.2.1,λ_=>⟨⟨al,(S:Int),M,E⟩,hw,oh,oh,U⟩⟩
  ·show Jv _ _ (.agg us.toArray) _;rw[<-hK];exact(KA hF oa hN).mono g2
  have:=hz.2.2;simp only[]at this;omega
 have h0:i<S:=oa
 refine Qh<|Qd<|Qf<|Q3 (α:=O2×LI) [(28,39)] (λz=>[]) (λz w'=>CrI J I vcl S z.1 v2 z.2 E w'/\GrI al S i 0 z.2 E) ol ?_ ?_
 ·have g3:m1 / 2 ^ i<256:=Nat.lt_of_le_of_lt (Nat.div_le_self _ _) l1;refine Qc<|Qs U (hE.J H.st n3) U g1<|Qa<|x (jD (n:=i) U U (by show i<=8;omega))<|x (z7 (a:=m1 / 2 ^ i) (b:=1) (OV (Value.int .u8) (QaA m1 i)) U g3 og)<|x (Q0 U U)<|xe<|QG U (λg4=>?_) (λg4=>?_)
  ·refine Qh ?_;exact⟨(v1,M),Z,H,O⟩
  refine Qw<|Qs U H.B U U<|Qa<|Qe<|QC (us:=[[oF oG i]]) U U og oe ⟨rfl,rfl,Z⟩ λmt mu g5 mv g6=>?_;have hm:=H.I g5;refine Qe<|Za (news:=[oF oG i]) (L:=[]) hm.m U U U (g6.at oe) (by simp[Value.oneCell']) oa hm.st.size λhO g7 g8 hP ka=>?_;have hQ:Qu 3 J.heap.size g7 hO (M++[(i:Int)]):=Qu.snoc g8;refine Q2 U<|Qe<|QB (hm.B.J hP (QT hm.m hj)) U U oe (Qu.ints (L:=[]) hQ (by simp;omega) oe).one λmw kb kc =>
   xe ?_
  exact⟨(hO,M++[(i:Int)]),Z,hm.setM hj hP hQ ka kb kc,O.mark hM h0⟩
 rintro⟨v3,M3⟩ my mz ⟨hR,hT⟩;simp only[]at hR hT;refine Qc<|Qb<|Qf<|QD (α:=Nat×O2×List Ed) [(7,8),(40,76)] (λz=>[(7,oF oG z.1)])
  (λz w'=>z.1<=al.length/\z.1<=5/\CrI J I vcl S v3 z.2.1 M3 z.2.2 w'/\GrI al S i z.1 M3 z.2.2) (λz=>5 - z.1) ol (0,v2,E) La
  ⟨Ln _,Ln _,hR,hT⟩ ?_
 rintro⟨k,vd,F⟩ m2 ke ⟨hk,hU,hf,hg⟩;simp only[]at hk hU hf hg;have kf:=hD.st hf.st;have m3:=hg.en;refine Qd<|Q3 (α:=Unit) [(40,47)] (λz=>[(47,.bool (decide (k<al.length/\k<5)))]) (λz w'=>w'=ke) ol ?_ ?_
 ·refine Qw<|Qa<|Qa<|QK kf U<|xb (YQ U U) (λhV=>?_) (λhV=>?_)
  ·refine Qa<|Qa<|QZ U U<|QH U<|xe<|⟨(),⟨OV Value.bool ?_,Z⟩,U⟩;exact decide_eq_decide.2 ⟨λe=>⟨oa,oa⟩,λe=>oa⟩
  refine Qa<|Qr<|Qr<|QH U<|xe ?_;exact⟨(),⟨OV Value.bool (OZ (λe=>hV oa)).symm,Z⟩,U⟩
 rintro _ m4 V rfl;refine QG rfl (λh1=>?_) (λh1=>?_)
 ·refine Qy<|Qw<|Qa<|QP U U<|Qb<|⟨(i+1,v3,vd,M3,F),oh,La,h0,hf,hg.next hU,λx hx=>by have:=hg.ml x hx;simp only[];omega⟩
 have hk1:k<al.length:=h1.1;have h2:k<5:=h1.2;have gj:=qw (ns:=ns) (j:=0+2+i*5+k*1) oa;have lj:=Jr hr (0+2+i*5+k*1);refine Zk (ns.getD (0+2+i*5+k*1) 0) λq hq=>?_;rw[hq]at gj lj;have kg:=hE.J hf.st n3;have kh:0<=(q:Int) % ((S:Int)+2):=Int.emod_nonneg _ oa;refine Qh<|Qd<|Qf<|Qd<|ZD [] (Xb 0 12 [])<|p QE<|p QE<|p (QR U)<|p (λ_=>ZZ (i:=i) U U oa)<|p (λ_=>ZZ (i:=k) U U h2)<|pq (λ_ Y=>Qq (kg.I Y) U gj) <|
  p (λ_=>Z3 (k':=.i64) U ⟨oa,oa⟩)<|p (QR U)<|pq (λ_ Y=>Qq (hf.B.I Y) U U)<|p (λ_=>XR U U ⟨oa,oa⟩) <|
  p (λ_=>JH (a:=(q:Int)) (b:=(S:Int)+2) U U oa oa)<|p ZN<|pe ?_
 have ha:=hf.I (O5.C [] V);refine Zk ((q:Int) % ((S:Int)+2)) λt ht=>?_;refine Qm<|Qs U ha.B U U<|QZ U U<|xe<|QG rfl (λki=>?_) (λki=>?_)
 ·refine Qh<|Qw<|Qa<|QP U U<|Qb<|⟨(k+1,vd,F),oh,La,hk1,h2,ha,hg.skip hk1⟩
 have kj:=Qi ha.e;have kk:QQ (I::ob vd) { V with drawn:=V.drawn+1 }.heap v al:=((hD.up (L':=I::ob vd) (λb G=>by
  rcases Li.1 G with rfl|G
  ·exact .inl oe
  exact .inr (kj b G).1)).J ha.st oe)
 have kn:=QT ha.e hj;refine qD (O5 (ob vd) { V with drawn:=V.drawn+1 }) [oD 0,oD 1,oD 2,oD 3,oD 4,oD 5,oD 6,oD 7,oD 8,oE 9,oE 10,oD 11,oE 12] mixed ol od (O5.C _ _) ?_
 refine p (QR U)<|pq (λ_ Y=>Qq (ha.B.J Y kn) U U)<|p QE<|p QE<|p QE <|
  pic (i:=k) U kk U U hk1 λm5 ko=>pq (λ_ Y=>QA (ko.J Y (λb G=>Lj _ G)) U)<|p QE<|p (λ_=>Qz ⟨U,U,U,Z⟩) <|
  pk<|QC (us:=[QF ((i:Int),O6 al k,(q:Int) % ((S:Int)+2))]) U U og (by exact(by decide:1*3<=1000000)) oA λm6 m7 kq m8 kr=>?_
 have h3:=(O5.C [] { V with drawn:=V.drawn+1 }).D kq
 have ho:=ha.I h3;refine⟨h3.any,?_⟩;refine pk<|Za (news:=QF ((i:Int),O6 al k,(q:Int) % ((S:Int)+2))) (L:=[]) ho.e U U U (kr.at oe) (λy hy=>by simp only[QF,oL,oJ,or_false]at hy;rcases hy with rfl|rfl|rfl <;> rfl) oa ho.st.size λhW kt ku h4 kv=>⟨(h3.any (L:=ob vd)).Q h4,?_⟩
 have hX:YH 167 J.heap.size kt hW (F++[((i:Int),O6 al k,(q:Int) % ((S:Int)+2))]):=YH.snoc ku;refine p (QR U)<|pkl (hl:=by kernel_rfl)<|QB (ho.B.J h4 (QT ho.e hj)) U U oe (YH.eds (L:=[]) hX (by simp;omega) oe).one λm9 kw kx=>pe ?_;have kz:=ho.setE hj h4 hX kv kw kx;refine Qw<|Qa<|QP U U<|Qb<|⟨(k+1,hW,F++[((i:Int),O6 al k,(q:Int) % ((S:Int)+2))]),oh,La,hk1,h2,kz,hg.edge hk1 hi h0 kh oa⟩
section
variable {pS:String}
theorem U8 [Ag P t sz]{x:O3}(h:Zb w.heap b T cs)(hx:ev f x=.pointer (some ⟨b,o,none⟩))(hl:us.length=sz)(G:∀j u,us[j]?=some u->cs[o+j]?=some u):
  (execOp (ev f) ⟨d,.load t x,ty,pS,af,gd⟩).run P w=.ok (.value (.agg us.toArray)) w:=by
 refine zk hx hl λj u H=>?_;rw[Kt,Km,h.cell];exact G j u H
end
theorem QmD :∀j u,(bys ((ns.drop o).take n))[j]?=some u->(bys ns)[o+j]?=some u:=by
 intro j u h;simp only[bys,List.getElem?_map,List.getElem?_take,List.getElem?_drop]at h ⊢;split at h
 ·exact h
 cases h
theorem QmE (h:∀n∈ns,n<256)(o n:Nat):∀m∈(ns.drop o).take n,m<256:=λm G=>h m (L6 (LX G))
theorem Qep (m k:Nat):∀e∈setK m k,0<=e/\e<k:=by
 intro e G;simp only[setK,Oz,OF,OA]at G;obtain⟨i,⟨hi,_⟩,rfl⟩:=G;omega
theorem QeG (keep:Bool->Bool->Bool):∀(n:Nat) (a b:LI),a.length+b.length<=n->YY a->YY b->YY (mrg keep a b):=by
 intro n;induction n with
 | zero =>
  intro a b h _ _;have O:a=[]:=Lp oa;have S:b=[]:=Lp oa;subst O S;rw[KK];exact List.Pairwise.nil
 | succ n ih =>
  intro a b T ia ib;by_cases h:a=[]/\b=[]
  ·obtain⟨rfl,rfl⟩:=h;rw[KK];exact List.Pairwise.nil
  have V:=yr h;have itl:∀(c:Bool) (l:LI),YY l->YY (tl c l):=λc l hl=>by
   cases c
   ·exact hl
   cases l with
   | nil=>exact hl
   | cons y l=>exact hl.tail
  have I:=ih (tl (Jq a b) a) (tl (Jq b a) b) oa (itl _ _ ia) (itl _ _ ib);rw[Kl keep h];cases keep (Jq a b) (Jq b a)with
  | false=>simpa using I
  | true =>
   simp only[cond_true,Ov];refine L3.2 ⟨λx hx=>?_,I⟩;have H:=(zq (itl _ _ ia) (itl _ _ ib) x).1 hx;cases a with
   | nil =>
    cases b with
    | nil=>exact OW ⟨U,U⟩ h
    | cons y b =>
     simp only[Jq,tl,cond_true,cond_false,On,oJ,false_or,Lg.hx,Ol]at H ⊢;exact ib.lt_of H.1
   | cons u a =>
    cases b with
    | nil =>
     simp only[Jq,tl,cond_true,cond_false,On,oJ,or_false,Lg.hx,Ol]at H ⊢;exact ia.lt_of H.1
    | cons y b =>
     rcases Int.lt_trichotomy u y with J|J|J
     ·have e1:decide (u<=y)=true:=OX oa;have e2:decide (y<=u)=false:=OZ oa;simp only[Jq,tl,e1,e2,cond_true,cond_false,On,Lg.hx,Ol]at H ⊢;rcases H.1 with G|G
      ·exact ia.lt_of G
      rcases Li.1 G with G|G
      ·omega
      have:=ib.lt_of G;omega
     ·have e1:decide (u<=y)=true:=OX oa;have e2:decide (y<=u)=true:=OX oa;simp only[Jq,tl,e1,e2,cond_true,On,Lg.hx,Ol]at H ⊢;rcases H.1 with G|G
      ·have:=ia.lt_of G;omega
      have:=ib.lt_of G;omega
     have e1:decide (u<=y)=false:=OZ oa;have e2:decide (y<=u)=true:=OX oa;simp only[Jq,tl,e1,e2,cond_true,cond_false,On,Lg.hx,Ol]at H ⊢;rcases H.1 with G|G
     ·rcases Li.1 G with G|G
      ·omega
      have:=ia.lt_of G;omega
     exact ib.lt_of G
section
variable {pS:String}{all:xE}{C:xA}
theorem tp {l:xu}(h:XP P all C K l f w):XT P all C K (.pl l) f w:=h
end
theorem Qea {J O S:O2}(h:ZH L w.heap va vm ve a)(T:ZH L' w.heap J O S a):
  Q6 prog 55 [.agg #[va,oF oG a.st,vm,ve],.agg #[J,oF oG a.st,O,S]] w λr w'=>r=.bool true/\O5 [] w w':=by
 refine Zq func55 ?_;refine Qc<|Qe<|QS (us:=[va,oF oG a.st,vm,ve]) U λb2 w1 hi hl hj=>Qe<|QS (us:=[J,oF oG a.st,O,S]) U λb3 w2 hb hm G=>Qb ?_;have V:=hi.D hb;have H:=hj.I hb;refine Qc<|Qs U H U U<|Qs U G U U<|xb (Q0 U U) (λ_=>?_) (λh9=>OW U h9);refine Qa<|Qs U H U U<|Qs U G U U<|QM<|(JD (h.al.I V) (T.al.I V)).mono ?_;rintro r3 w3 ⟨hc,I⟩;rw[OX rfl]at hc;subst hc;have Y:=V.D I;refine x (U7 U) <|
  Qa<|Qs rfl (H.I I) U U<|Q2 U<|x (Qq (G.I I) U U) <|
  QM<|(JD (h.mr.I Y) (T.mr.I Y)).mono ?_
 rintro r4 w4 ⟨he,hf⟩;rw[OX rfl]at he;subst he;have ha:=Y.D hf;have hg:=I.D hf;refine QH rfl<|Qa<|Q2 U<|x (Qq (H.I hg) U U) <|
  Qs rfl (G.I hg) U U<|QM<|(j4 (h.ed.I ha) (T.ed.I ha)).mono ?_
 rintro r5 w5 ⟨hh,hk⟩;rw[OX rfl]at hh;subst hh;refine QH rfl<|Qb<|Qk ⟨[.bool true],La,U,ha.D hk⟩
section
variable {pS:String}
end
section
variable {w4 w'':O1}{m q:Bool}{vd:O2}{E D:LI}
end
section
variable {pS:String}
end
def grid (g:Nat->Int->Option Ed)(vs:LI)(n:Nat):List Ed:=(oR 0 n).flatMap λj=>vs.filterMap (g j)
theorem qm (g:Nat->Int->Option Ed)(vs:LI)(n:Nat):grid g vs (n+1)=grid g vs n++vs.filterMap (g n):=by
 unfold grid;rw[Mz,LA];simp
theorem Qcl (l m:List Ed)(s v:Int):xo (l++m) s v=match xo l s v with|some u=>some u|none=>xo m s v:=by
 induction l with
 | nil=>rfl
 | cons e l ih =>
  rw[Ml,xo,xo];split
  ·rfl
  exact ih
def yU (g:Nat->Int->Option Ed):Prop:=∀j v e,g j v=some e->e.1=(j:Int)/\e.2.1=v
theorem Qcj {g:Nat->Int->Option Ed}(G:yU g)(j:Nat)(v:Int):∀(vs:LI),xo (vs.filterMap (g j)) j v=if v∈vs then(g j v).map (·.2.2)else none
 | []=>by simp[xo]
 | u::vs=>by
  have ih:=Qcj G j v vs;rw[Mx];cases E:g j u with
  | none =>
   simp only[];rw[ih];by_cases e:v=u
   ·subst e;simp[E]
   simp[e]
  | some e =>
   have H:=G j u e E;simp only[];rw[xo];by_cases e2:u=v
   ·subst e2;rw[OU H,OU Lr,E];rfl
   rw[OT (λh=>e2 (H.2.symm.D h.2)),ih];simp[Ne.symm e2]
theorem Qci {g:Nat->Int->Option Ed}(E:yU g)(h:j≠i)(v:Int)(vs:LI):xo (vs.filterMap (g j)) i v=none:=by
 refine j5 λe G I=>?_;obtain⟨u,_,H⟩:=MX.1 G;have:=E j u e H;omega
theorem Qgu {g:Nat->Int->Option Ed}(E:yU g)(vs:LI)(j:Nat)(v:Int):∀n,xo (grid g vs n) j v=if j<n/\v∈vs then(g j v).map (·.2.2)else none
 | 0=>by simp[grid,xo]
 | n+1=>by
  rw[qm,Qcl,Qgu E vs j v n];by_cases e:j=n
  ·subst e;rw[OT oa,Qcj E];simp
  rw[Qci E (Ne.symm e)];by_cases h:j<n/\v∈vs
  ·rw[OU h,OU ⟨oa,h.2⟩];cases(g j v).map (·.2.2) <;> rfl
  rw[OT h,OT (λG=>h ⟨oa,G.2⟩)]
theorem Qb9 {g:Nat->Int->Option Ed}{vs:LI}{e:Ed}(h:e∈grid g vs n):∃j v,j<n/\v∈vs/\g j v=some e:=by
 unfold grid at h;obtain⟨j,E,G⟩:=Mb.1 h;obtain⟨v,H,I⟩:=MX.1 G;rw[MB]at E;exact⟨j,v,oa,H,I⟩
theorem QeY {g:Nat->Int->Option Ed}(E:yU g){vs:LI}(hi:YY vs):∀n,(grid g vs n).Pairwise λx y:Ed=>x.1<y.1\/(x.1=y.1/\x.2.1<y.2.1)
 | 0=>by simp[grid]
 | n+1=>by
  rw[qm,MF];refine⟨QeY E hi n,Jm (r:=(·<·)) (λx y u v V I J=>?_) hi,λe O S T=>?_⟩
  ·have G:=E n x u I;have H:=E n y v J;right;omega
  obtain⟨j,v,Y,_,G⟩:=Qb9 O;obtain⟨v',_,H⟩:=MX.1 T;have h3:=E j v e G;have h4:=E n v' S H;left;omega
theorem Qp7 (l:List Q9):∀(acc:LI),(∀a∈l,YY a.al)->YY acc->YY (l.foldl (λacc a=>mrg (· || ·) acc a.al) acc)/\∀x,x∈l.foldl (λacc a=>mrg (· || ·) acc a.al) acc↔x∈acc\/∃a∈l,x∈a.al:=by
 induction l with
 | nil=>intro acc _ h;exact⟨h,λx=>oe⟩
 | cons a l ih =>
  intro acc hl h;have G:=hl a Lr;obtain⟨H,I⟩:=ih (mrg (· || ·) acc a.al) (λb J=>hl b (Lj _ J)) (QeG _ _ _ _ (Lu _) h G);rw[LZ];refine⟨H,λx=>?_⟩;rw[I x,zq h G];simp only[oL,exists_eq_or_imp];constructor
  ·rintro(⟨E|E,_⟩|E)
   ·exact .inl E
   ·exact .inr (.inl E)
   exact .inr (.inr E)
  rintro(E|E|E)
  ·exact .inl ⟨.inl E,by simp[E]⟩
  ·exact .inl ⟨.inr E,by simp[E]⟩
  exact .inr E
theorem Qe5 {l:List Q9}(h:∀a∈l,ZE a):YY (evs l):=(Qp7 l [] (λa E=>(h a E).ali) oe).1
theorem Qe4 {l:List Q9}(h:∀a∈l,ZE a)(x:Int):x∈evs l↔∃a∈l,x∈a.al:=by
 have:=(Qp7 l [] (λa E=>(h a E).ali) oe).2 x;unfold evs;rw[this];simp
def syF (aa:List Q9)(tup:List (LI))(j:Nat)(v:Int):Option Ed:=(YV v aa (tup.getD j [])).map λu=>((j:Int),v,(tup.idxOf u:Int))
theorem Qnx (aa:List Q9)(tup:List (LI)):yU (syF aa tup):=by
 intro j v e h;unfold syF at h;obtain⟨u,_,rfl⟩:=My.1 h;exact⟨U,U⟩
theorem Qcd {α β:Type}{f g:α->Option β}:∀{l:List α},(∀x∈l,f x=g x)->l.filterMap f=l.filterMap g
 | [],_=>rfl
 | x::l,h=>by rw[Mx,Mx,h x Lr,Qcd (λy E=>h y (Lj _ E))]
theorem QiZ {f:α->Option β}{v:α}{e:β}(h:f v=some e):[v].filterMap f=[e]:=by rw[Mx,h];rfl
theorem QlY {f:α->Option β}{v:α}(h:f v=none):[v].filterMap f=[]:=by rw[Mx,h];rfl
theorem Qhp {tup:List (LI)}{v:Int}(h:YV v aa (tup.getD j [])=none):syF aa tup j v=none:=by unfold syF;rw[h];rfl
theorem Qby {tup:List (LI)}{v:Int}(h:YV v aa (tup.getD j [])=some u):syF aa tup j v=some ((j:Int),v,(tup.idxOf u:Int)):=by unfold syF;rw[h];rfl
def Clo (aa:List Q9)(tup:List (LI))(j:Nat)(vs:LI):Prop:=∀v∈vs,∀u,YV v aa (tup.getD j [])=some u->u∈tup
theorem Vj {tup r:List (LI)}(h:j<tup.length):(tup++r).getD j []=tup.getD j []:=by simp[oQ,List.getElem?_append_left h]
theorem Qeh {tup r:List (LI)}{vs:LI}(E:j<tup.length)(G:Clo aa tup j vs):vs.filterMap (syF aa (tup++r) j)=vs.filterMap (syF aa tup j):=by
 refine Qcd λv H=>?_;unfold syF;rw[Vj E];cases I:YV v aa (tup.getD j [])with
 | none=>rfl
 | some u =>
  have J:=G v H u I;simp only[Oy,Option.some.injEq,Prod.mk.injEq,true_and];rw[MA,OU J]
theorem Clo.pre {tup r:List (LI)}{vs:LI}(G:j<tup.length)(H:Clo aa tup j vs):Clo aa (tup++r) j vs:=by
 intro v I u E;rw[Vj G]at E;exact Mc _ (H v I u E)
theorem ye {l:List α}{u:α}(h:l.Nodup)(G:u∉l):(l++[u]).Nodup:=by
 rw[MC];exact⟨h,oe,λa H b E=>by simp only[oI]at E;subst E;exact λe=>G (by rw[<-e];exact H)⟩
theorem js {aa:List Q9}{i:Nat}:∀(vs:LI) (s I:Sy),i<s.tup.length->s.tup.Nodup->zK aa i (jq s i) vs s=some I ->
  ∃r,I.tup=s.tup++r/\I.mk'=s.mk'/\I.ed=s.ed++vs.filterMap (syF aa I.tup i)/\Clo aa I.tup i vs/\I.tup.Nodup
 | [],s,I,_,hd,e=>by cases e;exact⟨[],oe,rfl,oe,λv hv=>(by cases hv),hd⟩
 | v::vs,s,I,hi,hd,e=>by
  rw[zK]at e;obtain⟨J,E,Y⟩:=MW.1 e;have key:∃T,J.tup=s.tup++T/\J.mk'=s.mk'/\J.ed=s.ed++[v].filterMap (syF aa J.tup i)/\Clo aa J.tup i [v]/\J.tup.Nodup:=by
   unfold syE at E;have eT:jq s i=s.tup.getD i []:=rfl;rw[eT]at E;cases O:YV v aa (s.tup.getD i [])with
   | none =>
    rw[O]at E;cases E
    refine⟨[],oe,rfl,by rw[QlY (Qhp O),Ox],λv' G u H=>?_,hd⟩;simp only[oI]at G;subst G;rw[O]at H;cases H
   | some u =>
    rw[O]at E;simp only[]at E;by_cases H:u∈s.tup
    ·rw[OU H]at E;cases E
     refine⟨[],oe,rfl,by rw[QiZ (Qby O)],λv' G u' S=>?_,hd⟩;simp only[oI]at G;subst G;simp only[]at S ⊢;rw[O]at S;cases S;exact H
    rw[OT H]at E;split at E
    ·cases E
    cases E
    have e2:(s.tup++[u]).getD i []=s.tup.getD i []:=Vj hi;have e3:(s.tup++[u]).idxOf u=s.tup.length:=by rw[MA,OT H];simp
    refine⟨[u],U,U,?_,λv' G u' S=>?_,ye hd H⟩
    ·rw[QiZ (Qby (tup:=s.tup++[u]) (u:=u) (by rw[e2];exact O)),e3]
    simp only[oI]at G;subst G;simp only[]at S ⊢;rw[e2,O]at S;cases S;simp
  obtain⟨T,k1,k2,k3,k4,k5⟩:=key;have V:i<J.tup.length:=by rw[k1];simp;omega
  have eT:jq J i=jq s i:=by unfold jq;rw[k1];exact Vj hi
  rw[<-eT]at Y;obtain⟨r2,g1,g2,g3,g4,g5⟩:=js vs J I V k5 Y;refine⟨T++r2,by rw[g1,k1,LB],g2.D k2,?_,?_,g5⟩
  ·rw[g3,k3,LB];congr 1;rw[show v::vs=[v]++vs from rfl,List.filterMap_append];congr 1;rw[g1];exact(Qeh V k4).symm
  intro v' G u H;rcases Li.1 G with rfl|G
  ·have:=k4.pre (r:=r2) V;rw[<-g1]at this;exact this v' Lr u H
  exact g4 v' G u H
structure SyG (aa:List Q9)(i:Nat)(s:Sy):Prop where
 nd:s.tup.Nodup
 le:i<=s.tup.length
 hd:s.tup.getD 0 []=oN aa.length 0/\0<s.tup.length
 mk2:s.mk'=((oR 0 i).filter λj=>JJ aa (s.tup.getD j [])).map λj:Nat=>(j:Int)
 ed:s.ed=grid (syF aa s.tup) (evs aa) i
 cl:∀j,j<i->Clo aa s.tup j (evs aa)
theorem JN {α β:Type}{f g:α->List β}:∀{l:List α},(∀x∈l,f x=g x)->l.flatMap f=l.flatMap g
 | [],_=>rfl
 | x::l,h=>by rw[LH,LH,h x Lr,JN (λy E=>h y (Lj _ E))]
theorem SyG.next {s E:Sy}(h:SyG aa i s)(hi:i<s.tup.length)(e:zK aa i (jq s i) (evs aa) (Yf aa i (jq s i) s)=some E):SyG aa (i+1) E:=by
 have H:(Yf aa i (jq s i) s).tup=s.tup:=by unfold Yf;split <;> rfl
 have T:(Yf aa i (jq s i) s).ed=s.ed:=by unfold Yf;split <;> rfl
 have O:jq (Yf aa i (jq s i) s) i=jq s i:=by show(Yf aa i (jq s i) s).tup.getD i []=s.tup.getD i [];rw[H]
 rw[<-O]at e;obtain⟨r,g1,V,S,Y,g5⟩:=js (evs aa) _ E (by rw[H];exact hi) (by rw[H];exact h.nd) (by rw[O]at e ⊢;exact e);rw[H]at g1;rw[T]at S;have pre:∀j,j<=i->E.tup.getD j []=s.tup.getD j []:=λj G=>by rw[g1];exact Vj oa
 refine⟨g5,by rw[g1];simp;omega,⟨by rw[pre 0 oa];exact h.hd.1,by rw[g1];simp;omega⟩,?_,?_,λj G=>?_⟩
 ·rw[V,Mz,L5,Ls,LR];have e1:((oR 0 i).filter λj=>JJ aa (E.tup.getD j []))=(oR 0 i).filter λj=>JJ aa (s.tup.getD j []):=by
   refine List.filter_congr λj G=>?_;rw[MB]at G;rw[pre j oa]
  rw[e1];unfold Yf;by_cases I:JJ aa (jq s i)=true
  ·rw[OU I];have J:JJ aa (E.tup.getD i [])=true:=by rw[pre i (Lu _)];exact I
   simp only[List.filter_cons,J,if_true,List.filter_nil,oX,OL];rw[h.mk2]
  rw[OT I];have J:JJ aa (E.tup.getD i [])=false:=by rw[pre i (Lu _)];exact eq_false_of_ne_true I
  rw[Mf,OT (by rw[J];simp),Nk,h.mk2];simp
 ·rw[S,qm,h.ed];congr 1;unfold grid;refine JN λj G=>?_;rw[MB]at G;rw[g1];exact(Qeh oa (h.cl j oa)).symm
 by_cases e2:j=i
 ·subst e2;exact Y
 have:=(h.cl j oa).pre (r:=r) oa;rw[<-g1]at this;exact this
theorem Qbx {aa:List Q9}:∀(f i:Nat) (s E:Sy),SyG aa i s->syL aa f i s=some E->∃G,SyG aa G E/\(E.tup.length=G\/G=i+f)
 | 0,i,s,E,h,e=>by cases e;exact⟨i,h,.inr U⟩
 | f+1,i,s,E,h,e=>by
  rw[syL]at e;split at e
  ·rename_i hi;obtain⟨H,I,J⟩:=MW.1 e;obtain⟨G,O,S⟩:=Qbx f (i+1) H E (h.next hi I) J;exact⟨G,O,oa⟩
  cases e;exact⟨i,h,.inl (ou h.le)⟩
structure SyP (aa:List Q9)(A:Q9)(Q:List (LI)):Prop where
 al:A.al=evs aa
 st:A.st=(Q.length:Int)
 nd:Q.Nodup
 v:∀t∈Q,Vt aa t
 le:Q.length<=4096
 hd:0<Q.length->Q.getD 0 []=oN aa.length 0
 mk2:A.mr=((oR 0 Q.length).filter λj=>JJ aa (Q.getD j [])).map λj:Nat=>(j:Int)
 ed:A.ed=grid (syF aa Q) (evs aa) Q.length
 cl:∀j,j<Q.length->Clo aa Q j (evs aa)
theorem Jw (J:∀a∈aa,ZE a){A:Q9}{Q:List (LI)}(h:xp aa=some (A,Q)):SyP aa A Q/\(Q.length=0↔∃a∈aa,a.st=0):=by
 have G:=zi J h;unfold xp at h;split at h
 ·rename_i H;cases h
  exact⟨⟨U,U,oe,oe,oe,λh=>by simp at h,oe,by simp[grid],λj I=>by simp at I⟩,oz H⟩
 rename_i H;obtain⟨s,O,S⟩:=My.1 h;have T:SyG aa 0 (jt aa):=⟨by simp[jt],oe,⟨by simp[jt],by simp[jt]⟩,by simp[jt],by simp[jt,grid],λj I=>oa⟩;obtain⟨V,E,h4⟩:=Qbx 4096 0 (jt aa) s T O;cases S
 have hl:V=s.tup.length:=by
  have h5:=E.le;have Y:=G.2;simp only[]at Y;omega
 subst hl;refine⟨⟨rfl,U,E.nd,G.1,G.2,λ_=>E.hd.1,E.mk2,E.ed,E.cl⟩,?_⟩;have:=E.hd.2;constructor
 ·intro h;have h7:s.tup.length=0:=h;omega
 intro h;exact OW h H
theorem SyP.to {A:Q9}{Q:List (LI)}(h:SyP aa A Q)(E:j<Q.length){v:Int}(G:v∈evs aa)(H:YV v aa (Q.getD j [])=some u):Q.idxOf u<Q.length/\Q.getD (Q.idxOf u) []=u:=by
 have I:=h.cl j E v G u H;have hl:=MH I;refine⟨hl,?_⟩;simp[oQ,hl]
theorem SyP.okay (G:∀a∈aa,ZE a){A:Q9}{Q:List (LI)}(h:SyP aa A Q):ZE A:=by
 have V:=h.le;refine⟨λe E=>?_,by rw[h.al];exact Qe5 G,by rw[h.st];omega,by rw[h.st];omega,λs H=>?_,?_,λe E=>?_,by rw[h.ed];exact QeY (Qnx aa Q) (Qe5 G) _⟩
 ·rw[h.al]at E;obtain⟨a,O,hx⟩:=(Qe4 G e).1 E;exact(G a O).al e hx
 ·rw[h.mk2]at H;simp only[Oz,OF,OA]at H;obtain⟨i,⟨hi,_⟩,rfl⟩:=H;rw[h.st];omega
 ·rw[h.mk2];unfold YY;rw[MO];refine List.Pairwise.sublist MY ?_;exact(Nh (s:=0) (n:=Q.length)).imp (λh=>oa)
 rw[h.ed]at E;obtain⟨j,v,S,I,J⟩:=Qb9 E;unfold syF at J;obtain⟨u,T,rfl⟩:=My.1 J;have:=(h.to S I T).1;rw[h.st,h.al];exact⟨oh,oh,I,oh,oh⟩
open Go.RowKit
instance:LawfulBEq ByteArray where
 eq_of_beq h:=(MapKept.bytes_beq _ _).1 h;rfl:=(MapKept.bytes_beq _ _).2 U
def chr (s:ByteArray)(i:Nat):Nat:=(s.get! i).toNat
theorem QoW {s:ByteArray}(h:i<s.size):(s[i]'h).toNat=chr s i:=by
 unfold chr;obtain⟨d⟩:=s;have hd:i<d.size:=h;simp[ByteArray.get!,hd,ByteArray.getElem_eq_getElem_data]
theorem QgL {a b:ByteArray}(h:a.data.toList=b.data.toList):a=b:=by
 obtain⟨⟨x⟩⟩:=a;obtain⟨⟨y⟩⟩:=b;have E:x=y:=h;rw[E]
theorem bytes_beq (a b:ByteArray):(a.toList == b.toList)=decide (a=b):=by
 rw[ByteArray.toList_eq,ByteArray.toList_eq];by_cases h:a=b
 ·subst h;simp
 rw[OZ h];have:a.data.toList≠b.data.toList:=λe=>h (QgL e);simpa using this
section
variable {pS:String}{t':Nat}{x:O3}
theorem QhX [h:St P t]{s:ByteArray}{k:IntKind}(hx:ev f x=.string s)(G:ev f y=.int k i)(hi:i<s.size):
  (execOp (ev f) ⟨d,.index t x y,ty,pS,af,gd⟩).run P w=.ok (.value (.int .u8 (chr s i))) w:=by
 have E:=run_index_string (P:=P) w t s k i h.u;rw[dif_pos ⟨oa,oa⟩]at E;have e:(s[(i:Int).toNat]'(oz hi)).toNat=chr s i:=QoW hi;simp only[execOp,hx,G,Sem.run_bind,E,Result.andThen_ok,Sem.run_pure,e]
theorem Qdk [h:St P t]{s:ByteArray}(hx:ev f x=.string s):
  (execOp (ev f) ⟨d,.call ⟨.builtin .len,#[x],#[t]⟩,ty,pS,af,gd⟩).run P w=.ok (.value (oF oG s.size)) w:=QhW h.u hx
theorem XC {a b:ByteArray}(hx:ev f x=.string a)(E:ev f y=.string b):
  (execOp (ev f) ⟨d,.binOp .eql t x y t',ty,pS,af,gd⟩).run P w=.ok (.value (.bool (decide (a=b)))) w:=by
 have G:(eqGuard .eql t x y (.string a) (.string b)).run P w=.ok () w:=by simp[eqGuard]
 simp only[execOp,hx,E,Sem.run_bind,G,Result.andThen_ok,binOp_string_eql,Sem.run_pure,bytes_beq]
theorem YL {a b:ByteArray}(hx:ev f x=.string a)(E:ev f y=.string b)(hl:a.size+b.size<=1000000000):
  (execOp (ev f) ⟨d,.binOp .add t x y t',ty,pS,af,gd⟩).run P w=.ok (.value (.string (a++b))) w:=by
 have G:(eqGuard .add t x y (.string a) (.string b)).run P w=.ok () w:=by simp[eqGuard]
 have I:¬(((a.size+b.size:Nat):Int) > IntKind.i64.max):=by
  rw[show IntKind.i64.max=9223372036854775807 from rfl];omega
 simp only[execOp,hx,E,Sem.run_bind,G,Result.andThen_ok,binOp_string_add,Op.stringOp,OT I,Sem.run_pure]
theorem Qlj {a:Nat}(hx:ev f x=.int .u16 a)(E:ev f y=.int .u16 b)(G:a<65536)(I:b<65536):
  (execOp (ev f) ⟨d,.binOp .and t x y t',ty,pS,af,gd⟩).run P w=.ok (.value (.int .u16 ((a &&& b:Nat):Int))) w:=by
 refine Ji hx E ?_;have hi:inK .u16 ((a &&& b:Nat):Int):=by
  have:a &&& b<=a:=Nat.and_le_left;exact⟨oa,oa⟩
 simp only[binOp,Op.intBits,BitVec.ofInt_natCast,ne_eq,not_true_eq_false,if_false,Sem.run_pure];rw[BitVec.toNat_and,BitVec.toNat_ofNat,BitVec.toNat_ofNat,M9 (show a<2 ^ IntKind.u16.bits from G),M9 (show b<2 ^ IntKind.u16.bits from I),YJ hi]
theorem Qex {a:Nat}(E:a<65536)(G:b<65536):a ||| b<65536:=Nat.or_lt_two_pow (n:=16) E G
theorem Qdj {a:Nat}(hx:ev f x=.int .u16 a)(I:ev f y=.int .u16 b)(E:a<65536)(G:b<65536):
  (execOp (ev f) ⟨d,.binOp .or t x y t',ty,pS,af,gd⟩).run P w=.ok (.value (.int .u16 ((a ||| b:Nat):Int))) w:=by
 refine Ji hx I ?_;have hi:inK .u16 ((a ||| b:Nat):Int):=by
  have:=Qex E G;exact⟨oa,oa⟩
 simp only[binOp,Op.intBits,BitVec.ofInt_natCast,ne_eq,not_true_eq_false,if_false,Sem.run_pure];rw[BitVec.toNat_or,BitVec.toNat_ofNat,BitVec.toNat_ofNat,M9 (show a<2 ^ IntKind.u16.bits from E),M9 (show b<2 ^ IntKind.u16.bits from G),YJ hi]
theorem QhR {k:IntKind}{a:Int}(hx:ev f x=.int k a)(E:ev f y=.int k' n)(G:n<=k.bits)(hi:inK k (a*2 ^ n)):
  (execOp (ev f) ⟨d,.binOp .shl t x y t',ty,pS,af,gd⟩).run P w=.ok (.value (.int k (a*2 ^ n))) w:=by
 refine Ji hx E ?_;have I:¬((n:Int)<0):=oa
 simp only[binOp,Op.shift,I,if_false,Ot,Nat.min_eq_left G,Sem.run_pure];rw[YJ hi]
end
section
variable {P:O4}{ops:xE}{K:xz}{f:Fr}{w:O1}{d:xF}{ty:Nat}{pS:String}{af:xD}{gd:xt}{l:xE}
 {t e sz bys:Nat} {z:O2} {x y1 y2:O3} {L:LN} {v:O2} {n:Nat} {cs:LV} {H:xC} {k k':IntKind} {hi:Nat}
theorem QhQ [h:Sl P t e sz bys z](G:Zn L H v n sz cs)(hx:ev f x=v)(I:ev f y1=.int k hi)(J:ev f y2=.int k' hi)(V:hi<=n):
  ∃v',Zn L H v' hi sz (cs.take (hi*sz))/\∀w,(execOp (ev f) ⟨d,.slice t x none (some y1) (some y2),ty,pS,af,gd⟩).run P w=.ok (.value v') w:=by
 obtain⟨ii,O,_,Y,_⟩:=Sl.info h;rcases G.2.2 with⟨rfl,rfl⟩|⟨a,cap,rfl,hc,S⟩
 ·have T:hi=0:=oa
  subst T;refine⟨nS,?_,λw=>?_⟩
  ·rw[OP,List.take_zero];exact Zn.nil _ _ _
  simp[execOp,hx,I,J,Instr.sliceAt,Instr.slice,Instr.sliceBounds,Instr.sliceBound,asIntOf,run_underlying h.u,sizeOf,typeInfo,O]
 refine⟨.slice (some a) hi hi,⟨?_,ou G.2.1,.inr ⟨a,hi,U,Lu _,λu E=>S.out u (LX E),λu E=>S.lt u (LX E),λj u E=>?_⟩⟩,λw=>?_⟩
 ·rw[Ly,G.1,Mj (LY _ V)]
 ·rw[LU]at E;split at E
  ·exact S.cell j u E
  cases E
 by_cases T:hi=0
 ·subst T;simp[execOp,hx,I,J,Instr.sliceAt,Instr.slice,Instr.sliceBounds,Instr.sliceBound,asIntOf,run_underlying h.u,sizeOf,typeInfo,O]
 simp[execOp,hx,I,J,Instr.sliceAt,Instr.slice,Instr.sliceBounds,Instr.sliceBound,asIntOf,run_underlying h.u,sizeOf,typeInfo,O,Addr.add];intro h9;omega
end
section
variable {l:xE}{o:Oper}{C:xA}{pl:xu}
theorem xB {b:Bool}(E:(execOp (ev f) o).run P w=.ok (.value (.bool b)) w)(J:b=true->XL P ops K l (QW f o.dst (.bool true)) w)(O:b=false->XL P ops K l (QW f o.dst (.bool false)) w)
  (I:Yb ops f o=true:=by rfl):XL P ops K (o::l) f w:=by
 cases G:b with
 | true=>rw[G]at E;exact x E (J G) I
 | false=>rw[G]at E;exact x E (O G) I
theorem pB {b:Bool}(E:∀w',(execOp (ev f) (QV ops i)).run P w'=.ok (.value (.bool b)) w')(J:b=true->XP P ops C K pl (QW f (QV ops i).dst (.bool true)) w)(O:b=false->XP P ops C K pl (QW f (QV ops i).dst (.bool false)) w)
  (I:Yb ops f (QV ops i)=true:=by rfl):XP P ops C K ((i,true)::pl) f w:=by
 cases G:b with
 | true=>rw[G]at E;exact p E (J G) I
 | false=>rw[G]at E;exact p E (O G) I
theorem Qjf {G:Prop}(b:Bool)(E:b=true->G)(I:b=false->G):G:=by cases h:b with|true=>exact E h|false=>exact I h
theorem bT {q:Prop}[Decidable q](h:q):true=decide q:=(OX h).symm
theorem bF {q:Prop}[Decidable q](h:¬q):false=decide q:=(OZ h).symm
theorem bD {q r:Prop}[Decidable q][Decidable r](h:q↔r):decide q=decide r:=decide_eq_decide.2 h
end
section
variable {pS:String}{x:O3}
theorem zZ {q:Prop}[Decidable q](hx:ev f x=.bool (decide q)):(execOp (ev f) ⟨d,.unOp .not t x,ty,pS,af,gd⟩).run P w=.ok (.value (.bool (decide (¬q)))) w:=by
 rw[Zx hx];simp
end
structure J9 where
 nm:ByteArray
 co:Bool
 ob:Bool
 fo:Bool
 fl:Int
structure Xt where
 nm:ByteArray
 a:Q9
structure UV where
 nm:ByteArray
 ls:xx
structure xL where
 nm:ByteArray
 ts:xx
 bd:Int
structure ZB where
 ev:List J9
 co:List Xt
 rq:List Xt
 ex:List UV
 cs:List xL
def K1 (n:Nat):LI:=(oT n).map λi:Nat=>(i:Int)
def nmP (i c:Nat):Prop:=((97<=c/\c<=122)\/(65<=c/\c<=90)\/c=95)\/(i≠0/\48<=c/\c<=57)
instance (i c:Nat):Decidable (nmP i c):=by unfold nmP;infer_instance
def nmQ (s:ByteArray)(i:Nat):Bool:=decide (nmP i (chr s i))
def Y3 (s:ByteArray):Bool:=(oR 0 s.size).all (nmQ s) && decide (0<s.size/\s.size<=32)
def Jk (seen:List ByteArray)(e:J9):Int:=if Y3 e.nm=false then 7 else if e.nm∈seen then 8 else if e.fl<0\/4<e.fl then 2 else if e.fl≠0/\(e.co || e.ob)=true then 13 else 0
def qN:List ByteArray->List J9->Int
 | _,[]=>0
 | seen,e::l=>if Jk seen e≠0 then Jk seen e else qN (seen++[e.nm]) l
def Ke (l:List J9):Int:=if 32<l.length then 3 else qN [] l
def ixs {α:Type}(q:α->Bool):Nat->List α->LI
 | _,[]=>[]
 | i,e::l=>if q e=true then(i:Int)::ixs q (i+1) l else ixs q (i+1) l
def unc (l:List J9):LI:=ixs (λe=>!e.co) 0 l
def XW (sz:LI):Option Int->List (Int×Int)->Int
 | _,[]=>0
 | pr,l::ls=>if l.1<0\/(sz.length:Int)<=l.1 then 2 else if jd pr l.1=true then 5 else if l.2<0\/O6 sz l.1.toNat<=l.2 then 2 else XW sz (some l.1) ls
def Jd (sz:LI)(ls:xx):Int:=if ls.length=0 then 12 else XW sz none ls
def grt (n:Int):Bool:=decide (n < -65536) || decide (65536<n)
def J6 (sz:LI):Option Int->List (Int×Int)->Int
 | _,[]=>0
 | pr,l::ls=>if l.1<0\/(sz.length:Int)<=l.1 then 2 else if jd pr l.1=true then 5 else if l.2=0\/grt l.2=true then 2 else J6 sz (some l.1) ls
def Xx (sz:LI)(k:xL):Int:=if k.ts.length=0 then 12 else if J6 sz none k.ts≠0 then J6 sz none k.ts else if grt k.bd=true then 2 else 0
def Kd (seen:List ByteArray)(s:ByteArray):Int:=if Y3 s=false then 7 else if s∈seen then 8 else 0
def Yq (sz:LI):List ByteArray->List UV->Int
 | _,[]=>0
 | seen,x::l=>if Kd seen x.nm≠0 then Kd seen x.nm else if Jd sz x.ls≠0 then Jd sz x.ls else Yq sz (seen++[x.nm]) l
def Y6 (sz:LI):List ByteArray->List xL->Int
 | _,[]=>0
 | seen,x::l=>if Kd seen x.nm≠0 then Kd seen x.nm else if Xx sz x≠0 then Xx sz x else Y6 sz (seen++[x.nm]) l
def Ku (n:Int):Bool:=decide (n<1) || decide (4096<n)
def Yw (sz:LI)(ex:List UV)(cs:List xL):Int:=if 8<sz.length then 3 else if sz.any Ku=true then 2 else if 32<ex.length\/32<cs.length then 3 else if Yq sz [] ex≠0 then Yq sz [] ex else Y6 sz [] cs
def mns (a b:LI):LI:=mrg (λp q=>p && !q) a b
def Vh (a:Q9):Bool:=decide (Jl a=0) && decide ((Yd a).st=a.st/\(Yd a).al=a.al/\(Yd a).mr=a.mr/\(Yd a).ed=a.ed)
def Yo (nev:Nat)(amg:LI)(seen:List ByteArray)(x:Xt):Int :=
 if Y3 x.nm=false then 7 else if x.nm∈seen then 8 else if Jl x.a≠0 then Jl x.a else if Vh x.a=false then 6 else if x.a.st=0 then 12 else
 if(x.a.al.any λe=>decide ((nev:Int)<=e))=true then 2 else if(mns x.a.al amg).length≠0 then 9 else 0
def Yu (nev:Nat)(al:LI):List ByteArray->LI->List Xt->Int×List ByteArray×LI
 | s,u,[]=>(0,s,u)
 | s,u,x::l=>if Yo nev al s x≠0 then(Yo nev al s x,s,u)else Yu nev al (s++[x.nm]) (mrg (· || ·) u x.a.al) l
def JP (nev:Nat)(u:LI):List ByteArray->List Xt->Int
 | _,[]=>0
 | s,x::l=>if Yo nev u s x≠0 then Yo nev u s x else JP nev u (s++[x.nm]) l
def szs (l:List Xt):LI:=l.map (·.a.st)
def O7 (l:List Xt):List Q9:=l.map (·.a)
def Zl (c:ZB):Int :=
 if Ke c.ev≠0 then Ke c.ev else if c.co.length=0 then 12 else if 8<c.co.length\/12<c.co.length+c.rq.length then 3 else
 if(Yu c.ev.length (K1 c.ev.length) [] [] c.co).1≠0 then(Yu c.ev.length (K1 c.ev.length) [] [] c.co).1 else
 if JP c.ev.length (Yu c.ev.length (K1 c.ev.length) [] [] c.co).2.2 (Yu c.ev.length (K1 c.ev.length) [] [] c.co).2.1 c.rq≠0 then JP c.ev.length (Yu c.ev.length (K1 c.ev.length) [] [] c.co).2.2 (Yu c.ev.length (K1 c.ev.length) [] [] c.co).2.1 c.rq else
 Yw (szs c.co) c.ex c.cs
def VY (t:LI)(x:UV):Bool:=x.ls.all λl=>decide (t.getD l.1.toNat 0=l.2)
def Qpy (t:LI)(k:xL):Int:=k.ts.foldl (λs p=>s+p.2*t.getD p.1.toNat 0) 0
def UY (t:LI)(k:xL):Bool:=decide (k.bd<Qpy t k)
def fix {α:Type}(q:α->Bool):Nat->List α->Int
 | _,[]=>-1
 | i,e::l=>if q e=true then(i:Int)else fix q (i+1) l
def vio (c:ZB)(t:LI):Option (Int×Int):=
 if 0<=fix (VY t) 0 c.ex then some (1,fix (VY t) 0 c.ex)else if 0<=fix (UY t) 0 c.cs then some (2,fix (UY t) 0 c.cs)else none
def rfr (v:Int):Nat->List Xt->LI->Int
 | i,x::l,s::ss=>if v∈x.a.al/\(xo x.a.ed s v).isSome=false then(i:Int)else rfr v (i+1) l ss
 | _,_,_=>-1
structure Rsn where
 st:Int
 kd:Int
 ix:Int
 ev:Int
def rfd (c:ZB)(rs:LI):LI->Option (Int×Int)
 | []=>none
 | v::l=>if 0<=rfr v 0 c.rq rs/\(c.ev.getD v.toNat ⟨.empty,false,false,false,0⟩).co=false then some (rfr v 0 c.rq rs,v)else rfd c rs l
def Qgq (a:Q9)(s:Int):LI:=(Z4 a.ed s).map (·.2.1)
def rsn (c:ZB)(pl:Q9)(plc:Int)(i:Nat)(t:LI):Option Rsn :=
 match vio c (t.take c.co.length)with
 | some (k,j)=>some ⟨i,k,j,-1⟩
 | none=>match rfd c (t.drop c.co.length) (Qgq pl plc)with
  | some (j,v)=>some ⟨i,3,j,v⟩
  | none=>none
structure Spc where
 a:Q9
 co:List (LI)
 rq:List (LI)
 pl:LI
 fb:List Rsn
def plx (ps:List (LI))(t:LI):Int:=if t∈ps then(ps.idxOf t:Int)else 0
def QnB (c:ZB)(pl:Q9)(ps:List (LI))(s:Spc)(p:LI×Nat):Spc :=
 ⟨s.a,s.co++[p.1.take c.co.length],s.rq++[p.1.drop c.co.length],s.pl++[plx ps (p.1.take c.co.length)],
  match rsn c pl (plx ps (p.1.take c.co.length)) p.2 p.1 with|some r=>s.fb++[r]|none=>s.fb⟩
def Y0 (c:ZB):Int:=if Zl c≠0 then Zl c else if UT (O7 c.co)≠0 then UT (O7 c.co)else match xp (O7 c.co)with
 | none=>3
 | some _=>if UT (O7 c.co++O7 c.rq)≠0 then UT (O7 c.co++O7 c.rq)else match xp (O7 c.co++O7 c.rq)with
  | none=>3
  | some _=>0
def syA (l:List Q9):Q9:=match xp l with|none=>⟨[],0,[],[]⟩|some z=>z.1
def syQ (l:List Q9):List (LI):=match xp l with|none=>[]|some z=>z.2
def spc (c:ZB):Spc:=(syQ (O7 c.co++O7 c.rq)).zipIdx.foldl (QnB c (syA (O7 c.co)) (syQ (O7 c.co))) ⟨syA (O7 c.co++O7 c.rq),[],[],[],[]⟩
section
variable {pS:String}
end
inductive Pu where
 | pl (l:xu)
 | f2 (pre:xu) (i j:Nat) (t1 t2:Pu)
 | f3 (pre:xu) (i j k:Nat) (t1 t2 t3:Pu)
def Pu.len:Pu->Nat
 | .pl l=>l.length
 | .f2 pre _ _ t1 _=>pre.length+(1+t1.len)
 | .f3 pre _ _ _ t1 _ _=>pre.length+(1+t1.len)
def QaI (all:Array Oper):Pu->Array Bool->Bool
 | .pl l,ls=>Xe all l ls
 | .f2 pre i j t1 t2,ls=>KE all pre ls && Region.ready .any all (Z8 pre ls) == [i,j] && t1.len == t2.len && QaI all t1 ((Z8 pre ls).setIfInBounds i true) && QaI all t2 ((Z8 pre ls).setIfInBounds j true)
 | .f3 pre i j k t1 t2 t3,ls=>KE all pre ls && Region.ready .any all (Z8 pre ls) == [i,j,k] && t1.len == t2.len && t1.len == t3.len && QaI all t1 ((Z8 pre ls).setIfInBounds i true) && QaI all t2 ((Z8 pre ls).setIfInBounds j true) && QaI all t3 ((Z8 pre ls).setIfInBounds k true)
def QpG (all:xE)(t:Pu):Bool:=Region.noSelect all.toArray && t.len == all.length && QaI all.toArray t (oU all.length false)
def XE (P:O4)(all:xE)(C:xA)(i:Nat)(N:xz)(f:Fr)(w:O1):Prop:=Yb all f (QV all i)=true/\XO P (QV all i) f w λE w'=>C w'/\N E w'
def XU (P:O4)(all:xE)(C:xA)(K:xz):Pu->Fr->O1->Prop
 | .pl l=>XP P all C K l
 | .f2 pre i j t1 t2=>XP P all C (λf w=>XE P all C i (XU P all C K t1) f w/\XE P all C j (XU P all C K t2) f w) pre
 | .f3 pre i j k t1 t2 t3=>XP P all C (λf w=>XE P all C i (XU P all C K t1) f w/\XE P all C j (XU P all C K t2) f w/\XE P all C k (XU P all C K t3) f w) pre
section
variable {all:xE}{C:xA}{B:xz}
theorem Kv (E:Region.noSelect all.toArray=true):∀(t:Pu) (ls:Array Bool) (f:Fr) (w:O1),ls.size=all.length->C w->QaI all.toArray t ls=true->XU P all C K t f w->XA P all C K t.len ls f w
 | .pl l,ls,f,w,S,T,G,h=>ZQ E l ls f w S (.inl T) G h
 | .f2 pre i j t1 t2,ls,f,w,S,T,G,h=>by
  simp only[QaI,oK,beq_iff_eq]at G;obtain⟨⟨⟨⟨Y,H⟩,hl⟩,h1⟩,h2⟩:=G;rw[Pu.len];refine YI (B:=λf w=>XE P all C i (XU P all C K t1) f w/\XE P all C j (XU P all C K t2) f w) E pre ls f w T Y (λf I=>?_) h;have J:∀k,((Z8 pre ls).setIfInBounds k true).size=all.length:=λk=>by simp[YM,S]
  rw[Nb 1];refine XK (λh0=>(by rw[h0]at H;cases H)) ?_;rw[H];intro k V o O;simp only[oL,oJ,or_false]at V;rcases V with rfl|rfl
  ·have:=I.1;unfold XE at this;rw[Zm O]at this;rw[this.1,cond_true];exact this.2.mono λv w' hx=>⟨.inr (.inr hx.1),Kv E t1 _ _ _ (J _) hx.1 h1 hx.2⟩
  have:=I.2;unfold XE at this;rw[Zm O]at this;rw[this.1,cond_true,hl];exact this.2.mono λv w' hx=>⟨.inr (.inr hx.1),Kv E t2 _ _ _ (J _) hx.1 h2 hx.2⟩
 | .f3 pre i j k t1 t2 t3,ls,f,w,S,T,G,h=>by
  simp only[QaI,oK,beq_iff_eq]at G;obtain⟨⟨⟨⟨⟨⟨Y,H⟩,hl⟩,ha⟩,h1⟩,h2⟩,h3⟩:=G;rw[Pu.len];refine YI (B:=λf w=>XE P all C i (XU P all C K t1) f w/\XE P all C j (XU P all C K t2) f w/\XE P all C k (XU P all C K t3) f w) E pre ls f w T Y (λf I=>?_) h;have J:∀k,((Z8 pre ls).setIfInBounds k true).size=all.length:=λk=>by simp[YM,S]
  rw[Nb 1];refine XK (λh0=>(by rw[h0]at H;cases H)) ?_;rw[H];intro q V o O;simp only[oL,oJ,or_false]at V;rcases V with rfl|rfl|rfl
  ·have:=I.1;unfold XE at this;rw[Zm O]at this;rw[this.1,cond_true];exact this.2.mono λv w' hx=>⟨.inr (.inr hx.1),Kv E t1 _ _ _ (J _) hx.1 h1 hx.2⟩
  ·have:=I.2.1;unfold XE at this;rw[Zm O]at this;rw[this.1,cond_true,hl];exact this.2.mono λv w' hx=>⟨.inr (.inr hx.1),Kv E t2 _ _ _ (J _) hx.1 h2 hx.2⟩
  have:=I.2.2;unfold XE at this;rw[Zm O]at this;rw[this.1,cond_true,ha];exact this.2.mono λv w' hx=>⟨.inr (.inr hx.1),Kv E t3 _ _ _ (J _) hx.1 h3 hx.2⟩
theorem QmM {Q:Exit->Fr->O1->Prop}(C:xA)(t:Pu)(H:P.follows .mixedOrders=true)(I:XS n all=true)(E:QpG all t=true)
  (J:C { w with drawn:=w.drawn+1 }) (h:XU P all C (λf w=>Q .normal f w) t f { w with drawn:=w.drawn+1 }):W P n (.region id all.toArray true) Q f w:=by
 simp only[QpG,oK,beq_iff_eq]at E;obtain⟨⟨O,hl⟩,E⟩:=E;refine JQ C H I ?_;have G:=Kv O t _ _ _ oe J E h;rw[hl]at G;exact G
theorem uP {l:xu}(h:XP P all C K l f w):XU P all C K (.pl l) f w:=h
theorem u2 {pre:xu}{E G:Pu}(h:XP P all C (λf w=>XE P all C i (XU P all C K E) f w/\XE P all C j (XU P all C K G) f w) pre f w):XU P all C K (.f2 pre i j E G) f w:=h
theorem u3 {pre:xu}{k:Nat}{E G H:Pu}(h:XP P all C (λf w=>XE P all C i (XU P all C K E) f w/\XE P all C j (XU P all C K G) f w/\XE P all C k (XU P all C K H) f w) pre f w):XU P all C K (.f3 pre i j k E G H) f w:=h
theorem ue {N:xz}(h:XO P (QV all i) f w λE w'=>C w'/\N E w')(G:Yb all f (QV all i)=true:=by rfl):XE P all C i N f w:=⟨G,h⟩
end
attribute [irreducible] XU XE
open Go.RowKit
abbrev fen (ro:xF):Fence:={ Fence.wide with round:=ro }
def coll (ds:LN):List Deferred:=ds.map λD=>{ target:=.collected D,args:=#[] }
structure Xd (n:Nat)(ds:LN)(a:Act)(f:Fr):Prop where
 size:a.tmps.size=n
 defers:a.defers=coll ds
 get:∀t,a.tmps.getD t undef=f t
theorem Xd.rel {a:Act}(h:Xd n ds a f):Rel n { a with defers:=[] } f:=⟨h.size,U,h.get⟩
theorem Xd.eval {n:Nat}{ds:LN}{a:Act}{f:Fr}(h:Xd n ds a f):a.eval=ev f:=by
 have:=h.rel.eval;rw[<-this];funext x;cases x <;> rfl
theorem Xd.put {n:Nat}{ds:LN}{a:Act}{f:Fr}(h:Xd n ds a f){dst:xF}(hd:∀d,dst=some d->d<n)(v:O2):Xd n ds (a.put dst v) (QW f dst v):=by
 have:=h.rel.put hd v;cases dst with
 | none=>exact h
 | some d=>exact⟨this.size,h.defers,this.get⟩
def Jf:Code->Nat->Bool
 | .region _ ops _,t=>Ye ops.toList t
 | .seq a b,t=>Jf a t || Jf b t
 | .cond _ a b,t=>Jf a t || Jf b t
 | .block _ a,t=>Jf a t
 | .loop a,t=>Jf a t
 | .skip,_| .exit _,_| .label _,_| .goto _,_| .ret,_| .rangeFunc ..,_=>false
 | _,_=>true
def wrG (D:xw):Code->Bool
 | .region _ ops _=>Qee D ops.toList
 | .seq a b=>wrG D a && wrG D b
 | .cond _ a b=>wrG D a && wrG D b
 | .block _ a=>wrG D a
 | .loop a=>wrG D a
 | .skip| .exit _| .label _| .goto _| .ret| .rangeFunc ..=>true
 | _=>false
theorem JX {D:xw}{t:Nat}(E:Xi D t=false):∀c:Code,wrG D c=true->Jf c t=false
 | .region _ ops _,h=>jp h E
 | .seq a b,h=>by simp only[wrG,oK]at h;simp[Jf,JX E a h.1,JX E b h.2]
 | .cond _ a b,h=>by simp only[wrG,oK]at h;simp[Jf,JX E a h.1,JX E b h.2]
 | .block _ a,h=>JX E a (by simpa[wrG]using h)
 | .loop a,h=>JX E a (by simpa[wrG]using h)
 | .skip,_=>rfl
 | .exit _,_=>rfl
 | .label _,_=>rfl
 | .goto _,_=>rfl
 | .ret,_=>rfl
 | .rangeFunc ..,_=>rfl
 | .scope _,h=>by simp[wrG]at h
 | .refuse _,h=>by simp[wrG]at h
def WG (ro:xF)(m:Nat)(P:O4)(n:Nat)(c:Code)(Q:Exit->LN->Fr->O1->Prop)(ds:LN)(f:Fr)(w:O1):Prop :=
 ∀a,Xd n ds a f->c.wpIn (fen ro) m P (λe E w'=>∃ds' f',Xd n ds' E f'/\(∀t,Jf c t=false->f' t=f t)/\Q e ds' f' w') a w
def Qc6 (K:LN->Fr->O1->Prop)(Q:Exit->LN->Fr->O1->Prop):Exit->LN->Fr->O1->Prop
 | .normal,ds,f,w=>K ds f w
 | e,ds,f,w=>Q e ds f w
def Qql (id:Nat)(Q:Exit->LN->Fr->O1->Prop):Exit->LN->Fr->O1->Prop
 | .exit i,ds,f,w=>bif OS i id then Q .normal ds f w else Q (.exit i) ds f w
 | e,ds,f,w=>Q e ds f w
section
variable {ro:xF}{m:Nat}{Q:Exit->LN->Fr->O1->Prop}
theorem WG.mono {c:Code}{Q':Exit->LN->Fr->O1->Prop}(h:WG ro m P n c Q ds f w)(E:∀e ds f w,Q e ds f w->Q' e ds f w):WG ro m P n c Q' ds f w :=
 λa G=>wpIn_mono (h a G) λ_ _ _ ⟨H,I,J,O,S⟩=>⟨H,I,J,O,E _ _ _ _ S⟩
theorem WG.keeps {c:Code}(h:WG ro m P n c Q ds f w):WG ro m P n c (λe G E w'=>(∀t,Jf c t=false->E t=f t)/\Q e G E w') ds f w :=
 λa I=>wpIn_mono (h a I) λ_ _ _ ⟨G,E,J,H,O⟩=>⟨G,E,J,H,H,O⟩
theorem YN (h:Q .normal ds f w):WG ro m P n .skip Q ds f w:=λ_ E=>wpIn_skip ⟨ds,f,E,λ_ _=>U,h⟩
theorem Vv (h:Q (.exit i) ds f w):WG ro m P n (.exit i) Q ds f w:=λ_ E=>wpIn_exit ⟨ds,f,E,λ_ _=>U,h⟩
theorem Vu (h:Q .ret ds f w):WG ro m P n .ret Q ds f w:=λ_ E=>wpIn_ret ⟨ds,f,E,λ_ _=>U,h⟩
theorem Zh {x y:Code}(h:WG ro m P n x (Qc6 (λds f w=>WG ro m P n y Q ds f w) Q) ds f w):WG ro m P n (.seq x y) Q ds f w:=by
 intro a O;refine wpIn_seq (wpIn_mono (h a O) ?_);rintro e S w' ⟨J,E,G,T,H⟩;have k1:∀t,Jf (.seq x y) t=false->E t=f t:=λt I=>T t (by simp only[Jf,Oh]at I;exact I.1);cases e with
 | normal =>
  refine wpIn_mono (H S G) λ_ _ _ ⟨V,Y,g1,g2,g3⟩=>⟨V,Y,g1,λt I=>(g2 t ?_).D (k1 t I),g3⟩;simp only[Jf,Oh]at I;exact I.2
 | exit id=>exact⟨J,E,G,k1,H⟩
 | goto l=>exact⟨J,E,G,k1,H⟩
 | ret=>exact⟨J,E,G,k1,H⟩
 | panic ch=>exact⟨J,E,G,k1,H⟩
 | outgrown=>exact⟨J,E,G,k1,H⟩
theorem QfC {x y:Code}(D:xw)(S:α->List (Nat×O2))(I:α->LN->O1->Prop)(hD:wrG D x=true)
  (O:WG ro m P n x (Qc6 (λE H w'=>∃z,Xy H (S z)/\I z E w') Q) ds f w)
  (T:∀z g E w',I z E w'->WG ro m P n y Q E (qR (S z) (mix D f g)) w'):WG ro m P n (.seq x y) Q ds f w:=by
 refine Zh (O.keeps.mono ?_);rintro e E H w' ⟨V,G⟩;cases e with
 | normal =>
  obtain⟨z,Y,hi⟩:=G;have J:=T z H E w' hi;rw[Jg (λt ht=>V t (JX ht x hD)),Y8 Y]at J;exact J
 | exit id=>exact G
 | goto l=>exact G
 | ret=>exact G
 | panic ch=>exact G
 | outgrown=>exact G
theorem Ug {c:O3}{x y:Code}{t:Bool}(H:ev f c=.bool t)(E:t=true->WG ro m P n x Q ds f w)(I:t=false->WG ro m P n y Q ds f w):
  WG ro m P n (.cond c x y) Q ds f w:=by
 intro a G;have J:a.eval c=.bool t:=by rw[G.eval];exact H
 refine wpIn_cond_split J (λe=>wpIn_mono (E e a G) ?_) (λe=>wpIn_mono (I e a G) ?_) <;>
  (rintro e a' w' ⟨O,S,T,V,Y⟩
   refine⟨O,S,T,λt E=>V t ?_,Y⟩;simp only[Jf,Oh]at E
   first|exact E.1|exact E.2)
theorem QmU {c:O3}{x y:Code}{p:Prop}[Decidable p](E:ev f c=.bool (decide p))(G:p->WG ro m P n x Q ds f w)(H:¬p->WG ro m P n y Q ds f w):
  WG ro m P n (.cond c x y) Q ds f w :=
 Ug E (λe=>G (OY e)) (λe=>H (O0 e))
theorem Qaq {c:O3}{x y:Code}{p:Prop}[Decidable p](E:ev f c=.bool (decide p))(G:¬p->WG ro m P n y Q ds f w)(H:p->WG ro m P n x Q ds f w):
  WG ro m P n (.cond c x y) Q ds f w:=QmU E H G
theorem Qbj {c:O3}{x y:Code}(E:ev f c=.bool true)(h:WG ro m P n x Q ds f w):WG ro m P n (.cond c x y) Q ds f w:=Ug E (λ_=>h) (λe=>by cases e)
theorem VL {c:O3}{x y:Code}(E:ev f c=.bool false)(h:WG ro m P n y Q ds f w):WG ro m P n (.cond c x y) Q ds f w:=Ug E (λe=>by cases e) (λ_=>h)
theorem Z9 {c:Code}(h:WG ro m P n c (Qql id Q) ds f w):WG ro m P n (.block id c) Q ds f w:=by
 intro a J;refine wpIn_block (wpIn_mono (h a J) ?_);rintro e V w' ⟨H,G,I,O,E⟩;have k1:∀t,Jf (.block id c) t=false->G t=f t:=λt S=>O t (by simpa[Jf]using S);cases e with
 | exit i =>
  simp only[Exit.inBlock];simp only[Qql]at E;by_cases hi:i=id
  ·subst hi;simp only[Nat.beq_refl,cond_true]at E;simp only[if_true];exact⟨H,G,I,k1,E⟩
  have T:OS i id=false:=by
   cases e:OS i id with
   | false=>rfl
   | true=>exact OW (Nat.eq_of_beq_eq_true e) hi
  rw[T]at E;rw[OT hi];exact⟨H,G,I,k1,E⟩
 | normal=>exact⟨H,G,I,k1,E⟩
 | goto l=>exact⟨H,G,I,k1,E⟩
 | ret=>exact⟨H,G,I,k1,E⟩
 | panic ch=>exact⟨H,G,I,k1,E⟩
 | outgrown=>exact⟨H,G,I,k1,E⟩
end
def QbX (l:xE):Bool:=l.all λo=>match o.op with| .defer _=>false|_=>true
theorem V2 {l:xE}(h:QbX l=true):∀o∈l,∀c,o.op≠.defer c:=λo E c e=>by
 have:=Mg.1 h o E;rw[e]at this;cases this
section
variable {ro:xF}{m:Nat}
theorem Qfx {o:Oper}{a:Act}{K':Act->O1->Prop}{Q:Exit->Act->O1->Prop}(h:Xd n ds a f)(G:∀c,o.op≠.defer c)
  (hK:∀v w',K (QW f o.dst v) w'->K' (a.put o.dst v) w') (hx:XO P o f w K):o.wpIn (fen ro) m P a w K' Q:=by
 unfold XO at hx;refine⟨λ_ _=>trivial,?_⟩;have e:Oper.semAt (fen ro).round a.eval o=execOp (ev f) o:=by
  rw[h.eval];cases ro with
  | none=>rfl
  | some l=>exact Oper.semAt_some l _ _ G
 rw[e];generalize (execOp (ev f) o).run P w=r at hx;cases r with
 | ok nx w' =>
  cases nx <;> simp only[upF]at hx <;> simp only[Oper.uponIn]
  case value v=>exact hK v w' hx
  case skip=>exact hK _ w' hx
  case enter g args =>
   refine⟨λh=>by simp[Fence.wide]at h,?_⟩;refine(callsIn_wide (n:=m - 1)).2 (Calls.mono hx λe H E=>?_);cases e with
   | returned v=>exact hK v H E
   | panicked c=>exact E.elim
   | outgrown=>exact E.elim
 | halt x w'=>exact hx.elim
theorem VX {l:xE}{a:Act}(h:Xd n ds a f)(E:∀o∈l,∀d,o.dst=some d->d<n)(o:Oper):Region.wanted o (yielded l.toArray a.tmps)=Yb l f o:=UX h.rel E o
theorem Qfy {Q:Exit->LN->Fr->O1->Prop}{all:xE}(G:∀o∈all,∀d,o.dst=some d->d<n)(hd:∀o∈all,∀c,o.op≠.defer c)(f0:Fr):
  ∀(l:xE) (k:Nat) (a:Act) (f:Fr) (w:O1),(∀j,l[j]?=all[k+j]?)->Xd n ds a f->(∀t,Ye all t=false->f t=f0 t) ->
   XL P all (λf w=>Q .normal ds f w) l f w ->
   wpOpsIn (fen ro) m P all.toArray (λe T w'=>∃ds' f',Xd n ds' T f'/\(∀t,Ye all t=false->f' t=f0 t)/\Q e ds' f' w') (oR k l.length) a w
 | [],_,a,f,w,_,E,I,h=>⟨ds,f,E,I,by unfold XL at h;exact h⟩
 | o::l,k,a,f,w,hl,E,I,h=>by
  have J:all[k]?=some o:=by simpa using(hl 0).symm
  have H:o∈all:=Mr J;have ih:=λa f w=>Qfy (Q:=Q) G hd f0 l (k+1) a f w (λj=>by have:=hl (j+1);simpa[ON,Nat.add_comm 1 j]using this);have next:∀v,(∀t,Ye all t=false->QW f o.dst v t=f0 t):=λv t O=>(Y9 (JF H O) v).D (I t O);simp only[oW,OB,wpOpsIn,oZ,J];rw[VX E G o];unfold XL at h;cases S:Yb all f o with
  | false =>
   rw[S]at h;exact⟨λ_ _=>trivial,ih _ _ _ (E.put (G o H) _) (next _) h⟩
  | true =>
   rw[S]at h;exact Qfx E (hd o H) (λv w' hx=>ih _ _ _ (E.put (G o H) v) (next v) hx) h
theorem QN {Q:Exit->LN->Fr->O1->Prop}{l:xE}(E:XS n l=true)(hd:QbX l=true)(h:XL P l (λf w=>Q .normal ds f w) l f w):WG ro m P n (.region id l.toArray false) Q ds f w:=by
 intro a G;refine wpIn_region ?_;have:=Qfy (ro:=ro) (m:=m) (Xq E) (V2 hd) f l 0 a f w oe G (λ_ _=>rfl) h;simpa[List.range_eq_range',Jf]using this
attribute [local semireducible] XA in
theorem zC {Q:Exit->Act->O1->Prop}{all:xE}{C:xA}{K:xz}(G:∀o∈all,∀d,o.dst=some d->d<n)(hd:∀o∈all,∀c,o.op≠.defer c)(f0:Fr)
  (H:∀a f w,Xd n ds a f->(∀t,Ye all t=false->f t=f0 t)->K f w->Q .normal a w):
  ∀(k:Nat) (ls:Array Bool) (a:Act) (f:Fr) (w:O1),Xd n ds a f->(∀t,Ye all t=false->f t=f0 t)->XA P all C K k ls f w->wpAnyIn (fen ro) m P .any all.toArray Q k ls a w
 | 0,_,a,f,w,E,I,h=>⟨h.1,H a f w E I h.2⟩
 | k+1,ls,a,f,w,E,I,h=>by
  refine⟨λY=>H a f w E I (h.1 Y),λi hi=>?_⟩;unfold wpOpIn;simp only[oZ];cases S:all[i]? with
  | none =>
   exfalso;obtain⟨_,o,ha,_⟩:=mem_ready.1 hi;simp[S]at ha
  | some o =>
   have J:o∈all:=Mr S;have O:=h.2 i hi o S;have next:∀v,(∀t,Ye all t=false->QW f o.dst v t=f0 t):=λv t T=>(Y9 (JF J T) v).D (I t T);simp only[];rw[VX E G o];cases V:Yb all f o with
   | false =>
    rw[V]at O;exact⟨λ_ _=>trivial,zC G hd f0 H k _ _ _ _ (E.put (G o J) _) (next _) O⟩
   | true =>
    rw[V]at O;exact Qfx E (hd o J) (λv w' hx=>zC G hd f0 H k _ _ _ _ (E.put (G o J) v) (next v) hx.2) O
theorem yV {Q:Exit->LN->Fr->O1->Prop}{all:xE}(C:xA)(pl:xu)(I:P.follows .mixedOrders=true)(J:XS n all=true)(hd:QbX all=true)(G:z8 all pl=true)
  (O:C { w with drawn:=w.drawn+1 }) (h:XP P all C (λf w=>Q .normal ds f w) pl f { w with drawn:=w.drawn+1 }):WG ro m P n (.region id all.toArray true) Q ds f w:=by
 intro a S;simp only[z8,oK,beq_iff_eq]at G;obtain⟨⟨T,hl⟩,G⟩:=G;refine wpIn_region_any I ?_;have H:=ZQ T pl _ _ _ oe (.inl O) G h;rw[hl]at H;have V:=zC (ro:=ro) (m:=m) (n:=n) (ds:=ds) (Q:=λe Y w'=>∃ds' E,Xd n ds' Y E/\(∀t,Ye all t=false->E t=f t)/\Q e ds' E w') (Xq J) (V2 hd) f
  (λa E w hr hk hq=>⟨ds,E,hr,hk,hq⟩) _ _ a f _ S (λ_ _=>U) H
 simpa[Jf]using V
end
section
variable {ro:xF}{m:Nat}{Q:Exit->LN->Fr->O1->Prop}
theorem qQ {F:Fence}{c:Code}{Q:Exit->Act->O1->Prop}{a:Act}(J:α->Act->O1->Prop)(μ:α->Nat)(z:α)(h₀:J z a w)
  (round:∀x a w,J x a w->c.wpIn F m P (Exit.then (λH w'=>∃I,μ I<μ x/\J I H w') Q) a w):(Code.loop c).wpIn F m P Q a w:=by
 intro b k cs T O S;have key:∀j x a w,μ x=j->J x a w ->
   ∃e H w',Q e H w'/\ArrivesIn (Machine.fenced P F) P (lone (b.atR a (.code c::.inLoop c::k)) cs w) b k cs e H w':=by
  intro j;induction j using Nat.strongRecOn with
  | _ j ih =>
   intro x a w V Y;obtain⟨e,a₁,w₁,E,G⟩:=round x a w Y b (.inLoop c::k) cs T O S;cases e with
   | normal =>
    obtain⟨I,ha,hc⟩:=E;obtain⟨e₂,a₂,w₂,hq₂,harr₂⟩:=ih (μ I) (V ▸ ha) I a₁ w₁ U hc;exact⟨e₂,a₂,w₂,hq₂,.of_steps (StepsIn.trans G (.one (fenced_calm O S U) stepR_inLoop)) harr₂⟩
   | exit id=>exact⟨_,a₁,w₁,E,.pass (x:=.inLoop c) U (λ_ _=>.inl oe) G⟩
   | goto l=>exact⟨_,a₁,w₁,E,.pass (x:=.inLoop c) U (λ_ _=>.inl oe) G⟩
   | ret=>exact⟨_,a₁,w₁,E,.pass (x:=.inLoop c) U (λ_ _=>.inl oe) G⟩
   | panic ch=>exact⟨_,a₁,w₁,E,.pass (x:=.inLoop c) U (λ_ _=>.inl oe) G⟩
   | outgrown=>exact⟨_,a₁,w₁,E,.pass (x:=.inLoop c) U (λ_ _=>.inl oe) G⟩
 obtain⟨e,H,w',E,G⟩:=key _ z a w U h₀;exact⟨e,H,w',E,.of_steps (.one (fenced_calm O S U) stepR_loop) G⟩
theorem qI {c:Code}(D:xw)(S:α->List (Nat×O2))(I:α->LN->O1->Prop)(μ:α->Nat)(hD:wrG D c=true)(z:α)
  (h0:Xy f (S z)) (hI:I z ds w)
  (round:∀x g H w',I x H w'->WG ro m P n c (Qc6 (λE J hb=>∃V,μ V<μ x/\Xy J (S V)/\I V E hb) Q) H (qR (S x) (mix D f g)) w'):WG ro m P n (.loop c) Q ds f w:=by
 intro a ha;refine qQ (λ(x:α) Y w'=>∃H J,Xd n H Y J/\(∀t,Jf c t=false->J t=f t)/\Xy J (S x)/\I x H w') μ z ⟨ds,f,ha,λ_ _=>U,h0,hI⟩ ?_;rintro x Y w' ⟨H,J,h1,h2,h3,h4⟩;have h5:=round x J H w' h4;rw[Jg (λt O=>h2 t (JX O c hD)),Y8 h3]at h5;refine wpIn_mono (h5 Y h1) ?_;rintro e hc hb ⟨E,G,g1,g2,T⟩;have k1:∀t,Jf c t=false->G t=f t:=λt O=>(g2 t O).D (h2 t O);have k2:∀t,Jf (.loop c) t=false->G t=f t:=λt O=>k1 t (by simpa[Jf]using O);cases e with
 | normal=>obtain⟨V,hm,hs,hi⟩:=T;exact⟨V,hm,E,G,g1,k1,hs,hi⟩
 | exit id=>exact⟨E,G,g1,k2,T⟩
 | goto l=>exact⟨E,G,g1,k2,T⟩
 | ret=>exact⟨E,G,g1,k2,T⟩
 | panic ch=>exact⟨E,G,g1,k2,T⟩
 | outgrown=>exact⟨E,G,g1,k2,T⟩
end
def rqG (P:O4)(rs:List ResultVar)(R:O2->O1->Prop):Exit->LN->Fr->O1->Prop
 | .normal,ds,f,w=>(∀D∈ds,w.heap[D]?=some (.deferred (some [])))/\ds.Nodup/\∃vs,∀w',O5 ds w w'->US P f w' rs vs/\R (tup vs) w'
 | .ret,ds,f,w=>(∀D∈ds,w.heap[D]?=some (.deferred (some [])))/\ds.Nodup/\∃vs,∀w',O5 ds w w'->US P f w' rs vs/\R (tup vs) w'
 | _,_,_,_=>False
theorem O5.putObj (w:O1)(D:Nat)(o:Obj):O5 [D] w (w.putObj D o):=⟨U,U,U,oe,λk _ E=>World.putObj_heap_other (λe=>E (by simp[e]))⟩
theorem yn {F:Fence}{m:Nat}{P:O4}{fn:Func}{tmps:Array O2}{R:Ending->O1->Prop}:∀(ds:LN) (w:O1),(∀D∈ds,w.heap[D]?=some (.deferred (some [])))->ds.Nodup ->
  (∀w',O5 ds w w'->∃v,(results fn tmps).run P w'=.ok v w'/\R (.returned v) w')->LeavesInM F m P fn tmps R (coll ds) .returning w
 | [],w,_,_,h=>h w (O5.Z _ _)
 | D::ds,w,hD,I,h=>by
  refine⟨oe,.inl ⟨D,_,rfl,run_takeDeferred (hD D Lr),?_⟩⟩;have J:=O5.putObj w D (.deferred none);have H:=Nz.1 I;refine yn ds _ (λE hE=>?_) H.2 (λw' O=>h w' ?_)
  ·rw[World.putObj_heap_other (λe=>H.1 (by rw[<-e];exact hE))];exact hD E (Lj _ hE)
  exact(J.mono (λb G=>by simp at G;simp[G])).Q (O.mono (λb G=>Lj _ G))
theorem Q6.of_G {c:Code}{args:LV}{R:O2->O1->Prop}{rs:List ResultVar}(m:Nat)
  (V:P.funcs[g]?=some fn) (Y:fn.body=some c) (hn:fn.ntmps=n) (ha:fn.results=rs.toArray) (hl:args.length<=n)
  (h:WG none m P n c (rqG P rs R) [] (ent args) w):Q6 P g args w R:=by
 unfold Q6;refine(callsIn_wide (n:=m)).1 (callsIn_of_wp_marks V Y Z (wpIn_mono (h _ ?_) ?_))
 ·refine⟨by simp[hn];omega,U,λt=>?_⟩;have key:∀(l:LV) (t:Nat),l[t]?.getD undef=ent l t:=by
   intro l;induction l with
   | nil=>intro t;rfl
   | cons v l ih=>intro t;cases t with|zero=>rfl|succ t=>simpa[ent]using ih t
  rw[<-key];simp only[Array.getD_eq_getD_getElem?,Array.getElem?_append,Od,oZ];by_cases J:t<args.length
  ·simp[J]
  simp[J,Array.getElem?_replicate];split <;> rfl
 rintro e I w' ⟨H,f',O,_,E⟩;have fin:((∀D∈H,w'.heap[D]?=some (.deferred (some [])))/\H.Nodup/\∃vs,∀G,O5 H w' G->US P f' G rs vs/\R (tup vs) G) ->
   LeavesInM Fence.wide m P fn I.tmps (λe w'=>match e with| .returned v=>R v w'|_=>False) I.defers .returning w':=by
  rintro⟨hd,hc,vs,S⟩;rw[O.defers];refine yn H w' hd hc λG T=>⟨tup vs,?_,(S G T).2⟩;simp only[results,ha,List.mapM_toArray,Sem.run_bind,Sem.run_map];rw[J0 (a:={ I with defers:=[] }) O.rel _ (λ_=>rfl) (λ_ _=>rfl) rs vs (S G T).1]
  cases vs with
  | nil=>rfl
  | cons v vs=>cases vs with|nil=>rfl|cons u us=>rfl
 cases e with
 | normal=>exact fin E
 | ret=>exact fin E
 | exit id=>exact E.elim
 | goto l=>exact E.elim
 | panic c=>exact E.elim
 | outgrown=>exact E.elim
attribute [irreducible] WG
def IxQ {α:Type}(q:α->Bool)(es:List α)(r:O2):Prop:=(r=oF oG (-1)/\∀m (E:m<es.length),q (es[m]'E)=false)\/∃(i:Nat) (hi:i<es.length),r=oF oG i/\q (es[i]'hi)=true/\∀m (E:m<i),q (es[m]'oa)=false
theorem QlR [Fu prog g fn]{cap:LV}{q:Ed->Bool}{v:O2}(h:zg L w.heap v es)
  (T:∀(e:Ed) (G:O1),O5 [] w G->Q6 prog g ([.agg (QF e).toArray]++cap) G λr w'=>r=.bool (q e)/\O5 [] G w'):
  Q6 prog 333 [v,.func (.func g) #[] cap.toArray] w λr w'=>O5 [] w w'/\IxQ q es r:=by
 have hb:=h.le;refine Zq func333 ?_;refine Qc<|Qb<|Qd<|Qm<|QK h U<|Qa<|xe<|Qf<|QD (α:=Nat) [(4,5),(8,18)] (λz=>[(8,oF oG z)]) (λz w'=>z<=es.length/\O5 [] w w'/\∀m (E:m<es.length),m<z->q (es[m]'E)=false) (λz=>es.length - z) ol 0 La ⟨Ln _,O5.Z _ _,λm _ V=>OW V (Ni m)⟩ ?_;rintro k g1 G ⟨hk1,H,J⟩;refine Qc<|QZ U U<|xe<|Qd<|QG U (λY=>?_) (λY=>?_)
 ·refine Qy<|Qc<|Qb<|Qk ⟨[oF oG (-1)],La,H,.inl ⟨U,λm E=>J m E oa⟩⟩
 have I:k<es.length:=oa
 refine Qh<|Qd<|Qf<|Qm<|Qb<|Qm<|Qa<|Qa<|xie (h.I H) U U I λhc ha=>x (Qx ha U U)<|Qe<|xc (first:=[]) (capt:=cap) U<|(T (es[k]'I) G H).mono ?_;rintro r2 w2 ⟨rfl,S⟩;refine xe<|QX rfl (λO=>?_) (λO=>?_)
 ·refine Qm<|Qb<|Qk ⟨[oF oG k],La,H.D S,.inr ⟨k,I,U,O,λm E=>J m oa E⟩⟩
 refine Qh<|Qw<|QP U U<|Qa<|xe<|⟨k+1,oa,La,I,H.D S,λm E he=>?_⟩;by_cases e:m=k
 ·subst e;exact O
 exact J m E oa
theorem QlQ [Fu prog g fn]{cap:LV}{q:Int->Bool}{v:O2}{es:LI}(h:QQ L w.heap v es)
  (T:∀(e:Int) (G:O1),O5 [] w G->Q6 prog g ([oF oG e]++cap) G λr w'=>r=.bool (q e)/\O5 [] G w'):
  Q6 prog 74 [v,.func (.func g) #[] cap.toArray] w λr w'=>O5 [] w w'/\IxQ q es r:=by
 have hb:=h.le;refine Zq func74 ?_;refine Qc<|Qb<|Qd<|Qm<|QK h U<|Qa<|xe<|Qf<|QD (α:=Nat) [(4,5),(8,18)] (λz=>[(8,oF oG z)]) (λz w'=>z<=es.length/\O5 [] w w'/\∀m (E:m<es.length),m<z->q (es[m]'E)=false) (λz=>es.length - z) ol 0 La ⟨Ln _,O5.Z _ _,λm _ V=>OW V (Ni m)⟩ ?_;rintro k g1 G ⟨hk1,H,J⟩;refine Qc<|QZ U U<|xe<|Qd<|QG U (λY=>?_) (λY=>?_)
 ·refine Qy<|Qc<|Qb<|Qk ⟨[oF oG (-1)],La,H,.inl ⟨U,λm E=>J m E oa⟩⟩
 have I:k<es.length:=oa
 refine Qh<|Qd<|Qf<|Qm<|Qb<|Qm<|Qa<|Qa<|xii (h.I H) U U I λhc ha=>x (QA ha U)<|Qe<|xc (first:=[]) (capt:=cap) U<|(T (es[k]'I) G H).mono ?_;rintro r2 w2 ⟨rfl,S⟩;refine xe<|QX rfl (λO=>?_) (λO=>?_)
 ·refine Qm<|Qb<|Qk ⟨[oF oG k],La,H.D S,.inr ⟨k,I,U,O,λm E=>J m oa E⟩⟩
 refine Qh<|Qw<|QP U U<|Qa<|xe<|⟨k+1,oa,La,I,H.D S,λm E he=>?_⟩;by_cases e:m=k
 ·subst e;exact O
 exact J m E oa
theorem Qfg [Fu prog g fn]{cap:LV}{q:Int->Bool}{v:O2}{es:LI}(h:QQ L w.heap v es)
  (I:∀(e:Int) (G:O1),O5 [] w G->Q6 prog g ([oF oG e]++cap) G λr w'=>r=.bool (q e)/\O5 [] G w'):
  Q6 prog 150 [v,.func (.func g) #[] cap.toArray] w λr w'=>r=.bool (es.any q)/\O5 [] w w':=by
 refine Zq func150 ?_;refine Qc<|Qb<|Qm<|Qa<|ZP<|(QlQ h I).mono ?_;rintro T G ⟨H,E⟩;refine Or.elim E (λE=>?_) (λE=>?_)
 ·obtain⟨rfl,J⟩:=E;have e:es.any q=false:=by
   rw[NA];intro z O;obtain⟨i,hi,rfl⟩:=LM O;rw[J i hi];simp
  refine x (Ys U U)<|Qb<|Qk ⟨[.bool false],La,by rw[e];rfl,H⟩
 obtain⟨i,hi,rfl,S,_⟩:=E;have e:es.any q=true:=Nr.2 ⟨_,Ll hi,S⟩;have e2:decide ((0:Int)<=(i:Int))=true:=oe
 refine x (Ys U U)<|Qb<|Qk ⟨[.bool (decide ((0:Int)<=(i:Int)))],La,by rw[e,e2];rfl,H⟩
theorem QeB (es:List Ed)(s v:Int):xj es s v=xj (Z4 es s) s v:=by
 induction es with
 | nil=>rfl
 | cons e es ih =>
  unfold Z4 at *;rw[Mf];by_cases h:e.1=s
  ·rw[OU (oz h),xj,xj,ih]
  rw[OT (oz h),xj,OT (λc=>h c.1),ih]
theorem Qdo:∀(l:List Ed) (s v:Int) (i:Nat) (hi:i<l.length),(∀e∈l,e.1=s)->(l[i]'hi).2.1=v->(∀m (E:m<i),(l[m]'oa).2.1≠v)->xj l s v=(l[i]'hi).2.2
 | e::l,s,v,0,_,G,H,_=>by rw[xj,OU ⟨G e Lr,H⟩];rfl
 | e::l,s,v,i+1,hi,G,H,E=>by
  rw[xj,OT (λc=>E 0 oa c.2)];exact Qdo l s v i (oz hi) (λe I=>G e (Lj _ I)) H (λm J=>E (m+1) oa)
theorem Qig:∀(l:List Ed) (s v:Int),(∀e∈l,e.2.1≠v)->xj l s v=-1
 | [],_,_,_=>rfl
 | e::l,s,v,h=>by rw[xj,OT (λc=>h e Lr c.2)];exact Qig l s v (λe E=>h e (Lj _ E))
theorem Qin {n:Int}(e:Ed)(w:O1)(G:Zb w.heap b T [oF oG n]):
  Q6 prog 334 ([.agg (QF e).toArray]++[.pointer (some ⟨b,0,none⟩)]) w λr w'=>r=.bool (decide (e.2.1=n))/\O5 [] w w':=by
 refine Zq func334 ?_;refine Qc<|Qe<|QS (us:=QF e) U λb2 I E J H=>Qb<|Qc<|Qs U H U U<|Y7 (G.I E) U U<|x (Q0 U U)<|Qb<|Qk ⟨[_],La,U,E⟩
theorem QcN {st:Int}(h:zg L w.heap ve a.ed)(H:ZE a)(s v:Int)(ha:0<=s)(J:s<a.st):
  Q6 prog 300 [.agg #[va,oF oG st,vm,ve],oF oG s,oF oG v] w λr w'=>r=oF oG (xj a.ed s v)/\O5 [] w w':=by
 have hh:=H.st1;refine Zq func300 ?_;refine Qc<|Qe<|QS (us:=[va,oF oG st,vm,ve]) U λb3 w1 J hj hb=>Qe<|QS (us:=[oF oG v]) U λb5 w2 O hk hc=>Qb<|Qc<|Q5 (hb.I O) U U<|Qa<|ZP<|(QaK ((h.I J).I O) H.eds (λe E=>⟨(H.ed e E).1,ou (H.ed e E).2.1⟩) s ha oa).mono ?_;rintro vo w3 ⟨S,hE⟩;refine Qb ?_;have hf:∀e∈Z4 a.ed s,e.1=s:=λe E=>(ZU E).2;rw[QeB];refine Qm<|x (Zy (l:=[]) (l':=[.tmp 5]))<|ZP<|(QlR (q:=λe=>decide (e.2.1=v)) (cap:=[.pointer (some ⟨b5,0,none⟩)]) hE (λe T I=>Qin e T ((hc.I S).I I))).mono ?_;rintro r4 T ⟨I,G⟩;have V:=((J.D O).D S).D I;refine Or.elim G (λG=>?_) (λG=>?_)
 ·obtain⟨rfl,hq⟩:=G;have e1:xj (Z4 a.ed s) s v=-1:=Qig _ _ _ λe E=>by
   obtain⟨i,hi,rfl⟩:=LM E;simpa using hq i hi
  rw[e1];refine Qb<|Qd<|Qm<|QZ U U<|xe<|yQ U ?_;refine Qc<|Qb<|Qk ⟨[oF oG (-1)],La,U,V⟩
 obtain⟨i,hi,rfl,h1,h2⟩:=G;have e1:xj (Z4 a.ed s) s v=((Z4 a.ed s)[i]'hi).2.2:=Qdo _ s v i hi hf (oz h1) (λm hm=>oz (h2 m hm));rw[e1];refine Qb<|Qd<|Qm<|QZ U U<|xe<|QY U (λY=>OW Y oa) (λY=>?_);refine Qh<|Qm<|Qa<|xie (hE.I I) U U hi λhl hg=>x (Zp U)<|x (QA (hg.fld 2 _ U) U)<|Qb<|Qk ⟨[_],La,U,V⟩
def flw (a:Q9):Int->LI->Int×Nat
 | s,[]=>(s,0)
 | s,v::u=>if xj a.ed s v<0 then(s,0)else((flw a (xj a.ed s v) u).1,(flw a (xj a.ed s v) u).2+1)
theorem QnV (E:ZE a){v:Int}(h:¬xj a.ed s v<0):xj a.ed s v<a.st:=(E.ed _ (QaM oa)).2.2.2.2
theorem Qgl {vw:O2}{st:Int}(h:zg L w.heap ve a.ed)(H:QQ L' w.heap vw u)(S:ZE a)(s:Int)(hc:0<=s)(T:s<a.st):
  Q6 prog 263 [.agg #[va,oF oG st,vm,ve],oF oG s,vw] w λr w'=>r=.tuple #[oF oG (flw a s u).1,oF oG (flw a s u).2]/\O5 [] w w':=by
 have hi:=H.le;refine Zq func263 ?_;refine Qc<|Qe<|QS (us:=[va,oF oG st,vm,ve]) U λb3 w1 T hj he=>x Ql<|Qb<|Qd<|Qm<|QK H U<|Qa<|xe<|Qf<|QD (α:=Nat×Int) [(1,1),(6,10),(13,27)] (λz=>[(1,oF oG z.2),(13,oF oG z.1)]) (λz w'=>z.1<=u.length/\0<=z.2/\z.2<a.st/\O5 [] w1 w'/\flw a s u=((flw a z.2 (u.drop z.1)).1,(flw a z.2 (u.drop z.1)).2+z.1)) (λz=>u.length - z.1) ol (0,s) oA ⟨Ln _,hc,by assumption,O5.Z _ _,oe⟩ ?_;rintro⟨k,t⟩ g w2 ⟨hk,V,Y,O,E⟩;simp only[]at hk V Y E;have I:=T.D O;refine Qc<|QZ U U<|xe<|Qd<|QG U (λha=>?_) (λha=>?_)
 ·refine Qy<|Qm<|Qa<|QK H U<|x Ql<|Qb ?_;rw[Lq oa]at E;have hg:k=u.length:=by have hl:¬(k:Int)<(u.length:Int):=ha;omega
  refine Qk ⟨[oF oG t,oF oG u.length],oA,?_,I⟩;rw[E,hg];simp[flw,tup]
 have G:k<u.length:=oa
 rw[Zg G,flw]at E;refine Qh<|Qd<|Qf<|Qm<|xii (H.I I) U U G λhm hh=>x (QA hh U)<|x Ql<|Qb<|Qc<|Q5 (he.I O) U U<|Qa<|Qa<|QM<|(QcN (h.I I) S t (u[k]'G) V Y).mono ?_;rintro r3 w3 ⟨rfl,hb⟩;refine Qb<|Qd<|Qm<|QZ U U<|xe<|QY rfl (λJ=>?_) (λJ=>?_)
 ·rw[OU J]at E;refine Qm<|Qa<|x Ql<|Qb<|Qk ⟨[oF oG t,oF oG k],oA,?_,I.D hb⟩;rw[E];simp[tup]
 rw[OT J]at E;have hn:=QnV S J;refine Qh<|Qw<|Qa<|Qb<|Qw<|QP U U<|Qa<|xe<|⟨(k+1,xj a.ed t (u[k]'G)),oh,oA,G,oh,hn,O.D hb,?_⟩;simp only[];rw[E];simp;omega
def cks (a:Q9)(s:Int):Int:=if Jl a≠0 then Jl a else if s<0\/a.st<=s then 2 else 0
theorem Kf (h:ZH L w.heap va vm ve a)(s:Int):
  Q6 prog 259 [.agg #[va,oF oG a.st,vm,ve],oF oG s] w λr w'=>r=oF oG (cks a s)/\O5 [] w w':=by
 refine Zq func259 ?_;refine Qc<|Qe<|QS (us:=[va,oF oG a.st,vm,ve]) U λb2 V J Y O=>Qb<|Qd<|Qc<|Q5 O U U<|QM<|(Je (h.I J)).mono ?_;rintro r2 T ⟨rfl,S⟩;refine Qb ?_;unfold cks;have E:=J.D S;refine Qm<|ZA U U<|xe<|QY rfl (λG=>?_) (λG=>?_)
 ·refine Qm<|Qb<|Qk ⟨[_],La,by rw[OU G];rfl,E⟩
 rw[OT G];refine Qh<|Qd<|Q3 (α:=Unit) [(11,18)] (λz=>[(18,.bool (decide (s<0\/a.st<=s)))]) (λz w'=>w'=T) ol ?_ ?_
 ·refine Qw<|Qa<|xb (YQ U U) (λH=>?_) (λH=>?_)
  ·refine Qa<|Qr<|Qr<|Qr<|Qr<|QH U<|xe ?_;exact⟨(),⟨by rw[OX (Or.inl H)];rfl,Z⟩,U⟩
  refine Qa<|Qa<|Qs U (O.I S) U U<|x (Ys U U)<|QH U<|xe ?_;exact⟨(),⟨by show Value.bool (decide (a.st<=s))=_;simp[H],Z⟩,rfl⟩
 rintro z g w3 rfl;refine QY rfl (λI=>?_) (λI=>?_)
 ·refine Qc<|Qb<|Qk ⟨[_],La,by rw[OU I];rfl,E⟩
 refine Qh<|Qc<|Qb<|Qk ⟨[_],La,by rw[OT I];rfl,E⟩
theorem Qcx (h:cks a s=0):ZE a/\0<=s/\s<a.st:=by
 unfold cks at h;split at h
 ·rename_i E;exact OW h E
 rename_i E;split at h
 ·cases h
 rename_i G;exact⟨(Z1 a).1 (Lo.1 E),oa,oa⟩
theorem Qld (e:Int)(w:O1)(E:Zb w.heap b T (va::us))(G:QQ L w.heap va al):
  Q6 prog 262 ([oF oG e]++[.pointer (some ⟨b,0,none⟩)]) w λr w'=>r=.bool (decide (e∉al))/\O5 [] w w':=by
 refine Zq func262 ?_;refine Qc<|Qb<|Qc<|Qs U E U U<|Qa<|QM<|(Yj G e).mono ?_;rintro H I ⟨rfl,rfl⟩;refine x (Zx U)<|Qb<|Qk ⟨[_],La,?_,O5.Z _ _⟩;show Value.bool (!decide (e∈al))=_;rw[decide_not]
def Qlc (a:Q9)(s:Int)(u:LI):Int:=if cks a s≠0 then cks a s else if(u.any λe=>decide (e∉a.al))=true then 9 else 0
theorem Qpb {vw:O2}(h:ZH L w.heap va vm ve a)(T:QQ L' w.heap vw u)(s:Int):
  Q6 prog 201 [.agg #[va,oF oG a.st,vm,ve],oF oG s,vw] w λr w'=>O5 [] w w'/\r=if Qlc a s u≠0 then .tuple #[oF oG 0,oF oG 0,oF oG (Qlc a s u)]else .tuple #[oF oG (flw a s u).1,oF oG (flw a s u).2,oF oG 0]:=by
 refine Zq func201 ?_;refine Qc<|Qe<|QS (us:=[va,oF oG a.st,vm,ve]) U λb3 w1 V hb J=>x Ql<|x Ql<|Qb<|Qd<|Qc<|Q5 J U U<|Qa<|ZP<|(Kf (h.I V) s).mono ?_;rintro r2 w2 ⟨rfl,O⟩;refine Qb ?_;have G:=V.D O;unfold Qlc;refine Qm<|ZA U U<|xe<|QY rfl (λE=>?_) (λE=>?_)
 ·refine Qm<|x Ql<|x Ql<|Qb<|Qk ⟨[_,_,_],oB,G,by rw[OU E,OU E];rfl⟩
 have hc:cks a s=0:=Lo.1 E;obtain⟨ho,h0,h1⟩:=Qcx hc;rw[OT E];refine Qh<|Qd<|Qm<|x (Zy (l:=[]) (l':=[.tmp 3]))<|ZP<|(Qfg (q:=λe=>decide (e∉a.al)) (cap:=[.pointer (some ⟨b3,0,none⟩)]) (T.I G) (λe Y H=>Qld e Y ((J.I O).I H) ((h.al.I G).I H))).mono ?_;rintro r3 w3 ⟨rfl,ha⟩;refine xe ?_;have I:=G.D ha;refine QX rfl (λS=>?_) (λS=>?_)
 ·rw[OU S];refine Qc<|x Ql<|x Ql<|Qb<|Qk ⟨[_,_,_],oB,I,by rw[OU og];rfl⟩
 rw[OT (by rw[S];simp)];refine Qh<|Qc<|Q5 ((J.I O).I ha) U U<|Qa<|Qa<|ZP<|(Qgl (h.ed.I I) (T.I I) ho s h0 h1).mono ?_;rintro r4 Y ⟨rfl,H⟩;refine Qa<|x (Zt U U) <|
  Q7 rfl rfl<|x Ql<|Qb<|Qm<|Qa<|x Ql<|x Ql<|Qb<|Qk ⟨[_,_,_],oB,I.D H,U⟩
def enb (a:Q9)(s:Int):LI:=(Z4 a.ed s).map (·.2.1)
theorem Qjl {l:List Ed}{k:Nat}(h:k<l.length):(l.take (k+1)).map (·.2.1)=(l.take k).map (·.2.1)++[(l[k]'h).2.1]:=by
 rw[List.take_add_one,LF h,Ls];rfl
theorem Qeb (h:ZH L w.heap va vm ve a)(s:Int):
  Q6 prog 194 [.agg #[va,oF oG a.st,vm,ve],oF oG s] w λr w'=>O5 [] w w'/\∃v,r=.tuple #[v,oF oG (cks a s)]/\(cks a s≠0->v=Zz)/\(cks a s=0->Qu 3 w.heap.size w' v (enb a s)):=by
 refine Zq func194 ?_;refine Qc<|Qe<|QS (us:=[va,oF oG a.st,vm,ve]) U λb2 w1 ha hz hf=>x Ql<|Qb<|Qd<|Qc<|Q5 hf U U<|Qa<|QM<|(Kf (h.I ha) s).mono ?_;rintro r2 w2 ⟨rfl,hg⟩;refine Qb ?_;have O:=ha.D hg;refine Qm<|ZA U U<|xe<|QY rfl (λS=>?_) (λS=>?_)
 ·refine Qm<|x Ql<|Qb<|Qk ⟨[Zz,_],oA,O,Zz,U,λ_=>U,λe=>OW e S⟩
 have hc:cks a s=0:=Lo.1 S;obtain⟨G,h0,h1⟩:=Qcx hc;have h2:=G.st1;rw[hc];refine Qh<|Qc<|Qb<|Qd<|Qc<|Q5 (hf.I hg) U U<|Qa<|QM<|(QaK (h.ed.I O) G.eds (λe he=>⟨(G.ed e he).1,ou (G.ed e he).2.1⟩) s h0 oa).mono ?_;rintro vo w3 ⟨hi,hE⟩;refine QK hE U<|Qa<|xe ?_;have hh:=O.D hi;have hj:=hh.size;have hl:=Vd a.ed s;have h3:=G.ed_le;refine Zk (Z4 a.ed s) λos H=>?_;rw[H]at hE hl;refine Qf<|QD (α:=Nat×O2) [(7,7),(9,9),(20,29)] (λz=>[(7,z.2),(20,oF oG z.1)]) (λz w'=>z.1<=os.length/\O5 [] w3 w'/\Qu 3 w3.heap.size w' z.2 ((os.take z.1).map (·.2.1))) (λz=>os.length - z.1) ol (0,nS) ⟨U,by rw[H];rfl,Z⟩ ⟨Ln _,O5.Z _ _,QL _ _ _ _⟩ ?_;rintro⟨k,v⟩ g w4 ⟨hk,J,I⟩;simp only[]at hk I;have h4:=J.size;refine Qc<|QZ U U<|xe<|Qd<|QG U (λT=>?_) (λT=>?_)
 ·refine Qy<|Qm<|x Ql<|Qb ?_;rw[Lt (by rw[H]at T;omega)]at I;refine Qk ⟨[v,_],oA,hh.D J,v,U,λe=>OW U e,λ_=>?_⟩;unfold enb;rw[H];exact Zv I hj
 have E:k<os.length:=by rw[H]at T;omega
 refine Qh<|Qd<|Qf<|Qc<|xie (hE.I J) U U E λh5 hm=>x (Qx hm U U)<|Qe<|Qo (us:=[oF oG 0,oF oG 0,oF oG 0]) U λb9 w5 hn hp hq=>Qe<|Qj (us:=QF (os[k]'E)) hq U U U U oB λw6 hr hs =>
  xe ?_
 have V:O5 [] w4 w6:=hn.O hr hp;have ht:=Qp I V;refine Qw<|Qa<|Qs U hs U U<|Qe<|QC (us:=[[oF oG (os[k]'E).2.1]]) U U og oe ⟨rfl,rfl,Z⟩ λh6 w7 Y h7 hu=>?_;have hv:=Qp ht Y;have h8:=(V.D Y).size;have h9:((os.take k).map (·.2.1)).length<=131072:=by simp;omega
 refine Qe<|Za (news:=[oF oG (os[k]'E).2.1]) (L:=[]) hv U U U (hu.at oe) (by simp[Value.oneCell']) oa oa λv8 w8 hw hy hA=>Qb ?_;have hge:=Qi I;refine Qw<|QP U U<|Qa<|xe<|⟨(k+1,v8),oh,oA,E,((J.D V).D Y).then hy (λb hb=>.inr (hge b hb).1),?_⟩;simp only[];rw[Qjl E];exact Qu.snoc hw
theorem QcY {v:O2}(h:QQ L w.heap v l)(n:Int):
  Q6 prog 196 [v,oF oG n] w λr w'=>r=oF oG (Kr n none l)/\w'=w:=by
 have hc:=h.le;refine Zq func196 ?_;refine Qc<|Qb<|Qd<|Qm<|QK h U<|Qa<|xe<|Qf<|QD (α:=Nat) [(4,6),(9,32)] (λk=>[(9,oF oG k)]) (λk w'=>w'=w/\k<=l.length/\Kr n (pv l k) (l.drop k)=Kr n none l) (λk=>l.length - k) ol 0 La ⟨U,Ln _,U⟩ ?_;rintro k g S ⟨rfl,hk,E⟩;refine Qc<|QZ U U<|xe<|Qd<|QG U (λT=>?_) (λT=>?_)
 ·refine Qy<|Qc<|Qb<|Qk ⟨[oF oG 0],La,?_,U⟩;rw[<-E,Lq oa];rfl
 have G:k<l.length:=oa
 have hd:=Zg G;rw[hd,Kr]at E;refine Qh<|Qd<|Qf<|Qm<|xii h U U G λhe V=>x (QA V U)<|x Ql<|Qb<|Qd<|Q3 (α:=Bool) [(14,20)] (λz=>[(20,.bool z)]) (λz w'=>w'=S/\z=decide (l[k]<0\/n<=l[k])) ol ?_ ?_
 ·refine Qw<|Qa<|xb (YQ U U) (λH=>?_) (λH=>?_)
  ·refine Qa<|Qr<|Qr<|Qr<|QH U<|xe ?_;exact⟨true,La,U,by simp[H]⟩
  refine Qa<|Qa<|Qa<|x (Ys U U)<|QH U<|xe ?_;exact⟨_,La,U,by simp[H]⟩
 rintro z g Y ⟨rfl,rfl⟩;refine QY rfl (λI=>?_) (λI=>?_)
 ·refine Qc<|Qb<|Qk ⟨[oF oG 2],La,?_,U⟩;rw[<-E,OU I];rfl
 rw[OT I]at E;refine Qh<|Q3 (α:=Bool) [(21,31)] (λz=>[(31,.bool z)]) (λz w'=>w'=Y/\z=jd (pv l k) l[k]) ol ?_ ?_
 ·refine Qw<|Qa<|xb (Z7 U U) (λha=>?_) (λha=>?_)
  ·have hk1:((k:Int) - 1)=((k - 1:Nat):Int):=oa
   refine Qa<|Qa<|Qa<|Qa<|x (Jh U U ⟨oa,oa⟩)<|xii (i:=k - 1) h U (by show Value.int _ ((k:Int) - 1)=_;rw[hk1]) oa λhf hb=>x (QA hb rfl)<|x (KW rfl rfl)<|QH rfl<|xe<|⟨_,La,U,?_⟩;have:pv l k=some l[k - 1]:=by
    have J:k≠0:=oa
    simp[pv,J,show k - 1<l.length by omega]
   rw[this];rfl
  refine Qa<|Qr<|Qr<|Qr<|Qr<|Qr<|Qr<|Qr<|QH U<|xe ?_;have J:k=0:=oa
  exact⟨false,La,U,by simp[pv,J,jd]⟩
 rintro z g w3 ⟨rfl,rfl⟩;refine QX rfl (λO=>?_) (λO=>?_)
 ·refine Qc<|Qb<|Qk ⟨[oF oG 5],La,?_,U⟩;rw[<-E,OU O];rfl
 rw[OT (by simp[O])]at E;refine Qh<|Qw<|QP U U<|Qa<|xe ?_;exact⟨k+1,oa,La,U,oa,by rw[Vw G];exact E⟩
open Go.RowKit
def upY (P:O4)(m:Nat)(dst:xF)(f:Fr)(K:xz):Result Next->Prop
 | .ok (.value v) w'=>K (QW f dst v) w'
 | .ok .skip w'=>K (QW f dst undef) w'
 | .ok (.enter g args) w'=>Calls P g args w' λe E=>match e with| .returned v=>K (QW f dst v) E|_=>False
 | .ok (.round l fn tmps assign body) w'=>RoundIn (fen none) (m - 1) P l fn tmps assign body w' λe E=>match e with| .returned v=>K (QW f dst v) E|_=>False
 | _=>False
def XOY (P:O4)(m:Nat)(o:Oper)(f:Fr)(w:O1)(K:xz):Prop:=upY P m o.dst f K ((execOp (ev f) o).run P w)
def JU (P:O4)(m:Nat)(ops:xE)(K:xz):xE->Fr->O1->Prop
 | [],f,w=>K f w
 | o::l,f,w=>bif Yb ops f o then XOY P m o f w (JU P m ops K l)else JU P m ops K l (QW f o.dst undef) w
section
variable {m:Nat}
theorem XOY.of_XO {o:Oper}{K':xz}(hK:∀f w,K f w->K' f w)(h:XO P o f w K):XOY P m o f w K':=by
 unfold XO at h;unfold XOY;generalize (execOp (ev f) o).run P w=r at h;cases r with
 | ok nx w' =>
  cases nx <;> simp only[upF]at h <;> simp only[upY]
  case value v=>exact hK _ _ h
  case skip=>exact hK _ _ h
  case enter g args =>
   refine Calls.mono h λe G E=>?_;cases e with
   | returned v=>exact hK _ _ E
   | panicked c=>exact E.elim
   | outgrown=>exact E.elim
 | halt x w'=>exact h.elim
theorem JU.pre {ops:xE}{K:xz}{l2:xE}:∀(E:xE) (f:Fr) (w:O1),XL P ops (λf w=>JU P m ops K l2 f w) E f w->JU P m ops K (E++l2) f w
 | [],f,w,h=>by unfold XL at h;exact h
 | o::E,f,w,h=>by
  unfold XL at h;show(bif Yb ops f o then XOY P m o f w (JU P m ops K (E++l2))else JU P m ops K (E++l2) (QW f o.dst undef) w);cases G:Yb ops f o with
  | false=>rw[G]at h;exact JU.pre E _ _ h
  | true=>rw[G]at h;exact XOY.of_XO (λf w h=>JU.pre E f w h) h
theorem JU.pre2 {o1 o2:Oper}{l2:xE}(h:XL P ops (λf w=>JU P m ops K l2 f w) [o1,o2] f w):JU P m ops K (o1::o2::l2) f w:=JU.pre [o1,o2] f w h
theorem JU.of_XL {l:xE}(h:XL P ops K l f w):JU P m ops K l f w:=by
 have:=JU.pre (m:=m) (l2:=[]) l f w h
 rwa [LQ]at this
theorem Qkb {o:Oper}{a:Act}{K':Act->O1->Prop}{Q:Exit->Act->O1->Prop}(h:Xd n ds a f)
  (hK:∀v w',K (QW f o.dst v) w'->K' (a.put o.dst v) w') (hx:XOY P m o f w K):o.wpIn (fen none) m P a w K' Q:=by
 unfold XOY at hx;refine⟨λ_ _=>trivial,?_⟩;have e:Oper.semAt (fen none).round a.eval o=execOp (ev f) o:=by rw[h.eval];rfl
 rw[e];generalize (execOp (ev f) o).run P w=r at hx;cases r with
 | ok nx w' =>
  cases nx <;> simp only[upY]at hx <;> simp only[Oper.uponIn]
  case value v=>exact hK v w' hx
  case skip=>exact hK _ w' hx
  case enter g args =>
   refine⟨λh=>by simp[Fence.wide]at h,?_⟩;refine(callsIn_wide (n:=m - 1)).2 (Calls.mono hx λe G E=>?_);cases e with
   | returned v=>exact hK v G E
   | panicked c=>exact E.elim
   | outgrown=>exact E.elim
  case round l fn tmps assign body =>
   refine⟨λh=>by simp[Fence.wide]at h,?_⟩;refine RoundIn.mono hx λe G E=>?_;cases e with
   | returned v=>exact hK v G E
   | panicked c=>exact E.elim
   | outgrown=>exact E.elim
 | halt x w'=>exact hx.elim
theorem QcP {Q:Exit->LN->Fr->O1->Prop}{all:xE}(G:∀o∈all,∀d,o.dst=some d->d<n)(f0:Fr):
  ∀(l:xE) (k:Nat) (a:Act) (f:Fr) (w:O1),(∀j,l[j]?=all[k+j]?)->Xd n ds a f->(∀t,Ye all t=false->f t=f0 t) ->
   JU P m all (λf w=>Q .normal ds f w) l f w ->
   wpOpsIn (fen none) m P all.toArray (λe T w'=>∃ds' f',Xd n ds' T f'/\(∀t,Ye all t=false->f' t=f0 t)/\Q e ds' f' w') (oR k l.length) a w
 | [],_,a,f,w,_,E,H,h=>⟨ds,f,E,H,by unfold JU at h;exact h⟩
 | o::l,k,a,f,w,hl,E,H,h=>by
  have J:all[k]?=some o:=by simpa using(hl 0).symm
  have I:o∈all:=Mr J;have ih:=λa f w=>QcP (Q:=Q) G f0 l (k+1) a f w (λj=>by have:=hl (j+1);simpa[ON,Nat.add_comm 1 j]using this);have next:∀v,(∀t,Ye all t=false->QW f o.dst v t=f0 t):=λv t O=>(Y9 (JF I O) v).D (H t O);simp only[oW,OB,wpOpsIn,oZ,J];rw[VX E G o];unfold JU at h;cases S:Yb all f o with
  | false =>
   rw[S]at h;exact⟨λ_ _=>trivial,ih _ _ _ (E.put (G o I) _) (next _) h⟩
  | true =>
   rw[S]at h;exact Qkb E (λv w' hx=>ih _ _ _ (E.put (G o I) v) (next v) hx) h
theorem VK {Q:Exit->LN->Fr->O1->Prop}{l:xE}(E:XS n l=true)(h:JU P m l (λf w=>Q .normal ds f w) l f w):WG none m P n (.region id l.toArray false) Q ds f w:=by
 unfold WG;intro a G;refine wpIn_region ?_;have:=QcP (m:=m) (Xq E) f l 0 a f w oe G (λ_ _=>rfl) h;simpa[List.range_eq_range',Jf]using this
theorem xy {rest:xE}{pS:String}{x:O3}{l:Nat}{R:Ending->O1->Prop}
  (hx:ev f x=.func (.yield l) #[] #[]) (E:YieldAt (fen none) (m - 1) P l #[ev f y] w R) (hK:∀e w',R e w'->∃v,e=.returned v/\JU P m ops K rest (QW f d v) w')
  (G:Yb ops f ⟨d,.call ⟨.value x,#[y],at_⟩,ty,pS,af,gd⟩=true:=by rfl):
  JU P m ops K (⟨d,.call ⟨.value x,#[y],at_⟩,ty,pS,af,gd⟩::rest) f w:=by
 obtain⟨fn,tmps,assign,body,H,I⟩:=E;have J:(execOp (ev f) ⟨d,.call ⟨.value x,#[y],at_⟩,ty,pS,af,gd⟩).run P w=.ok (.round l fn tmps assign body) w:=by
  simp[execOp,resolve,hx,Deferred.ofValue,invoke,H]
 unfold JU;rw[G];simp only[XOY,J,upY,cond_true];exact I.mono λe w' h=>by obtain⟨v,rfl,O⟩:=hK e w' h;exact O
end
attribute [irreducible] JU
structure Lw (B:Nat)(L:LN)(w w':O1):Prop where
 os:w'.os=w.os
 tape:w'.tape=w.tape
 output:w'.output=w.output
 size:w.heap.size<=w'.heap.size
 low:∀k,k<B->k∉L->w'.heap[k]?=w.heap[k]?
theorem Lw.refl (B:Nat)(L:LN)(w:O1):Lw B L w w:=⟨U,U,U,Lu _,λ_ _ _=>U⟩
theorem Lw.D {B:Nat}{L:LN}{E w w':O1}(h:Lw B L E w)(k:Lw B L w w'):Lw B L E w' :=
 ⟨k.os.D h.os,k.tape.D h.tape,k.output.D h.output,LJ h.size k.size,λi hi G=>(k.low i hi G).D (h.low i hi G)⟩
theorem O5.lw {E:O1}(h:O5 L w w')(k:Lw w.heap.size L w' E):O5 L w E :=
 ⟨k.os.D h.os,k.tape.D h.tape,k.output.D h.output,LJ h.size k.size,λi hi G=>(k.low i hi G).D (h.block i hi G)⟩
structure KT (B:Nat)(L:LN)(W W':O1):Prop where
 lw:Lw B L W W'
 other:∀(k:Nat) (o:Obj),W.heap[k]?=some o->o.isCells=false->W'.heap[k]?=some o
theorem KT.refl (B:Nat)(L:LN)(w:O1):KT B L w w:=⟨Lw.refl _ _ _,λ_ _ h _=>h⟩
theorem KT.D {B:Nat}{L:LN}{E w w':O1}(h:KT B L E w)(k:KT B L w w'):KT B L E w':=⟨h.lw.D k.lw,λi o hi G=>k.other i o (h.other i o hi G) G⟩
theorem KT.J {W:O1}(h:O5 X W W')(S:B<=W.heap.size)(H:∀b∈X,(b∈L\/B<=b)/\∃o:Obj,W.heap[b]?=some o/\o.isCells=true):KT B L W W':=by
 refine⟨⟨h.os,h.tape,h.output,h.size,λk G J=>h.block k oa (λhx=>?_)⟩,λk o G O=>?_⟩
 ·rcases(H k hx).1 with E|E
  ·exact J E
  omega
 refine(h.block k (LG.1 G).1 (λhx=>?_)).D G;obtain⟨T,E,I⟩:=(H k hx).2;rw[G]at E;cases E;rw[O]at I;cases I
theorem KT.I {W:O1}(h:O5 [] W W')(E:B<=W.heap.size):KT B L W W':=KT.J h E (λ_ G=>by cases G)
theorem Zb.cells (h:Zb H b T cs):∃o:Obj,H[b]?=some o/\o.isCells=true:=⟨_,h,U⟩
theorem KT.blk {W:O1}(h:O5 [b] W W')(E:B<=W.heap.size)(G:Zb W.heap b T cs)(H:b∈L\/B<=b):KT B L W W' :=
 KT.J h E (λc I=>by
  have e:c=b:=by simpa using I
  subst e;exact⟨H,G.cells⟩)
def Yy (B:Nat)(I:xA):Prop:=∀W W' X,I W->O5 X W W'->(∀r∈X,B<=r/\∃o:Obj,W.heap[r]?=some o/\o.isCells=false)->I W'
theorem Yy.own {I:β->O1->Prop}(h:∀s,Yy B (I s)):OwnFrom B I:=λs W W' row G H J =>
 h s W W' _ G (O5.of_grown H) (λr E=>J r (by cases row <;> simp at E ⊢;exact E.symm))
theorem Yy.blk :Yy B (λW=>Zb W.heap b T cs):=λW W' X h G H=>h.J G (λI=>by
 obtain⟨_,o,E,J⟩:=H b I;unfold Zb at h;rw[h]at E;cases E;cases J)
theorem Yy.and {I J:xA}(h:Yy B I)(k:Yy B J):Yy B (λW=>I W/\J W):=λW W' X hi E G=>⟨h W W' X hi.1 E G,k W W' X hi.2 E G⟩
theorem Yy.ex {I:β->O1->Prop}(h:∀z,Yy B (I z)):Yy B (λW=>∃z,I z W):=λW W' X ⟨z,hi⟩ E G=>⟨z,h z W W' X hi E G⟩
theorem Yy.pure (p:Prop):Yy B (λ_=>p):=λ_ _ _ h _ _=>h
theorem Yy.J (I:w.heap.size<=B):Yy B (λW=>O5 L w W):=λW W' X h E G=>h.then E (λb H=>.inr (ou (G b H).1))
theorem QU {base e:Nat}{v:O2}(h:w.ownsRow base e sz v n cs):∀b∈ob v,∃o:Obj,w.heap[b]?=some o/\o.isCells=true:=by
 intro b E;rcases h.2 with⟨G,_⟩|⟨g,cap,cur,G,I,H,_⟩
 ·subst G;simp[ob]at E
 subst G;simp[ob]at E;subst E;exact⟨_,H,U⟩
theorem Yy.row {base e:Nat}{v:O2}:Yy B (λW=>W.ownsRow base e sz v n cs):=λW W' X h H I=>Qg h H (λb J hx=>by
 obtain⟨_,o,O,S⟩:=I b hx;obtain⟨T,E,G⟩:=QU h b J;rw[O]at E;cases E;rw[S]at G;cases G)
theorem QmT {m:Nat}{Q:Exit->LN->Fr->O1->Prop}{g:O3}{p:Nat}{assign body:Code}(L:LN)(V:1<=m)
    [hF:Fu P gf fn]  (hg:ev f g=.func (.func gf) #[] capt.toArray) {enc:α->O2} {S:List α->Prop}  (hp:p<n)
  (he:SeqStopsK (fen none) (m - 1) P gf capt.toArray (λx=>#[enc x]) (Lw w.heap.size L) S (λ_=>True) N w)
  (I:List α->O1->Prop) (hI:∀s,Yy w.heap.size (I s)) (h0:I [] w) (A:Fr->α->Fr->O1->Prop) (hA:∀x E,Yy w.heap.size (A f x E))
  (hb:∀l pre x W,I pre W->WG (some l) (m - 1 - 1) P n assign (Qc6 (λY E W'=>Y=[]/\KT w.heap.size L W W'/\I pre W'/\A f x E W') (λ_ _ _ _=>False)) [] (upd f p (enc x)) W)
  (hc:∀l pre x E W,I pre W->A f x E W->pre.length<N->WG (some l) (m - 1 - 1) P n body (Qc6 (λ_ _ W'=>KT w.heap.size L W W'/\I (pre++[x]) W') (λ_ _ _ _=>False)) [] E W)
  (hf:∀D xs W,w.heap.size<=D->S xs->I xs W->W.heap[D]?=some (.deferred (some []))->Q .normal (D::ds) f W):
  WG none m P n (.rangeFunc g #[p] assign body) Q ds f w:=by
 unfold WG at hb hc ⊢;intro a O;have eg:∀args w,(callFunc gf args).run P w=.ok (.enter gf args) w:=by
  intro args w;have V:¬fn.name = "runtime.NumGoroutine" := by simpa using hF.nm
  have J:¬fn.body=none:=by have:=hF.b;intro e;rw[e]at this;cases this
  simp[callFunc,hF.f,V,J]
 have keep:∀{W W':O1},KT w.heap.size L W W'->KeepsFrom w.heap.size W W':=λh=>⟨h.lw.size,λk o _ hk ho=>h.other k o hk ho⟩;refine wpIn_rangeFunc_ownH (F:=fen none) U V (gf:=gf) (lb:=capt.toArray) (by rw[O.eval];exact hg) Z eg he (λh k=>h.D k)
  (λW l o o' hl ho _ _=>⟨U,U,U,oe,λk hk _=>World.putObj_heap_other oa⟩) (Below.refl _ _) (λ_=>rfl) I (λ_ _ _=>False) (Yy.own hI) (λ_ _ _ _ _ hs _ _=>hs) h0
  (λx T W=>∃E,Xd n [] T E/\A f x E W) (λx T=>Yy.own λ_=>Yy.ex λE=>Yy.and (Yy.pure _) (hA x E)) ?_ ?_ ?_ ?_
 ·intro l pre x W K hi hK;have hr:Xd n [] { tmps:=((#[p]:Array Nat).zip #[enc x]).foldl (λt (p,v)=>t.setIfInBounds p v) a.tmps,defers:=[] } (upd f p (enc x)):=by
   have J:Xd n [] { a with defers:=[] } f:=⟨O.size,U,O.get⟩
   have G:=J.put (dst:=some p) (λd e=>by cases e;exact hp) (enc x);have e:((#[p]:Array Nat).zip #[enc x]).foldl (λt (p,v)=>t.setIfInBounds p v) a.tmps=a.tmps.setIfInBounds p (enc x):=oe
   rw[e];exact G
  refine wpIn_mono (hb l pre x W hi _ hr) ?_;rintro e T W' ⟨Y,E,J,_,G⟩;cases e with
  | normal=>obtain⟨rfl,h4,H,h6⟩:=G;exact hK T W' (keep h4) h4.lw H ⟨E,J,h6⟩
  | exit id=>exact G.elim
  | goto l=>exact G.elim
  | ret=>exact G.elim
  | panic ch=>exact G.elim
  | outgrown=>exact G.elim
 ·rintro l pre x T W _ _ hi ⟨E,J,G⟩ hh;refine wpIn_mono (hc l pre x E W hi G hh T J) ?_;rintro e hj W' ⟨Y,hm,h4,_,H⟩;cases e with
  | normal=>exact⟨keep H.1,H.1.lw,H.2⟩
  | exit id=>exact H.elim
  | goto l=>exact H.elim
  | ret=>exact H.elim
  | panic ch=>exact H.elim
  | outgrown=>exact H.elim
 ·intro D xs W hD hS hi hd;exact⟨D::ds,f,⟨O.size,by rw[show coll (D::ds)={ target:=.collected D,args:=#[] }::coll ds from rfl,O.defers],O.get⟩,λ_ _=>rfl,hf D xs W hD hS hi hd⟩
 intro D c pre W _ _ h _;exact h.elim
def Qo0 (P:O4)(t:Nat):Option (LV×xw):=match P.info? t,P.underlying t with
 | some it,some (.struct fs)=>match it.zero,fs.toList.mapM (λf=>(P.info? f.type).map λi=>(f.offset,i.size))with
  | some (.agg zs),some pl=>some (zs.toList,pl)
  | _,_=>none
 | _,_=>none
class Bw (P:O4)(t:Nat)(zs:outParam (LV))(pl:outParam xw):Prop where
 h:Qo0 P t=some (zs,pl)
 b:pl.all (λx=>x.1+x.2<=zs.length)=true
def QbG:LV->Nat->LV->LV
 | zs,_,[]=>zs
 | zs,o,u::us=>QbG (zs.set o u) (o+1) us
def Qj5 (pl:xw)(zs:LV):List (Nat×LV)->LV
 | []=>zs
 | (j,us)::ps=>Qj5 pl (QbG zs (pl.getD j (0,0)).1 us) ps
def Qm0:List (Nat×O2)->List (Nat×LV)->Prop
 | [],[]=>True
 | (j,v)::vs,(j',us)::uss=>v.cells=us.toArray/\j=j'/\Qm0 vs uss
 | _,_=>False
theorem QbF:∀(us zs:LV) (o:Nat),(QbG zs o us).length=zs.length
 | [],_,_=>rfl
 | u::us,zs,o=>by rw[QbG,QbF us,L7]
theorem jA (o:Nat):∀(us:LV) (k:Nat) (zs:LV),(us.zipIdx k).foldl (λ(cs:Array O2) (x:O2×Nat)=>cs.setIfInBounds (o+x.2) x.1) zs.toArray=(QbG zs (o+k) us).toArray
 | [],_,_=>rfl
 | u::us,k,zs=>by
  rw[NG,LZ,QbG];have:=jA o us (k+1) (zs.set (o+k) u);rw[<-List.setIfInBounds_toArray]at this;exact this
theorem Qi1 {pl:xw}:∀(vs:List (Nat×O2)) (uss:List (Nat×LV)) (zs:LV),Qm0 vs uss->uss.all (λp=>p.1<pl.length && (p.2.length == (pl.getD p.1 (0,0)).2))=true ->
  (∀x∈pl,x.1+x.2<=zs.length)->Instr.fill (pl.toArray[·]?) zs.toArray vs=some (Qj5 pl zs uss).toArray
 | [],[],zs,_,_,_=>rfl
 | [],_::_,_,h,_,_=>h.elim
 | _::_,[],_,h,_,_=>h.elim
 | (j,v)::vs,(j',us)::uss,zs,H,G,I=>by
  obtain⟨O,rfl,H⟩:=H;simp only[oS,oK,decide_eq_true_eq,beq_iff_eq]at G;obtain⟨⟨E,hl⟩,G⟩:=G;have J:pl.getD j (0,0)=pl[j]'E:=by simp[oQ,E]
  have T:=I _ (Ll E);unfold Instr.fill;simp only[oZ,Of E,O];rw[J]at hl;rw[OT (by simp only[Od,hl,ne_eq,not_true,decide_false,Bool.false_or,decide_eq_true_eq];omega)];have e:=jA (pl[j]'E).1 us 0 zs;rw[Nm]at e;have e2:(us.toArray.zipIdx).foldl (λ(cs:Array O2) (x:O2×Nat)=>cs.setIfInBounds ((pl[j]'E).1+x.2) x.1) zs.toArray=(QbG zs (pl[j]'E).1 us).toArray:=by
   rw[<-e];simp
  rw[e2,Qj5,J];have S:=Qi1 vs uss (QbG zs (pl[j]'E).1 us) H G (λx hx=>by rw[QbF];exact I x hx);simpa only[oZ]using S
theorem QdW {zs:LV}{pl:xw}(h:Qo0 P t=some (zs,pl))(I:pl.all (λx=>x.1+x.2<=zs.length)=true)(vs:List (Nat×O2))(uss:List (Nat×LV))(J:Qm0 vs uss)
  (O:uss.all (λp=>p.1<pl.length && (p.2.length == (pl.getD p.1 (0,0)).2))=true):P.built t vs=some (Qj5 pl zs uss).toArray:=by
 have S:∀x∈pl,x.1+x.2<=zs.length:=λo T=>oz (Mg.1 I o T)
 unfold Qo0 at h;unfold Program.built;cases hi:P.info? t with
 | none=>simp[hi]at h
 | some it =>
  cases H:P.underlying t with
  | none=>simp[hi,H]at h
  | some dd =>
   simp only[hi,H]at h;cases dd <;> simp only[]at h <;> try (cases h)
   case struct fs =>
    cases E:it.zero with
    | none=>simp[E]at h
    | some z =>
     cases z <;> simp only[E]at h <;> try (cases h)
     rename_i za;cases G:fs.toList.mapM (λf=>(P.info? f.type).map λi=>(f.offset,i.size))with
     | none=>simp[G]at h
     | some pl' =>
      simp only[G,Option.some.injEq,Prod.mk.injEq]at h;obtain⟨rfl,rfl⟩:=h;simp only[E,G,Value.cells];exact Qi1 vs uss za.toList J O S
theorem Zf {pS:String}{zs:LV}{pl:xw}[h:Bw P t zs pl]{parts:List (Nat×O3)}(uss:List (Nat×LV))
  (E:Qm0 (parts.map λx=>(x.1,ev f x.2)) uss) (G:uss.all (λp=>p.1<pl.length && (p.2.length == (pl.getD p.1 (0,0)).2))=true:=by rfl):
  (execOp (ev f) ⟨d,.build t parts.toArray,ty,pS,af,gd⟩).run P w=.ok (.value (.agg (Qj5 pl zs uss).toArray)) w:=by
 have H:=QdW h.h h.b _ uss E G;have I:=run_build (P:=P) w t (parts.toArray.map λ(i,x)=>(i,ev f x)) _ (oz H);simp only[execOp,Sem.run_bind,I,Result.andThen_ok,Sem.run_pure]
def cnE (p:Ed->Bool)(es:List Ed):Int:=((es.filter p).length:Int)
def gA (n:Nat)(f:Nat->Int):LI:=(oT n).map f
theorem Qox (n:Nat)(f:Nat->Int):(gA n f).length=n:=by simp[gA]
theorem QiW {f:Nat->Int}(h:i<(gA n f).length):(gA n f)[i]'h=f i:=by simp[gA]
theorem Qow {f g:Nat->Int}{u:Int}(G:u=g i)(h:∀j,j<n->j≠i->g j=f j):(gA n f).set i u=gA n g:=by
 apply Mt
 ·simp[gA]
 intro k H E;rw[M7,QiW E];by_cases e:i=k
 ·rw[OU e,G,e]
 rw[OT e,QiW];exact(h k (by simpa[gA]using E) (Ne.symm e)).symm
def fS (es:List Ed)(s:Nat):Int:=cnE (λe=>decide (e.1<(s:Int))) es
section
variable {pS:String}
theorem Qid [h1:X6 P t]{x:O3}{g E:Nat->Int}{u:Int}(G:Zb w.heap b T ((gA n g).map (.int .i64)))(hx:ev f x=.pointer (some ⟨b,0+i*1,none⟩))(H:ev f y=oF oG u)(hi:i<n)(I:(gA n g).set i u=gA n E)
  (hK:∀w',O5 [b] w w'->Zb w'.heap b T ((gA n E).map (.int .i64))->K (QW f d undef) w'):XO P ⟨d,.store t x y,ty,pS,af,gd⟩ f w K :=
 Kk G hx H (by rw[Qox];exact hi) λw' J O=>hK w' J (by rw[<-I];exact O)
end
open Go.RowKit
section
variable {pS:String}{l:xE}
end
def VZ {α:Type}(f:Nat->α)(i:Nat)(x:α):Nat->α:=λj=>if j=i then x else f j
theorem Yr (f:Nat->α)(i:Nat)(x:α):VZ f i x i=x:=by simp[VZ]
theorem YU (f:Nat->α)(x:α)(h:j≠i):VZ f i x j=f j:=by simp[VZ,h]
theorem Qhk (k:α->β)(n:Nat)(f:Nat->α)(i:Nat)(x:α):((oT n).map λj=>k (f j)).set i (k x)=(oT n).map λj=>k (VZ f i x j):=by
 apply Mt
 ·simp
 intro j E G;rw[M7];by_cases e:i=j
 ·subst e;simp[Yr]
 rw[OT e];simp[YU _ _ (Ne.symm e)]
structure VV (base:Nat)(w:O1)(n:Nat)(f:Nat->O2)(g:Nat->LI):Prop where
 own:∀i,i<n->Qu 3 base w (f i) (g i)
 dj:∀i j,i<n->j<n->i≠j->Dj (f i) (f j)
theorem VV.app {base:Nat}{f:Nat->O2}{g:Nat->LI}(h:VV base w n f g)(hi:i<n)(O:Qu 3 base w' v' l)(S:O5 (ob (f i)) w w')
  (T:∀b∈ob v',b∈ob (f i)\/w.heap.size<=b):VV base w' n (VZ f i v') (VZ g i l):=by
 refine⟨λj E=>?_,λj k E H G=>?_⟩
 ·by_cases e:j=i
  ·subst e;rw[Yr,Yr];exact O
  rw[YU _ _ e,YU _ _ e];exact Qg (h.own j E) S (h.dj j i E hi e)
 have key:∀j,j<n->j≠i->Dj v' (f j):=λj E e b V I=>by
  rcases T b V with J|J
  ·exact h.dj i j hi E (Ne.symm e) b J I
  have:=Zc (h.own j E) b I;omega
 by_cases e1:j=i
 ·subst e1;rw[Yr,YU _ _ (Ne.symm G)];exact key k H (Ne.symm G)
 rw[YU _ _ e1];by_cases e2:k=i
 ·subst e2;rw[Yr];exact(key j E e1).symm
 rw[YU _ _ e2];exact h.dj j k E H G
theorem VV.J {base:Nat}{f:Nat->O2}{g:Nat->LI}(h:VV base w n f g)(E:O5 X w w')(G:∀i,i<n->∀b∈ob (f i),b∉X):VV base w' n f g :=
 ⟨λi hi=>Qg (h.own i hi) E (G i hi),h.dj⟩
theorem VV.I {base:Nat}{f:Nat->O2}{g:Nat->LI}(h:VV base w n f g)(E:O5 [] w w'):VV base w' n f g:=h.J E (λ_ _ _ _=>oe)
def Y4 (es:List Ed)(s:Nat):LI:=(es.filter λe=>decide (e.2.2=(s:Int))).map (·.1)
theorem QdB (es:List Ed)(e:Ed)(E:0<=e.2.2):∀s,VZ (Y4 es) e.2.2.toNat (Y4 es e.2.2.toNat++[e.1]) s=Y4 (es++[e]) s:=by
 intro s;unfold Y4;rw[L5,Ls];by_cases h:s=e.2.2.toNat
 ·subst h;rw[Yr];have:e.2.2=(e.2.2.toNat:Int):=oa
  simp[<-this]
 rw[YU _ _ h];have:¬e.2.2=(s:Int):=oa
 simp[this]
theorem Qgh {s:Nat}{p:Int}(h:p∈Y4 es s):∃e∈es,e.1=p/\e.2.2=(s:Int):=by
 unfold Y4 at h;simp only[Oz,OF,decide_eq_true_eq]at h;obtain⟨e,⟨E,G⟩,H⟩:=h;exact⟨e,E,H,G⟩
theorem qj (es:List Ed)(s:Nat):(Y4 es s).length<=es.length:=by
 unfold Y4;rw[Lh];exact Mi _ _
def bwE (s:Int)(st:LI×LI)(p:Int):LI×LI:=if O6 st.1 p.toNat<0 then(st.1.set p.toNat (O6 st.1 s.toNat+1),st.2++[p])else st
def q7 (n:Nat)(to:LI):LI:=(oT n).map λi:Nat=>if(i:Int)∈to then 0 else -1
structure Qky (n:Nat)(o q:LI):Prop where
 len:o.length=n
 q:∀x∈q,0<=x/\x<(n:Int)
 le:∀x∈o,-1<=x/\x+(neg o:Int)<=n
theorem Qn2 (l:LI):neg l<=l.length:=Mi _ _
theorem Qo1 {p:Int}{st:LI×LI}(h:Qky n st.1 st.2)(V:0<=s/\s<(n:Int))(E:0<=O6 st.1 s.toNat)(J:0<=p/\p<(n:Int)):
  Qky n (bwE s st p).1 (bwE s st p).2/\neg (bwE s st p).1+(bwE s st p).2.length=neg st.1+st.2.length/\0<=O6 (bwE s st p).1 s.toNat:=by
 unfold bwE;have hl:=h.len;have G:p.toNat<st.1.length:=oa
 have O:s.toNat<st.1.length:=oa
 by_cases H:O6 st.1 p.toNat<0
 ·rw[OU H];have S:st.1[p.toNat]'G<0:=by rw[ZG G];exact H
  have Y:=h.le _ (Ks O);have ha:=Uw st.1 p.toNat (O6 st.1 s.toNat+1) G S oa;refine⟨⟨by simp[hl],λx hx=>?_,λx hx=>?_⟩,?_,?_⟩
  ·simp only[oV,oI]at hx;rcases hx with hx|rfl
   ·exact h.q x hx
   exact J
  ·simp only[]at hx ⊢;rcases MR hx with I|I
   ·have:=h.le x I;omega
   subst I;omega
  ·simp only[oM,oO];omega
  simp only[];have T:s.toNat≠p.toNat:=λe=>by rw[e]at E;omega
  have:O6 (st.1.set p.toNat (O6 st.1 s.toNat+1)) s.toNat=O6 st.1 s.toNat:=by
   unfold O6;simp[oQ,List.getElem?_set_ne (Ne.symm T)]
  rw[this];exact E
 rw[OT H];exact⟨h,rfl,E⟩
theorem UP (n:Nat)(to:LI):(q7 n to).length=n:=by simp[q7]
theorem Qo2 {to:LI}(h:∀x∈to,0<=x/\x<(n:Int)):Qky n (q7 n to) to:=by
 refine⟨UP n to,h,λx hx=>?_⟩;have E:=Qn2 (q7 n to);rw[UP]at E;unfold q7 at hx;simp only[Oz]at hx;obtain⟨i,_,rfl⟩:=hx;split <;> omega
theorem QmF {to:LI}{x:Int}(h:0<=x/\x<(n:Int))(hx:x∈to):O6 (q7 n to) x.toNat=0:=by
 have E:x.toNat<(q7 n to).length:=by rw[UP];omega
 rw[<-ZG E];have:((x.toNat:Nat):Int)=x:=oa
 simp[q7,this,hx]
def Qpa (o q:LI):Prop:=∀x∈q,0<=O6 o x.toNat
theorem Qj1 {p:Int}{st:LI×LI}(h:Qky n st.1 st.2)(I:0<=O6 st.1 s.toNat)(J:0<=p/\p<(n:Int))(E:Qpa st.1 st.2):Qpa (bwE s st p).1 (bwE s st p).2:=by
 unfold bwE;have H:p.toNat<st.1.length:=by have:=h.len;omega
 by_cases G:O6 st.1 p.toNat<0
 ·rw[OU G];intro x hx;simp only[]at hx ⊢;have e1:O6 (st.1.set p.toNat (O6 st.1 s.toNat+1)) x.toNat=if x.toNat=p.toNat then O6 st.1 s.toNat+1 else O6 st.1 x.toNat:=by
   by_cases e:x.toNat=p.toNat
   ·rw[OU e,e];unfold O6;simp[oQ,H]
   rw[OT e];unfold O6;simp[oQ,List.getElem?_set_ne (Ne.symm e)]
  rw[e1];split
  ·omega
  rename_i e;simp only[oV,oI]at hx;rcases hx with hx|rfl
  ·exact E x hx
  exact OW U e
 rw[OT G];exact E
theorem QhL (n:Nat):(oN n (nS).cells.toList).flatten=(oT n).map (λ_=>nS):=by
 apply Mt
 ·simp[Value.cells]
 intro i E G;simp[Value.cells]
theorem Qgg (n:Nat):(oN n (oF oG 0).cells.toList).flatten=(gA n (λj=>if j<0 then -1 else 0)).map (Value.int .i64):=by
 apply Mt
 ·simp[Value.cells,gA]
 intro i E G;simp[Value.cells,gA]
theorem QbJ {rv:Nat->O2}(hi:i<n):((oT n).map rv)[0+i*1]?=some (rv i):=by simp[hi]
abbrev Lf:=List Bool
def lft (l:Lf)(s:Int):Bool:=l.getD s.toNat false
def cut (l:Lf)(s:Int):Lf:=l.set s.toNat false
def Vf (ul:LI)(lf:Lf)(out:xx)(e:Ed):xx:=
 if lft lf e.1=false\/lft lf e.2.2=true\/e.2.1∉ul then out else if out.getLast?.map (·.1)=some e.1 then out else out++[(e.1,e.2.1)]
def lost (a:Q9)(ul:LI)(lf:Lf):xx:=a.ed.foldl (Vf ul lf) []
def dsE (lf:Lf)(x:Int)(z:LI×LI)(y:Int):LI×LI:=if lft lf y=true/\O6 z.1 y.toNat<0 then(z.1.set y.toNat (O6 z.1 x.toNat+1),z.2++[y])else z
def dsL (es:List Ed)(lf:Lf):Nat->Nat->LI×LI->LI×LI
 | 0,_,z=>z
 | f+1,i,z=>if i<z.2.length then dsL es lf f (i+1) ((Y4 es (O6 z.2 i).toNat).foldl (dsE lf (O6 z.2 i)) z)else z
def ds1 (lf:Lf)(z:LI×LI)(x:Int):LI×LI:=if lft lf x=true then(z.1.set x.toNat 0,z.2++[x])else z
def ds0 (a:Q9)(lf:Lf):LI×LI:=a.mr.foldl (ds1 lf) (oN a.st.toNat (-1),[])
def dsts (a:Q9)(lf:Lf):LI:=(dsL a.ed lf a.st.toNat 0 (ds0 a lf)).1
def VO (lf:Lf):Nat->LI->LI
 | _,[]=>[]
 | i,d::l=>if lf.getD i false=true/\d<0 then(i:Int)::VO lf (i+1) l else VO lf (i+1) l
def nxs (a:Q9)(ul:LI)(lf:Lf):LI:=if(lost a ul lf).length≠0 then(lost a ul lf).map (·.1)else VO lf 0 (dsts a lf)
def zX (a:Q9)(ul:LI):Nat->Lf->Lf
 | 0,lf=>lf
 | f+1,lf=>if(nxs a ul lf).length=0 then lf else zX a ul f ((nxs a ul lf).foldl cut lf)
def lf0 (n:Nat)(fb:LI):Lf:=fb.foldl cut (oN n true)
def QaF (a:Q9)(fb ul:LI):Lf:=zX a ul (a.st.toNat+1) (lf0 a.st.toNat fb)
def rstr (a:Q9)(lf:Lf):Q9:=⟨a.al,a.st,a.mr,a.ed.filter λe=>lft lf e.2.2⟩
def Qhv (a:Q9)(lf:Lf):Q9:=if a.st=0\/lft lf 0=false then⟨a.al,0,[],[]⟩else Yd (rstr a lf)
def Qav (a:Q9)(fb ul:LI):Q9:=Qhv a (QaF a fb ul)
def fbs (s:Spc):LI:=s.fb.map (·.st)
def suA (c:ZB):Q9:=Qav (spc c).a (fbs (spc c)) (unc c.ev)
def orB (b:Nat)(k:Nat):Nat:=b ||| (1 <<< k)
def rqB (x:Xt):Nat->Nat->List Xt->Nat
 | _,b,[]=>b
 | k,b,y::l=>rqB x (k+1) (if(y.a.al.any λe=>decide (e∈x.a.al))=true then orB b k else b) l
def prB (ls:xx):Nat:=ls.foldl (λb l=>orB b l.1.toNat) 0
def srR (c:ZB):LN:=c.rq.map λx=>rqB x 0 0 c.co
def srX (c:ZB):LN:=c.ex.map λx=>prB x.ls
def srC (c:ZB):LN:=c.cs.map λx=>prB x.ts
def srK (c:ZB)(k:Int):LN:=if k=1 then srR c else if k=2 then srX c else srC c
structure UU where
 kd:Int
 ix:Int
 co:LI
def VM (k:Int):Nat->LN->List UU
 | _,[]=>[]
 | i,b::l=>⟨k,i,setK b 8⟩::VM k (i+1) l
def O9 (c:ZB):List UU:=VM 1 0 (srR c)++(VM 2 0 (srX c)++VM 3 0 (srC c))
def sets (c:ZB):LN:=srR c++(srX c++srC c)
def QqS (c:ZB):Nat:=(sets c).foldl (λl b=>l &&& (65535 ^^^ b)) (2 ^ c.co.length - 1)
def rem (c:ZB):LI:=setK (QqS c) 8
def mdE (c:ZB)(m:UU):Int:=if Zl c≠0 then Zl c else if m.kd<1\/3<m.kd then 11 else if m.ix<0\/((srK c m.kd).length:Int)<=m.ix then 10 else if m.co=setK ((srK c m.kd).getD m.ix.toNat 0) 8 then 0 else 13
structure Prt where
 co:LI
 rq:LI
 ex:LI
 cs:LI
def chs (l:List Xt)(ix:LI):List Xt:=ix.map λi=>l.getD i.toNat ⟨.empty,⟨[],0,[],[]⟩⟩
def ixP (co:LI)(ls:xx):xx:=ls.map λl=>((co.idxOf l.1:Int),l.2)
def mis (co:LI)(ls:xx):Bool:=ls.any λl=>decide (l.1∉co)
def Qk8 (c:ZB)(p:Prt):List UV:=p.ex.map λi=>⟨(c.ex.getD i.toNat ⟨.empty,[]⟩).nm,ixP p.co (c.ex.getD i.toNat ⟨.empty,[]⟩).ls⟩
def Qla (c:ZB)(p:Prt):List xL:=p.cs.map λi=>⟨(c.cs.getD i.toNat ⟨.empty,[],0⟩).nm,ixP p.co (c.cs.getD i.toNat ⟨.empty,[],0⟩).ts,(c.cs.getD i.toNat ⟨.empty,[],0⟩).bd⟩
def QfM (c:ZB)(p:Prt):ZB:=⟨c.ev,chs c.co p.co,chs c.rq p.rq,Qk8 c p,Qla c p⟩
def QpA (c:ZB)(p:Prt):Bool:=(p.ex.any λi=>mis p.co (c.ex.getD i.toNat ⟨.empty,[]⟩).ls) || (p.cs.any λi=>mis p.co (c.cs.getD i.toNat ⟨.empty,[],0⟩).ts)
def QaB (c:ZB)(p:Prt):Int :=
 if Zl c≠0 then Zl c else if Kr c.co.length none p.co≠0 then Kr c.co.length none p.co else if Kr c.rq.length none p.rq≠0 then Kr c.rq.length none p.rq else
 if Kr c.ex.length none p.ex≠0 then Kr c.ex.length none p.ex else if Kr c.cs.length none p.cs≠0 then Kr c.cs.length none p.cs else if QpA c p=true then 13 else Zl (QfM c p)
def prt (m:UU):Prt:=⟨m.co,if m.kd=1 then[m.ix]else[],if m.kd=2 then[m.ix]else[],if m.kd≠1/\m.kd≠2 then[m.ix]else[]⟩
def mcE (c:ZB)(m:UU):Int:=if mdE c m≠0 then mdE c m else QaB c (prt m)
def K3 (c:ZB)(m:UU):ZB:=QfM c (prt m)
def msA (c:ZB)(m:UU):Q9:=suA (K3 c m)
def QqO (c:ZB):List Q9:=(O9 c).map (msA c)++(rem c).map λi=>(c.co.getD i.toNat ⟨.empty,⟨[],0,[],[]⟩⟩).a
def Qbz (l:List Q9):Int:=if UT l≠0 then UT l else match xp l with|none=>3|some _=>0
def tgA (c:ZB):Q9:=syA (QqO c)
section
variable (k:α->Int)
def QdC (x:α):List α->List α
 | []=>[x]
 | y::l=>if k x<=k y then x::y::l else y::QdC x l
def isrt (l:List α):List α:=l.foldr (QdC k) []
theorem qk (x:α):∀l,(QdC k x l).Perm (x::l)
 | []=>.refl _
 | y::l=>by
  rw[QdC];split
  ·exact .refl _
  exact((qk x l).cons y).D (.swap _ _ _)
theorem qi:∀l,(isrt k l).Perm l
 | []=>.refl _
 | x::l=>(qk k x _).D ((qi l).cons x)
theorem jU (x:α):∀{l:List α},l.Pairwise (λa b=>k a<=k b)->(QdC k x l).Pairwise (λa b=>k a<=k b)
 | [],_=>by rw[QdC];simp
 | y::l,h=>by
  rw[QdC];obtain⟨H,I⟩:=L3.1 h;split
  ·rename_i G;refine L3.2 ⟨λz E=>?_,h⟩;rcases Li.1 E with rfl|E
   ·exact G
   exact Int.le_trans G (H z E)
  rename_i G;refine L3.2 ⟨λz E=>?_,jU x I⟩;rcases Li.1 ((qk k x l).mem_iff.1 E)with rfl|E
  ·omega
  exact H z E
theorem jS:∀l:List α,(isrt k l).Pairwise (λa b=>k a<=k b)
 | []=>.nil
 | x::l=>jU k x (jS l)
theorem Qek:∀{l m:List α},l.Perm m->l.Pairwise (λa b=>k a<=k b)->m.Pairwise (λa b=>k a<=k b)->(l.map k).Nodup->l=m
 | [],m,E,_,_,_=>(List.Perm.nil_eq E)
 | x::l,[],E,_,_,_=>by have:=E.length_eq;simp at this
 | x::l,y::m,E,hl,H,I=>by
  obtain⟨J,l2⟩:=L3.1 hl;obtain⟨m1,O⟩:=L3.1 H;have S:(k x::l.map k).Nodup:=I;obtain⟨n1,T⟩:=Nz.1 S;have e:x=y:=by
   have hx:x∈y::m:=E.mem_iff.1 Lr;have V:y∈x::l:=E.mem_iff.2 Lr;rcases Li.1 hx with h|h
   ·exact h
   rcases Li.1 V with G|G
   ·exact G.symm
   exact OW (LC.2 ⟨y,G,Int.le_antisymm (m1 x h) (J y G)⟩) n1
  subst e;rw[Qek ((List.perm_cons x).1 E) l2 O T]
theorem QlT {l m:List α}(E:m.Perm l)(G:m.Pairwise (λa b=>k a<=k b))(H:(l.map k).Nodup):m=isrt k l :=
 Qek k (E.D (qi k l).symm) G (jS k l) ((E.map _).nodup_iff.2 H)
end
structure Yc where
 kd:Int
 nm:ByteArray
 a:Q9
 ls:List (ByteArray×Int)
 ts:List (ByteArray×Int)
 bd:Int
abbrev Vn:Q9:=⟨[],0,[],[]⟩
abbrev UN:ZB:=⟨[],[],[],[],[]⟩
def V7 (k:Int)(n:ByteArray)(x:Yc):Bool:=decide (x.kd=k) && decide (x.nm=n)
def Yx (l:List Yc)(k:Int)(n:ByteArray):Nat:=l.findIdx (V7 k n)
def KP (l:List Yc)(k:Int)(n:ByteArray):Bool:=decide (Yx l k n<l.length)
def Qam (a:Q9):Bool:=decide (a.st=0) && decide ((a.al.length:Int)+(a.mr.length:Int)+(a.ed.length:Int)=0)
def QbQ (x:Yc):Bool:=if x.kd=3 then Qam x.a && decide ((x.ts.length:Int)=0) && decide (x.bd=0)else if x.kd=4 then Qam x.a && decide ((x.ls.length:Int)=0)else decide ((x.ls.length:Int)+(x.ts.length:Int)=0) && decide (x.bd=0)
def dk1 (l:List Yc)(i:Nat)(x:Yc):Int :=
 if x.kd<1\/4<x.kd then 11 else if Y3 x.nm=false then 7 else if KP (l.take i) x.kd x.nm=true then 8 else if 0<i/\x.kd<(l.getD (i - 1) ⟨0,.empty,Vn,[],[],0⟩).kd then 5 else if QbQ x=false then 6 else 0
def dkL (l:List Yc):Nat->List Yc->Int
 | _,[]=>0
 | i,x::r=>if dk1 l i x≠0 then dk1 l i x else dkL l (i+1) r
def KB (l:List Yc):Int:=if 76<l.length then 3 else dkL l 0 l
def jb (co:List Xt)(i:Int):Option ByteArray:=if i<0\/(co.length:Int)<=i then none else some (co.getD i.toNat ⟨.empty,Vn⟩).nm
def VU (co:List Xt):xx->Option (List (ByteArray×Int))
 | []=>some []
 | y::l=>match jb co y.1 with
  | none=>none
  | some n=>(VU co l).map ((n,y.2)::·)
def JT (co:List Xt):List UV->Option (List Yc)
 | []=>some []
 | x::l=>match VU co x.ls with
  | none=>none
  | some r=>(JT co l).map (⟨3,x.nm,Vn,r,[],0⟩::·)
def Kc (co:List Xt):List xL->Option (List Yc)
 | []=>some []
 | x::l=>match VU co x.ts with
  | none=>none
  | some r=>(Kc co l).map (⟨4,x.nm,Vn,[],r,x.bd⟩::·)
def KO (k:Int)(x:Xt):Yc:=⟨k,x.nm,x.a,[],[],0⟩
def Qe8 (c:ZB):Option (List Yc):=match JT c.co c.ex,Kc c.co c.cs with
 | some a,some b=>some (c.co.map (KO 1)++(c.rq.map (KO 2)++(a++b)))
 | _,_=>none
def ZT (c:ZB):Int×List Yc:=match Qe8 c with
 | none=>(2,[])
 | some l=>if KB l≠0 then(KB l,[])else(0,l)
def Yv (l:List Yc):List (ByteArray×Int)->LI->List (Int×Int)->Int×xx
 | [],_,o=>(0,isrt (·.1) o)
 | y::r,tk,o=>if KP l 1 y.1=false then(9,[])else if(Yx l 1 y.1:Int)∈tk then(8,[])else Yv l r (tk++[(Yx l 1 y.1:Int)]) (o++[((Yx l 1 y.1:Int),y.2)])
def Kq (all:List Yc)(x:Yc)(c:ZB):Int×ZB :=
 if x.kd=1 then(0,{ c with co:=c.co++[⟨x.nm,x.a⟩] })else if x.kd=2 then(0,{ c with rq:=c.rq++[⟨x.nm,x.a⟩] })else
 if x.kd=3 then(if(Yv all x.ls [] []).1≠0 then((Yv all x.ls [] []).1,UN)else(0,{ c with ex:=c.ex++[⟨x.nm,(Yv all x.ls [] []).2⟩] }))else
 if x.kd=4 then(if(Yv all x.ts [] []).1≠0 then((Yv all x.ts [] []).1,UN)else(0,{ c with cs:=c.cs++[⟨x.nm,(Yv all x.ts [] []).2,x.bd⟩] }))else(0,c)
def QgD (all:List Yc):List Yc->ZB->Int×ZB
 | [],c=>(0,c)
 | x::l,c=>if(Kq all x c).1≠0 then((Kq all x c).1,UN)else QgD all l (Kq all x c).2
def VN (ev:List J9)(l:List Yc):Int×ZB:=if KB l≠0 then(KB l,UN)else QgD l l ⟨ev,[],[],[],[]⟩
def qY (l:List Yc)(x:Yc):Int×List Yc :=
 if KB l≠0 then(KB l,[])else if KB [x]≠0 then(KB [x],[])else if KP l x.kd x.nm=true then(0,l.set (Yx l x.kd x.nm) x)else if l.length=76 then(3,[])else
 (0,l.take (l.findIdx λy=>decide (x.kd<y.kd))++x::l.drop (l.findIdx λy=>decide (x.kd<y.kd)))
def qZ (l:List Yc)(k:Int)(n:ByteArray):Int×List Yc :=
 if KB l≠0 then(KB l,[])else if KP l k n=false then(10,[])else(0,l.take (Yx l k n)++l.drop (Yx l k n+1))
def jf (l:List Yc)(e:Bool×Yc):Int×List Yc:=if e.1=true then qZ l e.2.kd e.2.nm else qY l e.2
def Qbb:List (Bool×Yc)->List Yc->Int×List Yc
 | [],l=>(0,l)
 | e::r,l=>if(jf l e).1≠0 then((jf l e).1,[])else Qbb r (jf l e).2
def je (l:List Yc)(es:List (Bool×Yc)):Int×List Yc:=if KB l≠0 then(KB l,[])else Qbb es l
def cnF (ord:LI)(j:Nat)(e:Ed):Ed:=((j:Int),e.2.1,(ord.idxOf e.2.2:Int))
def cnR (a:Q9)(ord:LI)(j:Nat):List Ed:=(Z4 a.ed (Ya ord j)).map (cnF ord j)
theorem Qcb {r:LI}(h:j<l.length):Ya (l++r) j=Ya l j:=by unfold Ya;rw[MN];exact yK h
structure NuI (st:Int)(ord num:LI):Prop where
 nd:ord.Nodup
 bd:∀s∈ord,0<=s/\s<st
 nl:num.length=st.toNat
 nu:∀k,0<=k->k<st->Ya num k=if k∈ord then(ord.idxOf k:Int)else -1
theorem Qda {st:Int}{c:Cs}(h:NuI st c.ord c.num){e:Ed}(O:0<=e.2.2)(S:e.2.2<st):NuI st (Zw i c e).ord (Zw i c e).num/\(∃r,(Zw i c e).ord=c.ord++r)/\(Zw i c e).mk'=c.mk'/\(Zw i c e).ed=c.ed++[cnF (Zw i c e).ord i e]/\e.2.2∈(Zw i c e).ord:=by
 have G:=h.nu e.2.2 O S;have V:e.2.2.toNat<c.num.length:=by rw[h.nl];omega
 unfold Zw;by_cases H:e.2.2∈c.ord
 ·rw[OU H]at G;rw[OT (by rw[G];omega)];refine⟨h,⟨[],oe⟩,rfl,?_,H⟩;simp only[cnF];rw[G]
 rw[OT H]at G;rw[OU (by rw[G];decide)];have T:(c.ord++[e.2.2]).idxOf e.2.2=c.ord.length:=by rw[MA,OT H];simp
 refine⟨⟨ye h.nd H,λs E=>?_,by simp[h.nl],λk Y k1=>?_⟩,⟨[e.2.2],rfl⟩,rfl,?_,oe⟩
 ·rcases Lc.1 E with E|E
  ·exact h.bd s E
  simp only[oI]at E;subst E;exact⟨O,S⟩
 ·simp only[];by_cases ek:k=e.2.2
  ·subst ek;rw[OU oe,T];unfold Ya;simp[oQ,List.getElem?_set_self V]
  have ha:e.2.2.toNat≠k.toNat:=oa
  have e1:Ya (c.num.set e.2.2.toNat c.ord.length) k=Ya c.num k:=by unfold Ya;simp[oQ,List.getElem?_set_ne ha]
  rw[e1,h.nu k Y k1];by_cases I:k∈c.ord
  ·rw[OU I,OU (Mc _ I),MA,OU I]
  rw[OT I,OT (λhb=>by
   rcases Lc.1 hb with J|J
   ·exact I J
   simp only[oI]at J;exact ek J)]
 simp only[cnF];rw[T]
theorem zM {st:Int}{i:Nat}:∀(es:List Ed) (c:Cs),NuI st c.ord c.num->(∀e∈es,0<=e.2.2/\e.2.2<st)->NuI st (es.foldl (Zw i) c).ord (es.foldl (Zw i) c).num/\(∃r,(es.foldl (Zw i) c).ord=c.ord++r)/\(es.foldl (Zw i) c).mk'=c.mk' /\
  (es.foldl (Zw i) c).ed=c.ed++es.map (cnF (es.foldl (Zw i) c).ord i)/\∀e∈es,e.2.2∈(es.foldl (Zw i) c).ord
 | [],c,h,_=>⟨h,⟨[],oe⟩,rfl,oe,λe H=>by cases H⟩
 | e::es,c,h,E=>by
  obtain⟨I,b1⟩:=E e Lr;obtain⟨J,⟨O,S⟩,T,V,G⟩:=Qda (i:=i) h I b1;obtain⟨k1,⟨r2,k2⟩,k3,Y,k5⟩:=zM (i:=i) es (Zw i c e) J (λd hd=>E d (Lj _ hd));rw[LZ];refine⟨k1,⟨O++r2,by rw[k2,S,LB]⟩,k3.D T,?_,λd hd=>?_⟩
  ·rw[Y,V,LB,LK];have:cnF (Zw i c e).ord i e=cnF (es.foldl (Zw i) (Zw i c e)).ord i e:=by
    unfold cnF;rw[k2,MA,OU G]
   rw[this];rfl
  rcases Li.1 hd with rfl|hd
  ·rw[k2];exact Mc _ G
  exact k5 d hd
structure CnG (a:Q9)(i:Nat)(c:Cs):Prop where
 nu:NuI a.st c.ord c.num
 le:i<=c.ord.length
 hd:Ya c.ord 0=0/\0<c.ord.length
 mk2:c.mk'=((oR 0 i).filter λj:Nat=>decide (Ya c.ord j∈a.mr)).map λj:Nat=>(j:Int)
 ed:c.ed=(oR 0 i).flatMap (cnR a c.ord)
 cl:∀j,j<i->∀e∈Z4 a.ed (Ya c.ord j),e.2.2∈c.ord
theorem Qmw {ord r:LI}(E:j<ord.length)(G:∀e∈Z4 a.ed (Ya ord j),e.2.2∈ord):cnR a (ord++r) j=cnR a ord j:=by
 unfold cnR;rw[Qcb E];refine Nl λe H=>?_;unfold cnF;rw[MA,OU (G e H)]
theorem CnG.next (S:ZE a){c:Cs}(h:CnG a i c)(hi:i<c.ord.length):CnG a (i+1) (qW a i c):=by
 unfold qW;have I:(Yi a i c).ord=c.ord:=by unfold Yi;split <;> rfl
 have T:(Yi a i c).num=c.num:=by unfold Yi;split <;> rfl
 have V:(Yi a i c).ed=c.ed:=by unfold Yi;split <;> rfl
 obtain⟨k1,⟨r,k2⟩,k3,H,J⟩:=zM (st:=a.st) (i:=i) (Z4 a.ed (Ya c.ord i)) (Yi a i c) (by rw[I,T];exact h.nu) (λe Y=>(S.ed e (ZU Y).1).2.2.2);generalize (Z4 a.ed (Ya c.ord i)).foldl (Zw i) (Yi a i c)=d at k1 k2 k3 H J;rw[I]at k2;rw[V]at H;have pre:∀j:Nat,j<=i->Ya d.ord j=Ya c.ord j:=λj E=>by rw[k2];exact Qcb oa
 refine⟨k1,by rw[k2];simp;omega,⟨by have:=pre 0 oa;rw[show((0:Nat):Int)=0 from rfl]at this;rw[this];exact h.hd.1,by rw[k2];simp;omega⟩,?_,?_,λj E=>?_⟩
 ·rw[k3,Mz,L5,Ls,LR];have e1:((oR 0 i).filter λj:Nat=>decide (Ya d.ord j∈a.mr))=(oR 0 i).filter λj:Nat=>decide (Ya c.ord j∈a.mr):=by
   refine List.filter_congr λj E=>?_;rw[MB]at E;rw[pre j oa]
  rw[e1];unfold Yi;by_cases G:Ya c.ord i∈a.mr
  ·rw[OU G];simp only[];rw[Mf,OU (by rw[pre i (Lu _)];exact OX G),Nk,h.mk2];rfl
  rw[OT G];rw[Mf,OT (by rw[pre i (Lu _),OZ G];simp),Nk,h.mk2];simp
 ·rw[H,Mz,LA,LR,h.ed];congr 1
  ·refine JN λj E=>?_;rw[MB]at E;rw[k2];exact(Qmw oa (h.cl j oa)).symm
  simp only[Oe,OM,Ox];unfold cnR;rw[pre i (Lu _)]
 by_cases e:j=i
 ·subst e;rw[pre j (Lu _)];exact J
 intro d' O;rw[pre j oa]at O;rw[k2];exact Mc _ (h.cl j oa d' O)
theorem Qag {a:Q9}(G:ZE a):∀(f i:Nat) (c:Cs),CnG a i c->∃E,CnG a E (X1 a f i c)/\((X1 a f i c).ord.length=E\/E=i+f)
 | 0,i,c,h=>⟨i,h,.inr U⟩
 | f+1,i,c,h=>by
  rw[X1];split
  ·rename_i hi;obtain⟨E,H,I⟩:=Qag G f (i+1) _ (h.next G hi);exact⟨E,H,oa⟩
  exact⟨i,h,.inl (ou h.le)⟩
structure CnP (a:Q9)(ord:LI):Prop where
 nd:ord.Nodup
 bd:∀s∈ord,0<=s/\s<a.st
 hd:Ya ord 0=0/\0<ord.length
 al:(Yd a).al=a.al
 st:(Yd a).st=(ord.length:Int)
 mk2:(Yd a).mr=((oR 0 ord.length).filter λj:Nat=>decide (Ya ord j∈a.mr)).map λj:Nat=>(j:Int)
 ed:(Yd a).ed=(oR 0 ord.length).flatMap (cnR a ord)
 cl:∀j,j<ord.length->∀e∈Z4 a.ed (Ya ord j),e.2.2∈ord
theorem QgJ (I:ZE a)(h0:0<a.st):∃ord,CnP a ord:=by
 have J:0<a.st.toNat:=oa
 have O:CnG a 0 (YR a):=by
  refine⟨⟨by simp[YR],λs H=>by simp[YR]at H;subst H;omega,by simp[YR],λk k0 k1=>?_⟩,Ln _,⟨by simp[YR,Ya],by simp[YR]⟩,by simp[YR],by simp[YR],λj hj=>oa⟩;by_cases ek:k=0
  ·subst ek;rw[OU (by simp[YR])];unfold Ya YR;simp[oQ,J]
  rw[OT (by simpa[YR]using ek)];unfold YR;have S:0≠k.toNat:=oa
  have T:k.toNat<a.st.toNat:=oa
  unfold Ya;rw[Ns,NB S];simp[T]
 obtain⟨V,E,h2⟩:=Qag I a.st.toNat 0 (YR a) O;have ha:(X1 a a.st.toNat 0 (YR a)).ord.length<=a.st.toNat:=xH _ _ E.nu.nd (λx hx=>ou (E.nu.bd x hx));have Y:V=(X1 a a.st.toNat 0 (YR a)).ord.length:=by have:=E.le;omega
 subst Y;have G:Yd a=⟨a.al,((X1 a a.st.toNat 0 (YR a)).ord.length:Int),(X1 a a.st.toNat 0 (YR a)).mk',(X1 a a.st.toNat 0 (YR a)).ed⟩:=by unfold Yd;rw[OT oa]
 refine⟨(X1 a a.st.toNat 0 (YR a)).ord,E.nu.nd,E.nu.bd,E.hd,by rw[G],by rw[G],?_,?_,E.cl⟩
 ·rw[G];exact E.mk2
 rw[G];exact E.ed
section
variable {p s:Q9}{pn xn v:Int}
end
def UW (lo hi:Nat)(ds:LN)(W:O1):Prop:=ds.Nodup/\∀D∈ds,lo<=D/\D<hi/\W.heap[D]?=some (.deferred (some []))
theorem UW.J {W:O1}(h:UW lo hi ds W)(H:O5 X W W')(I:∀b∈X,∃o:Obj,W.heap[b]?=some o/\o.isCells=true):UW lo hi ds W':=by
 refine⟨h.1,λD hD=>⟨(h.2 D hD).1,(h.2 D hD).2.1,?_⟩⟩;have E:=(h.2 D hD).2.2;refine(H.block D (LG.1 E).1 (λhx=>?_)).D E;obtain⟨o,G,J⟩:=I D hx;rw[E]at G;cases G;cases J
theorem UW.I {W:O1}(h:UW lo hi ds W)(E:O5 [] W W'):UW lo hi ds W':=h.J E (λ_ G=>by cases G)
theorem UW.blk {W:O1}(h:UW lo hi ds W)(E:O5 [b] W W')(G:Zb W.heap b T cs):UW lo hi ds W' :=
 h.J E (λc H=>by
  have e:c=b:=by simpa using H
  subst e;exact G.cells)
theorem UW.up {W:O1}(h:UW lo hi ds W)(G:hi<=E):UW lo E ds W:=⟨h.1,λD hD=>⟨(h.2 D hD).1,ou (h.2 D hD).2.1,(h.2 D hD).2.2⟩⟩
theorem UW.cons {W:O1}{D:Nat}(h:UW lo hi ds W)(hl:lo<=hi)(hD:hi<=D)(hd:W.heap[D]?=some (.deferred (some []))):UW lo W.heap.size (D::ds) W:=by
 have G:=(LG.1 hd).1;refine⟨Nz.2 ⟨λH=>ou (h.2 D H).2.1,h.1⟩,λE hE=>?_⟩;rcases Li.1 hE with rfl|hE
 ·exact⟨oa,G,hd⟩
 have:=h.2 E hE;exact⟨this.1,(LG.1 this.2.2).1,this.2.2⟩
theorem UW.stb (I:hi<=B):Yy B (λW=>UW lo hi ds W):=λW W' X h G H=>by
 refine⟨h.1,λD hD=>⟨(h.2 D hD).1,(h.2 D hD).2.1,?_⟩⟩;have E:=(h.2 D hD).2.2;refine(G.block D (LG.1 E).1 (λhx=>?_)).D E;have:=(H D hx).1;have:=(h.2 D hD).2.1;omega
open Go.RowKit
def sl (d:xF)(f:Fr):O2:=match d with|some d=>f d|none=>undef
def ow:O2->LN
 | .slice (some a) _ _=>[a.block]
 | .pointer (some a)=>[a.block]
 | .map (some b)=>[b]
 | _=>[]
def Fa (p:Nat->Prop):LN->Prop
 | []=>True
 | i::l=>p i/\Fa p l
theorem Fa.all {p:Nat->Prop}:∀{l:LN},Fa p l->∀i∈l,p i
 | [],_,_,hi=>by cases hi
 | j::l,h,i,hi=>by
  rcases Li.1 hi with rfl|hi
  ·exact h.1
  exact Fa.all h.2 i hi
theorem Fa.of {p:Nat->Prop}:∀{l:LN},(∀i∈l,p i)->Fa p l
 | [],_=>trivial
 | i::_,h=>⟨h i Lr,Fa.of λj E=>h j (Lj _ E)⟩
def yb (all:Array Oper)(opn:LN)(rest:xu):Nat->Array Bool->Bool
 | 0,ls=>Xe all rest ls && opn.all λi=>ls.getD i false
 | k+1,ls=>!(Region.ready .any all ls).isEmpty && (Region.ready .any all ls).all λi=>opn.contains i && yb all opn rest k (ls.setIfInBounds i true)
def QbV (all:xE)(D:xw):LN->Bool
 | []=>true
 | i::l=>(QV all i).guard.isNone && (match (QV all i).dst with|some d=>Xi D d && l.all (λj=>!((QV all j).dst == some d))|none=>false) && !l.contains i && QbV all D l
theorem KG {all:xE}{D:xw}:∀{l:LN},QbV all D l=true->(∀i∈l,(QV all i).guard=none/\∃d,(QV all i).dst=some d/\Xi D d=true)/\∀i∈l,∀j∈l,i≠j->(QV all i).dst≠(QV all j).dst
 | [],_=>⟨λ_ h=>(by cases h),λ_ h=>(by cases h)⟩
 | i::l,h=>by
  simp only[QbV,oK,Option.isNone_iff_eq_none]at h;obtain⟨⟨⟨O,hd⟩,S⟩,hl⟩:=h;have ih:=KG hl;cases G:(QV all i).dst with
  | none=>rw[G]at hd;cases hd
  | some d =>
   rw[G]at hd;simp only[oK,Om,Og,beq_eq_false_iff_ne,ne_eq]at hd;have H:∀j∈l,(QV all j).dst≠some d:=λj E=>hd.2 j E;refine⟨λj E=>?_,λj E k I J=>?_⟩
   ·rcases Li.1 E with rfl|E
    ·exact⟨O,d,G,hd.1⟩
    exact ih.1 j E
   rcases Li.1 E with hj1|hj1
   ·rcases Li.1 I with hk1|hk1
    ·exact OW (hj1.D hk1.symm) J
    rw[hj1,G];exact λe=>H k hk1 e.symm
   rcases Li.1 I with hk1|hk1
   ·rw[hk1,G];exact H j hj1
   exact ih.2 j hj1 k hk1 J
def Qp9 (all:xE)(pre:xu)(opn:LN)(rest:xu)(D:xw):Bool :=
 Region.noSelect all.toArray && (pre.length+(opn.length+rest.length) == all.length) && KE all.toArray pre (oU all.length false) && QbV all D opn && yb all.toArray opn rest opn.length (Z8 pre (oU all.length false))
  && opn.all λi=>!((Z8 pre (oU all.length false)).getD i false)
section
variable {all:xE}{C:xA}
theorem JM {o:Oper}(h:o.guard=none):Yb all f o=true:=by unfold Yb;rw[h]
theorem QfA {α:Type}{D:xw}{opn:LN}{rest:xu}{Φ:Nat->O2->O1->Prop}{S:α->List (Nat×O2)}{I:α->O1->Prop}{f1:Fr}(hs:Region.noSelect all.toArray=true)(hc:QbV all D opn=true)
  (hn:∀w w',C w->O5 [] w w'->C w') (stab:∀i v w w',Φ i v w->O5 [] w w'->Φ i v w')
  (hq:∀(g:Fr) w,Fa (λi=>Φ i (sl (QV all i).dst g) w) opn->(∀i∈opn,∀j∈opn,i≠j->∀b∈ow (sl (QV all i).dst g),b∉ow (sl (QV all j).dst g))->∃z,Xy g (S z)/\I z w)
  (spec:Fa (λi=>∀g w,C w->XO P (QV all i) (mix D f1 g) w (λf' w'=>O5 [] w w'/\Φ i (sl (QV all i).dst f') w'/\∀b∈ow (sl (QV all i).dst f'),w.heap.size<=b/\b<w'.heap.size)) opn)
  (fin:∀z g w,C w->I z w->XP P all C K rest (qR (S z) (mix D f1 g)) w):
  ∀(k:Nat) (ls:Array Bool) (f:Fr) (w:O1),ls.size=all.length->C w->yb all.toArray opn rest k ls=true->(∀t,Xi D t=false->f t=f1 t)->(∀i∈opn,ls.getD i false=true->Φ i (sl (QV all i).dst f) w) ->
   (∀i∈opn,ls.getD i false=true->(∀b∈ow (sl (QV all i).dst f),b<w.heap.size)/\∀j∈opn,ls.getD j false=true->i≠j->∀b∈ow (sl (QV all i).dst f),b∉ow (sl (QV all j).dst f))->XA P all C K (k+rest.length) ls f w
 | 0,ls,f,w,hh,hC,H,hf,hl,O=>by
  simp only[yb,oK,Om]at H;obtain⟨z,h1,h2⟩:=hq f w (Fa.of λi hi=>hl i hi (H.2 i hi)) (λi hi j G E=>(O i hi (H.2 i hi)).2 j G (H.2 j G) E);have h3:=fin z f w hC h2;rw[Jg hf,Y8 h1]at h3;rw[LR];exact ZQ hs rest ls f w hh (.inl hC) H.1 h3
 | k+1,ls,f,w,hh,hC,H,hf,hl,O=>by
  simp only[yb,oK,Om,List.contains_iff_mem]at H;obtain⟨he,H⟩:=H;rw[Nat.add_right_comm];refine XK (λh0=>(by rw[h0]at he;cases he)) ?_;intro i hi o ho;obtain⟨hm,hy⟩:=H i hi;obtain⟨hg,d,hd,h4⟩:=(KG hc).1 i hm;have h5:=(KG hc).2;have hsp:=Fa.all spec i hm f w hC;rw[Jg hf]at hsp;have T:=Zm ho;rw[T]at hg hd hsp;rw[JM hg,cond_true];refine hsp.mono λv w' hx=>?_;have hr:=hn w w' hC hx.1;have hz:=hx.1.size;have old:∀j∈opn,j≠i->sl (QV all j).dst (QW f o.dst v)=sl (QV all j).dst f:=λj G E=>by
   obtain⟨_,dj,hu,_⟩:=(KG hc).1 j G;have he:o.dst≠some dj:=λe=>h5 j G i hm E (by rw[hu,T];exact e.symm);rw[hu];exact Y9 he v
  have lsj:∀j,j≠i->(ls.setIfInBounds i true).getD j false=true->ls.getD j false=true:=λj E h=>by rw[getD_set_ne false (Ne.symm E)]at h;exact h
  refine⟨.inr (.inr hr),QfA hs hc hn stab hq spec fin k _ _ _ (oz hh) hr hy (λt ht=>?_) (λj G ha=>?_) (λj G ha=>⟨λb J=>?_,λk hk hv hw b J V=>?_⟩)⟩
  ·rw[Y9 (by rw[hd];intro e;cases e;rw[h4]at ht;cases ht)];exact hf t ht
  ·by_cases E:j=i
   ·subst E;have h2:=hx.2.1;rw[T];exact h2
   rw[old j G E];exact stab _ _ _ _ (hl j G (lsj j E ha)) hx.1
  ·by_cases E:j=i
   ·subst E;rw[T]at J;exact(hx.2.2 b J).2
   rw[old j G E]at J;have:=(O j G (lsj j E ha)).1 b J;omega
  by_cases E:j=i
  ·subst E;have Y:k≠j:=Ne.symm hw;rw[old k hk Y]at V;rw[T]at J;have h1:=(O k hk (lsj k Y hv)).1 b V;have h2:=(hx.2.2 b J).1;omega
  rw[old j G E]at J;have h1:=(O j G (lsj j E ha)).1 b J;by_cases Y:k=i
  ·subst Y;rw[T]at V;have h2:=(hx.2.2 b V).1;omega
  rw[old k hk Y]at V;exact(O j G (lsj j E ha)).2 k hk (lsj k Y hv) hw b J V
theorem QmN {Q:Exit->Fr->O1->Prop}(C:xA)(pre:xu)(opn:LN)(rest:xu)(D:xw)(Φ:Nat->O2->O1->Prop)(S:α->List (Nat×O2))(I:α->O1->Prop)
  (hm:P.follows .mixedOrders=true) (hn:XS n all=true) (G:Qp9 all pre opn rest D=true) (H:C { w with drawn:=w.drawn+1 }) (ha:∀w w',C w->O5 [] w w'->C w') (stab:∀i v w w',Φ i v w->O5 [] w w'->Φ i v w')
  (hb:∀(g:Fr) w,Fa (λi=>Φ i (sl (QV all i).dst g) w) opn->(∀i∈opn,∀j∈opn,i≠j->∀b∈ow (sl (QV all i).dst g),b∉ow (sl (QV all j).dst g))->∃z,Xy g (S z)/\I z w)
  (h:XP P all C (λf1 _=>Fa (λi=>∀g w,C w->XO P (QV all i) (mix D f1 g) w (λJ w'=>O5 [] w w'/\Φ i (sl (QV all i).dst J) w'/\∀b∈ow (sl (QV all i).dst J),w.heap.size<=b/\b<w'.heap.size)) opn /\
   ∀z g w,C w->I z w->XP P all C (λf w=>Q .normal f w) rest (qR (S z) (mix D f1 g)) w) pre f { w with drawn:=w.drawn+1 }):W P n (.region id all.toArray true) Q f w:=by
 simp only[Qp9,oK,beq_iff_eq,Om,Og]at G;obtain⟨⟨⟨⟨⟨O,hl⟩,hq⟩,hc⟩,he⟩,T⟩:=G;refine JQ C hm hn ?_;rw[<-hl];have hf:(oU all.length false).size=all.length:=oe
 have V:=YI (K:=λf w=>Q .normal f w) (m:=opn.length+rest.length) O pre (oU all.length false) f _ H hq (λf1 Y=>QfA (P:=P) (C:=C) O hc ha stab hb Y.1 Y.2 opn.length (Z8 pre (oU all.length false)) f1 _ (by rw[YM];exact hf) H he (λ_ _=>U) (λi hi E=>by rw[T i hi]at E;cases E) (λi hi E=>by rw[T i hi]at E;cases E)) h;rw[hl]at V ⊢;exact V
end
def Jb (k:Nat):LI:=(oT k).map λi:Nat=>(i:Int)
theorem yg (k:Nat):(Jb k).length=k:=by simp[Jb]
theorem jL (k:Nat):Jb (k+1)=Jb k++[(k:Int)]:=by unfold Jb;rw[Ny,Ls];rfl
theorem QbY (k:Nat)(x:Int):x∈Jb k↔0<=x/\x<(k:Int):=by
 unfold Jb;simp only[Oz,List.mem_range];constructor
 ·rintro⟨i,hi,rfl⟩;omega
 intro h;exact⟨x.toNat,oa,oa⟩
theorem Qio (k:Nat):YY (Jb k):=by
 induction k with
 | zero=>exact List.Pairwise.nil
 | succ k ih =>
  rw[jL];refine MF.2 ⟨ih,NF _ _,λx hx y E=>?_⟩;have:=(QbY k x).1 hx;simp at E;omega
theorem QoI (lf:Lf)(x:Int)(z:LI×LI)(y:Int):dsE lf x z y=if lft lf y=true then bwE x z y else z:=by
 unfold dsE bwE;by_cases h:lft lf y=true <;> by_cases E:O6 z.1 y.toNat<0 <;> simp[h,E]
structure DsI (n:Nat)(z:LI×LI):Prop where
 ok:Qky n z.1 z.2
 cnt:neg z.1+z.2.length=n
 s0:Qpa z.1 z.2
theorem DsI.le {z:LI×LI}(h:DsI n z):z.2.length<=n:=by have:=h.cnt;omega
theorem Qjt {lf:Lf}{x y:Int}{z:LI×LI}(h:DsI n z)(hx:0<=x/\x<(n:Int))(E:0<=O6 z.1 x.toNat)(G:0<=y/\y<(n:Int)):
  DsI n (dsE lf x z y)/\0<=O6 (dsE lf x z y).1 x.toNat:=by
 rw[QoI];split
 ·obtain⟨H,J,I⟩:=Qo1 h.ok hx E G;exact⟨⟨H,ou h.cnt,Qj1 h.ok E G h.s0⟩,I⟩
 exact⟨h,E⟩
theorem Qmg (lf:Lf)(x:Int)(z:LI×LI)(y:Int):∃r,(dsE lf x z y).2=z.2++r:=by
 unfold dsE;split
 ·exact⟨[y],U⟩
 exact⟨[],oe⟩
theorem Qmf {n:Nat}{lf:Lf}{x:Int}(hx:0<=x/\x<(n:Int)):∀(l:LI) (z:LI×LI),DsI n z->0<=O6 z.1 x.toNat->(∀y∈l,0<=y/\y<(n:Int)) ->
  DsI n (l.foldl (dsE lf x) z)/\∃r,(l.foldl (dsE lf x) z).2=z.2++r
 | [],z,h,_,_=>⟨h,[],oe⟩
 | y::l,z,h,E,hl=>by
  obtain⟨G,H⟩:=Qjt (lf:=lf) h hx E (hl y Lr);obtain⟨I,r2,J⟩:=Qmf hx l _ G H (λy O=>hl y (Lj _ O));obtain⟨S,T⟩:=Qmg lf x z y;exact⟨I,S++r2,by rw[LZ,J,T,LB]⟩
theorem Qjs {lf:Lf}{f:Nat}{z:LI×LI}(h:¬i<z.2.length):dsL es lf f i z=z:=by
 cases f with
 | zero=>rfl
 | succ f=>rw[dsL,OT h]
theorem Qfr {x:Int}(E:0<=x):(q7 n l).set x.toNat 0=q7 n (l++[x]):=by
 apply Mt
 ·simp[q7]
 intro i G H;rw[M7];by_cases e:x.toNat=i
 ·have:(i:Int)=x:=oa
  rw[OU e];simp[q7,this]
 have:(i:Int)≠x:=oa
 rw[OT e];simp[q7,this]
theorem Qcq {lf:Lf}(G:∀x∈a.mr,0<=x)(k:Nat):(a.mr.take k).foldl (ds1 lf) (oN a.st.toNat (-1),[])=(q7 a.st.toNat ((a.mr.take k).filter (lft lf)),(a.mr.take k).filter (lft lf)):=by
 induction k with
 | zero =>
  simp only[List.take_zero,List.foldl_nil,List.filter_nil];congr 1;apply Mt
  ·simp[q7]
  intro i H I;simp[q7]
 | succ k ih =>
  by_cases E:k<a.mr.length
  ·rw[Lm E,MD,ih,L5];simp only[List.foldl_cons,List.foldl_nil,ds1];by_cases hl:lft lf (a.mr[k]'E)=true
   ·rw[OU hl,Qfr (G _ (Ll E))];simp[hl]
   rw[OT hl];simp[hl]
  have e:a.mr.take (k+1)=a.mr.take k:=by rw[Lt oa,Lt oa]
  rw[e];exact ih
theorem QoK {lf:Lf}(E:∀x∈a.mr,0<=x):ds0 a lf=(q7 a.st.toNat (a.mr.filter (lft lf)),a.mr.filter (lft lf)):=by
 have:=Qcq (lf:=lf) E a.mr.length;rw[M1]at this;exact this
theorem Qlv (l:LI)(G:l.Nodup)(H:∀x∈l,0<=x/\x<(n:Int)):neg (q7 n l)+l.length=n:=by
 have key:∀k,k<=l.length->neg (q7 n (l.take k))+k=n:=by
  intro k;induction k with
  | zero =>
   intro _;have e:q7 n (l.take 0)=oN n (-1):=by
    apply Mt
    ·simp[q7]
    intro i I V;simp[q7]
   rw[e];unfold neg;simp
  | succ k ih =>
   intro Y;have I:=ih oa;have hx:=H _ (Ll (show k<l.length by omega));rw[Lm (show k<l.length by omega),<-Qfr hx.1];have J:(l[k]'oa).toNat<(q7 n (l.take k)).length:=by rw[UP];omega
   have ha:=Uw (q7 n (l.take k)) (l[k]'oa).toNat 0 J (by
    have e:(((l[k]'oa).toNat:Nat):Int)=l[k]'oa:=oa
    have O:(l[k]'oa)∉l.take k:=λh=>by
     obtain⟨j,S,E⟩:=LM h;rw[Ng]at E;have T:j<k:=by simp at S;omega
     have:=(MQ.1 G) j k oa oa T;exact this E
    simp[q7,e,O]) (NI _)
   omega
 have:=key l.length (Lu _)
 rwa [M1]at this
theorem QoJ {lf:Lf}(E:ZE a)(H:a.st=(n:Int)):DsI n (ds0 a lf):=by
 have G:∀x∈a.mr.filter (lft lf),0<=x/\x<(n:Int):=λx hx=>by rw[<-H];exact E.mr x (L9.1 hx).1
 have e:a.st.toNat=n:=oa
 rw[QoK (λx hx=>(E.mr x hx).1),e];refine⟨Qo2 G,Qlv _ ((E.mri.imp (λh=>oa)).filter _) G,λx hx=>?_⟩;rw[QmF (G x hx) hx];exact NI _
def V8 (l:Lf):Nat:=l.countP (· == true)
theorem Qmv (l:Lf):V8 l<=l.length:=List.countP_le_length
theorem Qfc (l:Lf)(s:Int):(cut l s).length=l.length:=by simp[cut]
theorem yG:∀(xs:LI) (l:Lf),(xs.foldl cut l).length=l.length
 | [],_=>rfl
 | x::xs,l=>by rw[LZ,yG xs,Qfc]
theorem Qfe:∀(l:Lf) (i:Nat),V8 (l.set i false)+(if l.getD i false=true then 1 else 0)=V8 l
 | [],i=>by simp[V8]
 | b::l,0=>by cases b <;> simp[V8]
 | b::l,i+1=>by
  have ih:=Qfe l i;unfold V8 at *;simp only[List.set_cons_succ,List.countP_cons,List.getD_cons_succ];omega
theorem Qff (l:Lf)(s:Int):V8 (cut l s)+(if lft l s=true then 1 else 0)=V8 l:=Qfe l s.toNat
theorem Qcw:∀(xs:LI) (l:Lf),V8 (xs.foldl cut l)<=V8 l
 | [],_=>Lu _
 | x::xs,l=>by
  have E:=Qcw xs (cut l x);have G:=Qff l x;rw[LZ];omega
theorem QjF {xs:LI}{l:Lf}(h:0<xs.length)(E:∀x∈xs,lft l x=true):V8 (xs.foldl cut l)<V8 l:=by
 cases xs with
 | nil=>simp at h
 | cons x xs =>
  have H:=Qcw xs (cut l x);have G:=Qff l x;rw[OU (E x Lr)]at G;rw[LZ];omega
def Qkp (a:Q9)(lf:Lf)(out:xx):Prop:=∀p∈out,lft lf p.1=true/\∃e∈a.ed,e.1=p.1/\e.2.1=p.2
theorem QlB {lf:Lf}{out:xx}{e:Ed}(h:Qkp a lf out)(G:e∈a.ed):Qkp a lf (Vf ul lf out e)/\(Vf ul lf out e).length<=out.length+1:=by
 unfold Vf;split
 ·exact⟨h,oa⟩
 rename_i H;split
 ·exact⟨h,oa⟩
 refine⟨λp E=>?_,oe⟩;simp only[oV,oI]at E;rcases E with E|rfl
 ·exact h p E
 exact⟨by cases hl:lft lf e.1 with|true=>rfl|false=>exact OW (.inl hl) H,e,G,rfl,rfl⟩
theorem ym {a:Q9}{ul:LI}{lf:Lf}:∀(l:List Ed) (out:xx),(∀e∈l,e∈a.ed)->Qkp a lf out->Qkp a lf (l.foldl (Vf ul lf) out)/\(l.foldl (Vf ul lf) out).length<=out.length+l.length
 | [],out,_,h=>⟨h,oe⟩
 | e::l,out,hl,h=>by
  obtain⟨E,I⟩:=QlB (ul:=ul) h (hl e Lr);obtain⟨G,J⟩:=ym l _ (λe H=>hl e (Lj _ H)) E;exact⟨G,by rw[LZ,LS];omega⟩
theorem QaS (a:Q9)(ul:LI)(lf:Lf):Qkp a lf (lost a ul lf)/\(lost a ul lf).length<=a.ed.length:=by
 have:=ym (ul:=ul) (lf:=lf) a.ed [] (λ_ h=>h) (λp E=>by cases E);unfold lost;simpa using this
theorem UQ (lf:Lf):∀(l:LI) (i:Nat),(∀x∈VO lf i l,lft lf x=true/\(i:Int)<=x/\x<(i:Int)+l.length)/\(VO lf i l).length<=l.length
 | [],i=>⟨λx hx=>(by cases hx),Lu _⟩
 | d::l,i=>by
  obtain⟨E,H⟩:=UQ lf l (i+1);unfold VO;split
  ·rename_i G;refine⟨λx hx=>?_,by simp;omega⟩;rcases Li.1 hx with rfl|hx
   ·exact⟨by unfold lft;simpa using G.1,NI _,by simp;omega⟩
   have:=E x hx;exact⟨this.1,oa,by simp only[oW];omega⟩
  refine⟨λx hx=>?_,by simp;omega⟩;have:=E x hx;exact⟨this.1,oa,by simp only[oW];omega⟩
theorem Qii {lf:Lf}(x:Int)(hx:x∈nxs a ul lf):lft lf x=true:=by
 unfold nxs at hx;split at hx
 ·obtain⟨p,E,rfl⟩:=LC.1 hx;exact((QaS a ul lf).1 p E).1
 exact((UQ lf (dsts a lf) 0).1 x hx).1
theorem QfT {f:Nat}{lf:Lf}(h:(nxs a ul lf).length=0):zX a ul f lf=lf:=by
 cases f with
 | zero=>rfl
 | succ f=>rw[zX,OU h]
theorem QfS {f:Nat}{lf:Lf}(h:(nxs a ul lf).length≠0):zX a ul (f+1) lf=zX a ul f ((nxs a ul lf).foldl cut lf):=by rw[zX,OT h]
theorem Qij {lf:Lf}(h:(nxs a ul lf).length≠0):V8 ((nxs a ul lf).foldl cut lf)<V8 lf:=QjF oa (λx hx=>Qii x hx)
theorem QfO (h:ZE a)(lf:Lf):ZE (rstr a lf):=
 ⟨h.al,h.ali,h.st0,h.st1,h.mr,h.mri,λe E=>h.ed e (L9.1 E).1,h.edi.filter _⟩
def pst (v:Int)(a:Q9)(x:Int):Option Int:=if v∈a.al then xo a.ed x v else some x
def nx (v:Int)(A:Nat->Q9)(x:Nat->Int)(i:Nat):Int:=(pst v (A i) (x i)).getD 0
abbrev QI (p:Int×Int):LV:=[oF oG p.1,oF oG p.2]
theorem YA (p:Int×Int):(QI p).length=2:=rfl
abbrev jj (L:LN)(H:xC)(v:O2)(l:xx):Prop:=Zn L H v l.length 2 (l.flatMap QI)
abbrev Zo (e:J9):LV:=[.string e.nm,.bool e.co,.bool e.ob,.bool e.fo,oF oG e.fl]
theorem UF (e:J9):(Zo e).length=5:=rfl
abbrev Jp (s:ByteArray):Prop:=s.size<=9223372036854775807
structure VQ (L:LN)(H:xC)(v:O2)(l:List J9):Prop where
 arr:Zn L H v l.length 5 (l.flatMap Zo)
 nm:∀e∈l,Jp e.nm
theorem VQ.I {L:LN}{w w':O1}{v:O2}{l:List J9}(h:VQ L w.heap v l)(E:O5 [] w w'):VQ L w'.heap v l:=⟨h.arr.I E,h.nm⟩
theorem VQ.st {L:LN}{w w':O1}{v:O2}{l:List J9}(h:VQ L w.heap v l)(E:O5 L w w'):VQ L w'.heap v l:=⟨h.arr.st E,h.nm⟩
theorem VQ.up {L L':LN}{H:xC}{v:O2}{l:List J9}(h:VQ L H v l)(E:∀b∈L',b∈L\/H.size<=b):VQ L' H v l:=⟨h.arr.up E,h.nm⟩
structure IV where
 nm:ByteArray
 p:AV
def IV.it (q:IV):Xt:=⟨q.nm,q.p.a⟩
abbrev QO (q:IV):LV:=[.string q.nm,q.p.va,oF oG q.p.a.st,q.p.vm,q.p.ve]
theorem Yp (q:IV):(QO q).length=5:=rfl
structure XM (L:LN)(H:xC)(v:O2)(qs:List IV):Prop where
 arr:Zn L H v qs.length 5 (qs.flatMap QO)
 each:∀q∈qs,ZH L H q.p.va q.p.vm q.p.ve q.p.a
 nm:∀q∈qs,Jp q.nm
structure XV where
 nm:ByteArray
 v:O2
 ls:xx
def XV.x (q:XV):UV:=⟨q.nm,q.ls⟩
abbrev Q8 (q:XV):LV:=[.string q.nm,q.v]
theorem Xz (q:XV):(Q8 q).length=2:=rfl
structure yY (L:LN)(H:xC)(v:O2)(qs:List XV):Prop where
 arr:Zn L H v qs.length 2 (qs.flatMap Q8)
 each:∀q∈qs,jj L H q.v q.ls
 nm:∀q∈qs,Jp q.nm
structure KV where
 nm:ByteArray
 v:O2
 ts:xx
 bd:Int
def KV.k (q:KV):xL:=⟨q.nm,q.ts,q.bd⟩
abbrev Zd (q:KV):LV:=[.string q.nm,q.v,oF oG q.bd]
theorem Xp (q:KV):(Zd q).length=3:=rfl
structure yT (L:LN)(H:xC)(v:O2)(qs:List KV):Prop where
 arr:Zn L H v qs.length 3 (qs.flatMap Zd)
 each:∀q∈qs,jj L H q.v q.ts
 nm:∀q∈qs,Jp q.nm
theorem XM.I {L:LN}{w w':O1}{v:O2}{qs:List IV}(h:XM L w.heap v qs)(E:O5 [] w w'):XM L w'.heap v qs:=⟨h.arr.I E,λq G=>(h.each q G).I E,h.nm⟩
theorem XM.st {L:LN}{w w':O1}{v:O2}{qs:List IV}(h:XM L w.heap v qs)(E:O5 L w w'):XM L w'.heap v qs:=⟨h.arr.st E,λq G=>(h.each q G).st E,h.nm⟩
theorem XM.up {L L':LN}{H:xC}{v:O2}{qs:List IV}(h:XM L H v qs)(E:∀b∈L',b∈L\/H.size<=b):XM L' H v qs:=⟨h.arr.up E,λq G=>(h.each q G).up E,h.nm⟩
theorem yY.I {L:LN}{w w':O1}{v:O2}{qs:List XV}(h:yY L w.heap v qs)(E:O5 [] w w'):yY L w'.heap v qs:=⟨h.arr.I E,λq G=>(h.each q G).I E,h.nm⟩
theorem yY.st {L:LN}{w w':O1}{v:O2}{qs:List XV}(h:yY L w.heap v qs)(E:O5 L w w'):yY L w'.heap v qs:=⟨h.arr.st E,λq G=>(h.each q G).st E,h.nm⟩
theorem yY.up {L L':LN}{H:xC}{v:O2}{qs:List XV}(h:yY L H v qs)(E:∀b∈L',b∈L\/H.size<=b):yY L' H v qs:=⟨h.arr.up E,λq G=>(h.each q G).up E,h.nm⟩
theorem yT.I {L:LN}{w w':O1}{v:O2}{qs:List KV}(h:yT L w.heap v qs)(E:O5 [] w w'):yT L w'.heap v qs:=⟨h.arr.I E,λq G=>(h.each q G).I E,h.nm⟩
theorem yT.st {L:LN}{w w':O1}{v:O2}{qs:List KV}(h:yT L w.heap v qs)(E:O5 L w w'):yT L w'.heap v qs:=⟨h.arr.st E,λq G=>(h.each q G).st E,h.nm⟩
theorem yT.up {L L':LN}{H:xC}{v:O2}{qs:List KV}(h:yT L H v qs)(E:∀b∈L',b∈L\/H.size<=b):yT L' H v qs:=⟨h.arr.up E,λq G=>(h.each q G).up E,h.nm⟩
structure CL where
 ve:O2
 vc:O2
 vr:O2
 vx:O2
 vk:O2
 ev:List J9
 co:List IV
 rq:List IV
 ex:List XV
 cs:List KV
def CL.V (c:CL):ZB:=⟨c.ev,c.co.map (·.it),c.rq.map (·.it),c.ex.map (·.x),c.cs.map (·.k)⟩
abbrev CL.cells (c:CL):LV:=[c.ve,c.vc,c.vr,c.vx,c.vk]
abbrev CL.val (c:CL):O2:=.agg #[c.ve,c.vc,c.vr,c.vx,c.vk]
structure ZK (L:LN)(H:xC)(c:CL):Prop where
 ev:VQ L H c.ve c.ev
 co:XM L H c.vc c.co
 rq:XM L H c.vr c.rq
 ex:yY L H c.vx c.ex
 cs:yT L H c.vk c.cs
theorem ZK.I {L:LN}{w w':O1}{c:CL}(h:ZK L w.heap c)(E:O5 [] w w'):ZK L w'.heap c:=⟨h.ev.I E,h.co.I E,h.rq.I E,h.ex.I E,h.cs.I E⟩
theorem ZK.st {L:LN}{w w':O1}{c:CL}(h:ZK L w.heap c)(E:O5 L w w'):ZK L w'.heap c:=⟨h.ev.st E,h.co.st E,h.rq.st E,h.ex.st E,h.cs.st E⟩
theorem ZK.up {L L':LN}{H:xC}{c:CL}(h:ZK L H c)(E:∀b∈L',b∈L\/H.size<=b):ZK L' H c:=⟨h.ev.up E,h.co.up E,h.rq.up E,h.ex.up E,h.cs.up E⟩
theorem ZK.ones {c:CL}(h:ZK L H c):Zr c.cells:=⟨h.ev.arr.one,h.co.arr.one,h.rq.arr.one,h.ex.arr.one,h.cs.arr.one,Z⟩
def Qed (N:Nat)(H:xC)(v:O2)(k:ZB):Prop:=∃c:CL,v=c.val/\c.V=k/\∀L:LN,(∀b∈L,b<N)->ZK L H c
theorem VJ (s:ByteArray)(ha:Jp s)(w:O1):Q6 prog 147 [.string s] w λr w'=>r=.bool (Y3 s)/\w'=w:=by
 unfold Jp at ha;refine Zq func147 ?_;refine Qc<|Qb<|Qd<|Qm<|x (Qdk U)<|Qa<|xe<|Qf<|QD (α:=Nat) [(2,5),(8,46)] (λz=>[(8,oF oG z)]) (λz w'=>w'=w/\z<=s.size/\(oR z (s.size - z)).all (nmQ s)=(oR 0 s.size).all (nmQ s)) (λz=>s.size - z) ol 0 La ⟨U,Ln _,by rw[NL]⟩ ?_;rintro k g Y ⟨rfl,hk,E⟩;refine Qc<|QZ U U<|xe<|Qd<|QG U (λG=>?_) (λG=>?_)
 ·refine Qy ?_;have hb:s.size<=k:=by have he:¬(k:Int)<(s.size:Int):=G;omega
  rw[Qle hb]at E;have H:Y3 s=decide (0<s.size/\s.size<=32):=by unfold Y3;rw[<-E];simp
  rw[H];refine Q3 (α:=Bool) [(2,2),(47,54)] (λz=>[(2,.bool z)]) (λz w'=>w'=Y/\z=decide (0<s.size/\s.size<=32)) ol ?_ ?_
  ·refine Qw<|Qa<|x (Qdk U)<|xb (Z7 U U) (λhf=>?_) (λhf=>?_)
   ·refine Qa<|Qa<|x (Qdk U)<|x (KW U U)<|QH U<|Qb<|⟨_,La,U,by first|exact bT oa|exact bF oa|exact bD oa⟩
   refine Qa<|Qr<|Qr<|Qr<|QH U<|Qb<|⟨_,La,U,by first|exact bT oa|exact bF oa|exact bD oa⟩
  rintro z g w2 ⟨rfl,rfl⟩;exact Qk ⟨[_],La,U,U⟩
 have I:k<s.size:=by have he:(k:Int)<(s.size:Int):=G;omega
 rw[QhM I,L4]at E;refine Qh<|Qd<|Qf<|Qm<|Qb<|Qm<|Qa<|x (QhX (i:=k) U U I)<|Qb ?_;have J:nmQ s k=decide (nmP k (chr s k)):=rfl;refine Zk (chr s k) λc O=>?_;rw[O]at J;refine Q3 (α:=Bool) [(5,5),(14,31)] (λz=>[(5,.bool z)]) (λz w'=>w'=Y/\z=decide ((97<=c/\c<=122)\/(65<=c/\c<=90)\/c=95)) ol ?_ ?_
 ·rw[<-O];refine Qw<|Qa<|xb (Ys U U) (λhg=>?_) (λhg=>?_)
  ·refine Qa<|Qa<|xb (KW U U) (λhh=>?_) (λhh=>?_)
   ·refine QH U<|Qa<|Qr<|Qr<|Qr<|Qr<|Qr<|Qr<|QH U<|Qa<|Qr<|Qr<|x (U7 U) <|
     Qb<|⟨_,La,U,by first|exact bT oa|exact bF oa|exact bD oa⟩
   refine QH U<|Qa<|Qa<|xb (Ys U U) (λS=>?_) (λS=>?_)
   ·refine Qa<|Qa<|xb (KW U U) (λT=>?_) (λT=>?_)
    ·refine QH U<|QH U<|Qa<|Qr<|Qr<|QH U<|Qb<|⟨_,La,U,by first|exact bT oa|exact bF oa|exact bD oa⟩
    refine QH U<|QH U<|Qa<|Qa<|x (Q0 U U)<|QH U<|Qb<|⟨_,La,U,by first|exact bT oa|exact bF oa|exact bD oa⟩
   refine Qa<|Qr<|Qr<|QH U<|QH U<|Qa<|Qa<|x (Q0 U U)<|QH U<|x Ql <|
    xe ?_
   exact⟨_,La,U,by first|exact bT oa|exact bF oa|exact bD oa⟩
  refine Qa<|Qr<|Qr<|QH U<|Qa<|Qa<|xb (Ys U U) (λS=>?_) (λS=>?_)
  ·refine Qa<|Qa<|xb (KW U U) (λT=>?_) (λT=>?_)
   ·refine QH U<|QH U<|Qa<|Qr<|Qr<|QH U<|Qb<|⟨_,La,U,by first|exact bT oa|exact bF oa|exact bD oa⟩
   refine QH U<|QH U<|Qa<|Qa<|x (Q0 U U)<|QH U<|Qb<|⟨_,La,U,by first|exact bT oa|exact bF oa|exact bD oa⟩
  refine Qa<|Qr<|Qr<|QH U<|QH U<|Qa<|Qa<|x (Q0 U U)<|QH U<|x Ql <|
   xe ?_
  exact⟨_,La,U,by first|exact bT oa|exact bF oa|exact bD oa⟩
 rintro z g w4 ⟨rfl,rfl⟩;refine Q3 (α:=Bool) [(32,45)] (λz=>[(45,.bool z)]) (λz w'=>w'=w4/\z=decide (¬nmP k c)) ol ?_ ?_
 ·unfold nmP;rw[<-O];refine Qw<|Qa<|xb (zZ U) (λhi=>?_) (λhi=>?_)
  ·refine Qa<|Qa<|xb (Q0 U U) (λhj=>?_) (λhj=>?_)
   ·refine Qa<|Qr<|Qr<|QH U<|Qa<|Qr<|Qr<|QH U<|QH U<|xe ?_;exact⟨_,La,U,by first|exact bT oa|exact bF oa|exact bD oa⟩
   refine Qa<|Qa<|xb (YQ U U) (λhl=>?_) (λhl=>?_)
   ·refine QH U<|Qa<|Qr<|Qr<|QH U<|QH U<|xe ?_;exact⟨_,La,U,by first|exact bT oa|exact bF oa|exact bD oa⟩
   refine QH U<|Qa<|Qa<|x (Z7 U U)<|QH U<|QH U<|xe ?_;exact⟨_,La,U,by first|exact bT oa|exact bF oa|exact bD oa⟩
  refine Qa<|Qr<|Qr<|Qr<|Qr<|Qr<|Qr<|Qr<|Qr<|Qr<|Qr<|QH U<|xe ?_;exact⟨_,La,U,by first|exact bT oa|exact bF oa|exact bD oa⟩
 rintro z g w5 ⟨rfl,rfl⟩;refine QY rfl (λV=>?_) (λV=>?_)
 ·refine Qc<|Qb ?_;have H:Y3 s=false:=by
   unfold Y3;rw[<-E,J,OZ V];rfl
  exact Qk ⟨[_],La,by rw[H];rfl,U⟩
 refine Qh ?_;have hm:nmP k c:=Lo.1 V;refine Qw<|QP U U<|Qa<|xe ?_;rw[J,OX hm,OO]at E;exact⟨k+1,oa,La,U,I,E⟩
def nmM (l:List ByteArray):List (ByteArray×O2):=l.map λs=>(s,.bool true)
theorem Qlu (l:List ByteArray)(s:ByteArray):xd (nmM l) s=if s∈l then some (.bool true)else none:=by
 induction l with
 | nil=>rfl
 | cons a l ih =>
  show(if a=s then some (Value.bool true)else xd (nmM l) s)=_
  rw[ih];by_cases h:a=s
  ·subst h;simp
  have:s≠a:=λe=>h e.symm;simp[h,this]
theorem QeC {l:List ByteArray}{s:ByteArray}(h:s∉l):xh (nmM l) s (.bool true)=nmM (l++[s]):=by
 induction l with
 | nil=>rfl
 | cons a l ih =>
  have E:a≠s:=λe=>h (by subst e;exact Lr);show(if a=s then(a,Value.bool true)::nmM l else(a,Value.bool true)::xh (nmM l) s (.bool true))=_
  rw[OT E,ih (λG=>h (Lj _ G))];rfl
section
variable {pS:String}
theorem QbP [hm:Mp P t kt et (.bool false)][hk:Key P kt JL]{x:O3}{l:List ByteArray}{s:ByteArray}(h:Yk JL w.heap b (nmM l))(hx:ev f x=.map (some b))(E:ev f y=.string s):
  (execOp (ev f) ⟨d,.lookup t x y false,ty,pS,af,gd⟩).run P w=.ok (.value (.bool (decide (s∈l)))) w:=by
 rw[Jz h hx E,Qlu];by_cases G:s∈l <;> simp[G]
end
theorem QdS {s:List ByteArray}{l:List J9}{k:Nat}(h:k<l.length):qN s (l.drop k)=if Jk s (l[k]'h)≠0 then Jk s (l[k]'h)else qN (s++[(l[k]'h).nm]) (l.drop (k+1)):=by
 rw[Zg h];rfl
theorem yC {v:O2}{l:List J9}(h:VQ L w.heap v l):Q6 prog 81 [v] w λr w'=>r=oF oG (Ke l)/\O5 [] w w':=by
 have h0:=h.arr.le;refine Zq func81 ?_;refine Qc<|Qb<|Qd<|Qm<|QK h.arr U<|x (Z7 U U)<|xe<|QY rfl (λh8=>?_) (λh8=>?_)
 ·refine Qc<|Qb<|Qk ⟨[_],La,by unfold Ke;rw[OU (by have h9:(32:Int)<(l.length:Int):=h8;omega)];rfl,O5.Z _ _⟩
 have hm:Ke l=qN [] l:=by unfold Ke;rw[OT (by have h9:¬(32:Int)<(l.length:Int):=h8;omega)]
 rw[hm];refine Qh<|Qc<|Qe<|YC JL λb9 w1 hg ho hp=>Qb<|Qd<|Qm<|QK (h.arr.I hg) U<|Qa<|xe<|Qf<|QD (α:=Nat×List ByteArray) [(2,2),(5,5),(12,50)] (λz=>[(12,oF oG z.1)]) (λz w'=>z.1<=l.length/\O5 [] w w'/\Yk JL w'.heap b9 (nmM z.2)/\qN z.2 (l.drop z.1)=qN [] l) (λz=>l.length - z.1) ol (0,[]) La
  ⟨Ln _,hg,hp,U⟩ ?_
 rintro⟨k,sn⟩ g w2 ⟨hk,I,hh,E⟩;simp only[]at hk hh E;refine Qc<|QZ U U<|xe<|Qd<|QG U (λha=>?_) (λha=>?_)
 ·refine Qy ?_;have hq:l.length<=k:=by have hr:¬(k:Int)<(l.length:Int):=ha;omega
  rw[Lq hq]at E;refine Qc<|Qb<|Qk ⟨[_],La,by rw[<-E];rfl,I⟩
 have T:k<l.length:=by have hr:(k:Int)<(l.length:Int):=ha;omega
 rw[QdS T]at E;have hi:=h.nm _ (Ll T);refine Qh<|Qd<|Qf<|Qc<|O8 UF (h.arr.I I) U U T λh2 hj=>?_;refine Zk (l[k]'T) λe he=>?_;rw[he]at hj E hi;refine x (Qx hj U U)<|Qe<|Qo (us:=[.string .empty,.bool false,.bool false,.bool false,oF oG 0]) U λb5 w3 hs ht H=>Qe<|Qj (us:=Zo e) H U U U U ⟨U,U,U,U,U,Z⟩ λw4 hu H =>
  xe ?_
 have J:O5 [] w2 w4:=hs.O hu ht;have hl:=hh.I J;refine Qd<|Qf<|Qc<|Qs U H U U<|QM<|(VJ e.nm hi _).mono ?_;rintro r5 w5 ⟨rfl,rfl⟩;refine x (Zx U)<|Qb<|QX U (λhb=>?_) (λhb=>?_)
 ·have O:Y3 e.nm=false:=by simpa using hb
  have G:Jk sn e=7:=by unfold Jk;rw[OU O]
  refine Qc<|Qb<|Qk ⟨[_],La,by rw[<-E,G];rfl,I.D J⟩
 have O:¬Y3 e.nm=false:=by simpa using hb
 refine Qm<|Qs U H U U<|x (QbP hl U U)<|Qb<|QY U (λS=>?_) (λS=>?_)
 ·have G:Jk sn e=8:=by unfold Jk;rw[OT O,OU S]
  refine Qc<|Qb<|Qk ⟨[_],La,by rw[<-E,G];rfl,I.D J⟩
 refine Q3 (α:=Bool) [(26,34)] (λz=>[(26,.bool z)]) (λz w'=>w'=w5/\z=decide (e.fl<0\/4<e.fl)) ol ?_ ?_
 ·refine Qw<|Qs U H U U<|xb (YQ U U) (λhv=>?_) (λhv=>?_)
  ·refine Qa<|Qr<|Qr<|Qr<|QH U<|Qb<|⟨_,La,U,by first|exact bT oa|exact bF oa|exact bD oa⟩
  refine Qa<|Qs U H U U<|x (Z7 U U)<|QH U<|Qb<|⟨_,La,U,by first|exact bT oa|exact bF oa|exact bD oa⟩
 rintro z g w6 ⟨rfl,rfl⟩;refine QY rfl (λV=>?_) (λV=>?_)
 ·have G:Jk sn e=2:=by unfold Jk;rw[OT O,OT S,OU V]
  refine Qc<|Qb<|Qk ⟨[_],La,by rw[<-E,G];rfl,I.D J⟩
 refine Q3 (α:=Bool) [(35,46)] (λz=>[(35,.bool z)]) (λz w'=>w'=w6/\z=decide (e.fl≠0/\(e.co || e.ob)=true)) ol ?_ ?_
 ·refine Qw<|Qs U H U U<|xb (YP U U) (λY=>?_) (λY=>?_)
  ·refine Qa<|Q2 U<|xB (Qq H U U) (λhc=>?_) (λhc=>?_)
   ·refine Qa<|Qr<|Qr<|QH U<|QH U<|Qb<|⟨_,La,U,by rw[hc,OX ⟨Y,oe⟩]⟩
   refine Qa<|Qs U H U U<|QH U<|QH U<|Qb<|⟨_,La,U,?_⟩;show e.ob=_;rw[hc];cases e.ob <;> simp[show ¬e.fl=0 from Y]
  refine Qa<|Qr<|Qr<|Qr<|Qr<|Qr<|Qr<|QH U<|Qb<|⟨_,La,U,bF (λG=>Y G.1)⟩
 rintro z g w7 ⟨rfl,rfl⟩;refine QY rfl (λhf=>?_) (λhf=>?_)
 ·have G:Jk sn e=13:=by unfold Jk;rw[OT O,OT S,OT V,OU hf]
  refine Qc<|Qb<|Qk ⟨[_],La,by rw[<-E,G];rfl,I.D J⟩
 have G:Jk sn e=0:=by unfold Jk;rw[OT O,OT S,OT V,OT hf]
 rw[G,OT (λh=>h rfl)]at E;refine Qh<|Qw<|Qa<|Qs U H U U<|Qe<|XD (k:=e.nm) hl U U λw8 hw hy=>xe ?_;refine Qw<|QP U U<|Qa<|xe ?_;have hz:Yk JL w8.heap b9 (nmM (sn++[e.nm])):=by rw[<-QeC S];exact hy
 exact⟨(k+1,sn++[e.nm]),oh,La,T,(I.D J).O hw ho,hz,E⟩
theorem Qb6 {α:Type}(q:α->Bool)(x:α):∀(l:List α) (i:Nat),ixs q i (l++[x])=ixs q i l++if q x=true then[((i+l.length:Nat):Int)]else[]
 | [],i=>by simp[ixs]
 | a::l,i=>by
  have ih:=Qb6 q x l (i+1);simp only[Ob,ixs,ih,oW];rw[show i+1+l.length=i+(l.length+1) by omega];split <;> simp
theorem QaZ {α:Type}(q:α->Bool):∀(l:List α) (i:Nat),(ixs q i l).length<=l.length
 | [],i=>by simp[ixs]
 | a::l,i=>by
  have ih:=QaZ q l (i+1);unfold ixs;split <;> simp <;> omega
theorem QiM (q:α->Bool){l:List α}{k:Nat}(h:k<l.length):ixs q 0 (l.take (k+1))=ixs q 0 (l.take k)++if q (l[k]'h)=true then[(k:Int)]else[]:=by
 rw[Lm h,Qb6];simp[Nat.min_eq_left (Nat.le_of_lt h)]
theorem QgH [Fu prog g fn]{q:J9->Bool}(hq:∀(e:J9) (w:O1),Q6 prog g [.agg (Zo e).toArray] w λr w'=>r=.bool (q e)/\O5 [] w w'){v:O2}{l:List J9}(h:VQ L w.heap v l):
  Q6 prog 237 [v,.func (.func g) #[] #[]] w λr w'=>O5 [] w w'/\Qu 3 w.heap.size w' r (ixs q 0 l):=by
 have hr:=h.arr.le;refine Zq func237 ?_;refine Qc<|Qb<|Qc<|Qb<|Qd<|Qm<|QK h.arr U<|Qa<|xe<|Qf<|QD (α:=Nat×O2) [(5,7),(10,22)] (λz=>[(5,z.2),(10,oF oG z.1)]) (λz w'=>z.1<=l.length/\O5 [] w w'/\Qu 3 w.heap.size w' z.2 (ixs q 0 (l.take z.1))) (λz=>l.length - z.1) ol (0,nS) oA
  ⟨Ln _,O5.Z _ _,QL _ _ _ _⟩ ?_
 rintro⟨k,vo⟩ g w1 ⟨hk,E,I⟩;simp only[]at hk I;refine Qc<|QZ U U<|xe<|Qd<|QG U (λO=>?_) (λO=>?_)
 ·refine Qy ?_;have hc:l.length<=k:=by have hf:¬(k:Int)<(l.length:Int):=O;omega
  rw[Lt hc]at I;refine Qm<|Qb<|Qk ⟨[_],La,E,I⟩
 have G:k<l.length:=by have hf:(k:Int)<(l.length:Int):=O;omega
 have H:=QiM q G;have hs:=QaZ q (l.take k) 0;have ht:(l.take k).length=k:=by simp;omega
 refine Qh<|Qd<|Qf<|Qm<|O8 UF (h.arr.I E) U U G λhu ha=>?_;refine Zk (l[k]'G) λe he=>?_;rw[he]at ha H;refine x (Qx ha U U)<|Qe<|Qo (us:=[.string .empty,.bool false,.bool false,.bool false,oF oG 0]) U λb7 w2 hg hh S=>x Ql <|
  Qe<|Qj (us:=Zo e) S U U U U ⟨U,U,U,U,U,Z⟩ λw3 hi S=>xe ?_
 have hj:O5 [] w1 w3:=hg.O hi hh;refine Qm<|Q5 S U U<|Qe<|xc (first:=[]) (capt:=[]) U<|(hq e w3).mono ?_;rintro r4 w4 ⟨rfl,hl⟩;have J:=hj.D hl;have T:=Qp I J;have hv:=(E.D J).size;refine xe<|QX rfl (λV=>?_) (λV=>?_)
 ·rw[OU V]at H;refine Qw<|Qa<|Qa<|Qe<|QC (us:=[[oF oG k]]) U U og oe ⟨rfl,rfl,Z⟩ λhw w5 Y hy hm=>?_;have hn:=Qp T Y;have hz:=Y.size;refine Qe<|Za (news:=[oF oG k]) (L:=[]) hn U U U (hm.at oe) (by simp[Value.oneCell']) oa oa λv6 w6 ho hp h0 =>
   Qb ?_
  have hge:=Qi T;refine Qw<|QP U U<|Qa<|xe<|⟨(k+1,v6),oh,oA,G,((E.D J).D Y).then hp (λb hb=>.inr (hge b hb).1),?_⟩;simp only[];rw[H];exact Qu.snoc ho
 rw[OT (by rw[V];decide),LQ]at H;refine Qh<|Qw<|QP U U<|Qa<|xe ?_;exact⟨(k+1,vo),oh,oA,G,E.D J,by simp only[];rw[H];exact T⟩
theorem Qd2 (e:J9)(w:O1):Q6 prog 232 [.agg (Zo e).toArray] w λr w'=>r=.bool (!e.co)/\O5 [] w w':=by
 refine Zq func232 ?_;refine Qc<|Qe<|QS (us:=Zo e) U λb1 H E I G=>Qb<|Qc<|Qs U G U U<|x (Zx U)<|Qb<|Qk ⟨[_],La,U,E⟩
theorem QgX {v:O2}{l:List J9}(h:VQ L w.heap v l):Q6 prog 163 [v,oF oG 2] w λr w'=>O5 [] w w' /\
  ∃vo,r=.tuple #[vo,oF oG (Ke l)]/\Qu 3 w.heap.size w' vo (if Ke l=0 then unc l else[]):=by
 refine Zq func163 ?_;refine Qc<|x Ql<|Qb<|Qd<|Qm<|ZP<|(yC h).mono ?_;rintro r1 O ⟨rfl,I⟩;refine Qb<|Qm<|ZA U U<|xe<|QY rfl (λG=>?_) (λG=>?_)
 ·refine Qm<|x Ql<|Qb<|Qk ⟨[_,_],oA,I,_,U,by rw[OT G];exact QL _ _ _ _⟩
 have J:Ke l=0:=Lo.1 G;refine Qh<|Qc<|Qe<|YC V4 λho w2 S E T=>Qe<|X9 (k:=1) T U U λw3 V Y=>Qe<|X9 (k:=2) Y U U λw4 ha hb =>
  Qe<|X9 (k:=3) hb U U λw5 hc he=>Qe<|X9 (k:=4) he U U λw6 hf hg=>Qe<|X9 (k:=5) hg U U λw7 hh hi=>Qe<|X9 (k:=6) hi U U λw8 hj hk =>
  Qa<|Qb ?_
 have hl:O5 [] O w8:=(((((S.O V E).O ha E).O hc E).O hf E).O hh E).O hj E;refine Qm<|Qa<|x (jE (k:=(2:Int)) hk U U U)<|Qa<|Q7 U U<|Q7 U U<|x Ql<|Qb<|Qd<|Qm<|x (Zx U)<|xe<|ZL rfl<|Qh ?_;have H:=I.D hl;refine Qm<|Qa<|ZP<|(QgH Qd2 (h.I H)).mono ?_;rintro r9 w9 ⟨hm,hn⟩;refine x Ql<|Qb<|Qk ⟨[_,_],oA,H.D hm,_,by rw[J];rfl,?_⟩;rw[OU J];exact Zv hn H.size
theorem Qca (n:Int)(w:O1):Q6 prog 222 [oF oG n] w λr w'=>r=.bool (grt n)/\w'=w:=by
 refine Zq func222 ?_;refine Qc<|Qb<|Q3 (α:=Bool) [(2,8)] (λz=>[(2,.bool z)]) (λz w'=>w'=w/\z=grt n) ol ?_ ?_
 ·refine Qw<|Qa<|xb (YQ U U) (λE=>?_) (λE=>?_)
  ·refine Qa<|Qr<|Qr<|QH U<|Qb<|⟨_,La,U,by unfold grt;rw[OX E];rfl⟩
  refine Qa<|Qa<|x (Z7 U U)<|QH U<|Qb<|⟨_,La,U,by unfold grt;rw[OZ E];rfl⟩
 rintro z g G ⟨rfl,rfl⟩;exact Qk ⟨[_],La,U,U⟩
theorem QdR {sz:LI}{ls:xx}{k:Nat}(h:k<ls.length):XW sz (pv (ls.map (·.1)) k) (ls.drop k)=if(ls[k]'h).1<0\/(sz.length:Int)<=(ls[k]'h).1 then 2 else if jd (pv (ls.map (·.1)) k) (ls[k]'h).1=true then 5 else if(ls[k]'h).2<0\/O6 sz (ls[k]'h).1.toNat<=(ls[k]'h).2 then 2 else XW sz (pv (ls.map (·.1)) (k+1)) (ls.drop (k+1)):=by
 rw[Zg h,Vw (oz h),Mq];rfl
theorem UM {sz:LI}{ls:xx}{nm:ByteArray}(hS:QQ [] w.heap vs sz)(hl:jj [] w.heap vl ls):
  Q6 prog 157 [.agg #[vs,vx,vk],.agg #[.string nm,vl]] w λr w'=>r=oF oG (Jd sz ls)/\O5 [] w w':=by
 have hG:=hl.le;refine Zq func157 ?_;refine Qc<|Qe<|QS (us:=[vs,vx,vk]) U λb2 w1 hy hH V=>Qe<|QS (us:=[.string nm,vl]) U λb3 w2 hp hI Y=>Qb ?_;have H:=hy.D hp
 replace V:=V.I hp;refine Qd<|Qc<|Qs U Y U U<|QK (hl.I H) U<|x (Q0 U U)<|xe<|QY rfl (λha=>?_) (λha=>?_)
 ·refine Qc<|Qb<|Qk ⟨[_],La,by unfold Jd;rw[OU (by have hz:(ls.length:Int)=0:=ha;omega)];rfl,H⟩
 have h0:ls.length≠0:=by have hz:¬(ls.length:Int)=0:=ha;omega
 have h1:Jd sz ls=XW sz none ls:=by unfold Jd;rw[OT h0]
 rw[h1];refine Qh<|Qd<|Qc<|Qs U Y U U<|QK (hl.I H) U<|Qa<|xe<|Qf<|QD (α:=Nat) [(4,6),(14,61)] (λz=>[(14,oF oG z)]) (λz w'=>z<=ls.length/\O5 [] w2 w'/\XW sz (pv (ls.map (·.1)) z) (ls.drop z)=XW sz none ls) (λz=>ls.length - z) ol 0 La
  ⟨Ln _,O5.Z _ _,U⟩ ?_
 rintro k g w3 ⟨hk,O,G⟩;have hb:=H.D O;have hq:=V.I O;have h2:=Y.I O;have hr:=hl.I hb;have hs:=hS.I hb;refine Qc<|QZ U U<|xe<|Qd<|QG U (λhf=>?_) (λhf=>?_)
 ·refine Qy ?_;have h3:ls.length<=k:=by have h4:¬(k:Int)<(ls.length:Int):=hf;omega
  rw[Lq h3]at G;refine Qc<|Qb<|Qk ⟨[_],La,by rw[<-G];rfl,hb⟩
 have S:k<ls.length:=by have h4:(k:Int)<(ls.length:Int):=hf;omega
 rw[QdR S]at G;refine Qh<|Qd<|Qf<|Qm<|O8 YA hr U U S λhJ ht=>?_;refine Zk (ls[k]'S) λe he=>?_;rw[he]at ht G;refine x (Qx ht U U)<|Qe<|Qo (us:=[oF oG 0,oF oG 0]) U λb6 w4 h5 h6 J=>x Ql<|Qe<|Qj (us:=QI e) J U U U U oA λw5 h7 J=>xe ?_;have I:O5 [] w3 w5:=h5.O h7 h6;have hu:=O.D I;refine Qf<|Q3 (α:=Bool) [(19,30)] (λz=>[(19,.bool z)]) (λz w'=>w'=w5/\z=decide (e.1<0\/(sz.length:Int)<=e.1)) ol ?_ ?_
 ·refine Qw<|Qs U J U U<|xb (YQ U U) (λh8=>?_) (λh8=>?_)
  ·refine Qa<|Qr<|Qr<|Qr<|Qr<|Qr<|Qr<|QH U<|Qb<|⟨_,La,U,by first|exact bT oa|exact bF oa|exact bD oa⟩
  refine Qa<|Qs U J U U<|Qs U (hq.I I) U U<|QK (hs.I I) U<|x (Ys U U) <|
   QH rfl<|Qb<|⟨_,La,U,by first|exact bT oa|exact bF oa|exact bD oa⟩
 rintro z g w6 ⟨rfl,rfl⟩;refine QY rfl (λhg=>?_) (λhg=>?_)
 ·rw[OU hg]at G;refine Qc<|Qb<|Qk ⟨[_],La,by rw[<-G];rfl,H.D hu⟩
 rw[OT hg]at G;have h9:e.1=((e.1.toNat:Nat):Int):=oa
 have hA:e.1.toNat<sz.length:=oa
 refine Q3 (α:=Bool) [(31,45)] (λz=>[(31,.bool z)]) (λz w'=>O5 [] w6 w'/\z=jd (pv (ls.map (·.1)) k) e.1) ol ?_ ?_
 ·refine ZD [] (Xb 0 15 [])<|p QE<|pb (λ_=>Z7 U U) (λhh=>?_) (λhh=>?_)
  ·have hi:k≠0:=by have hB:(0:Int)<(k:Int):=hh;omega
   have hk1:((k:Int) - 1)=((k - 1:Nat):Int):=oa
   have hj:k - 1<ls.length:=oa
   refine p QE<|p (QR U)<|pq (λ_ E=>Qq (J.I E) U U)<|p (QR U)<|pq (λ_ E=>Qq ((h2.I I).I E) U U) <|
    p QE<|p (λ_=>Jh U U ⟨oa,oa⟩)<|Lg.pig (g:=QI) (i:=k - 1) U YA (hr.I I) U (OV (Value.int .i64) hk1) hj λhK hC=>p (λ_=>Zp U) <|
    pq (λ_ E=>QA ((hC.fld 0 _ U).I E) U)<|p (λ_=>KW U U)<|p (Xg U)<|p ZN<|pe ?_
   refine⟨_,La,O5.C _ _,?_⟩;have:pv (ls.map (·.1)) k=some (ls[k - 1]'hj).1:=by simp[pv,hi,hj]
   rw[this];rfl
  have hi:k=0:=by have hB:¬(0:Int)<(k:Int):=hh;omega
  refine p QE<|ps<|ps<|ps<|ps<|ps<|ps<|ps<|ps<|ps<|ps<|p (Xg U)<|p ZN<|pe ?_;exact⟨false,La,O5.C _ _,by simp[pv,hi,jd]⟩
 rintro z g w7 ⟨T,rfl⟩;have hv:=hu.D T;refine QX rfl (λhm=>?_) (λhm=>?_)
 ·rw[OU hm]at G;refine Qc<|Qb<|Qk ⟨[_],La,by rw[<-G];rfl,H.D hv⟩
 rw[OT (by simp[hm])]at G;have hn:=J.I T;refine Q3 (α:=Bool) [(46,60)] (λz=>[(46,.bool z)]) (λz w'=>O5 [] w7 w'/\z=decide (e.2<0\/O6 sz e.1.toNat<=e.2)) ol ?_ ?_
 ·refine ZD [] (Xb 0 15 [])<|p (QR U)<|pq (λ_ E=>Qq (hn.I E) U U)<|pb (λ_=>YQ U U) (λhD=>?_) (λhD=>?_)
  ·refine p QE<|ps<|ps<|ps<|ps<|ps<|ps<|ps<|ps<|ps<|p (Xg U)<|p ZN<|pe ?_;exact⟨_,La,O5.C _ _,by first|exact bT oa|exact bF oa|exact bD oa⟩
  refine p QE<|p (QR U)<|pq (λ_ E=>Qq (hn.I E) U U)<|p (QR U)<|pq (λ_ E=>Qq (((hq.I I).I T).I E) U U) <|
   p (QR rfl)<|pq (λ_ E=>Qq (hn.I E) U U)<|pic (i:=e.1.toNat) U ((hs.I I).I T) U (OV (Value.int .i64) h9) hA λhL hE=>pq (λ_ E=>QA (hE.I E) U) <|
   p (λ_=>Ys U U)<|p (Xg U)<|p ZN<|pe ?_
  exact⟨_,La,O5.C _ _,by first|exact bT oa|exact bF oa|exact bD oa⟩
 rintro z g w8 ⟨hF,rfl⟩;have hw:=hv.D hF;refine QY rfl (λho=>?_) (λho=>?_)
 ·rw[OU ho]at G;refine Qc<|Qb<|Qk ⟨[_],La,by rw[<-G];rfl,H.D hw⟩
 rw[OT ho]at G;refine Qh<|Qw<|QP U U<|Qa<|xe ?_;exact⟨k+1,oa,La,S,hw,G⟩
theorem QdQ {sz:LI}{ls:xx}{k:Nat}(h:k<ls.length):J6 sz (pv (ls.map (·.1)) k) (ls.drop k)=if(ls[k]'h).1<0\/(sz.length:Int)<=(ls[k]'h).1 then 2 else if jd (pv (ls.map (·.1)) k) (ls[k]'h).1=true then 5 else if(ls[k]'h).2=0\/grt (ls[k]'h).2=true then 2 else J6 sz (pv (ls.map (·.1)) (k+1)) (ls.drop (k+1)):=by
 rw[Zg h,Vw (oz h),Mq];rfl
theorem Ue {sz:LI}{ls:xx}{nm:ByteArray}{bd:Int}(hS:QQ [] w.heap vs sz)(hl:jj [] w.heap vl ls):
  Q6 prog 159 [.agg #[vs,vx,vk],.agg #[.string nm,vl,oF oG bd]] w λr w'=>r=oF oG (Xx sz ⟨nm,ls,bd⟩)/\O5 [] w w':=by
 have hG:=hl.le;refine Zq func159 ?_;refine Qc<|Qe<|QS (us:=[vs,vx,vk]) U λb2 w1 h0 hH V=>Qe<|QS (us:=[.string nm,vl,oF oG bd]) U λb3 w2 hq hI Y=>Qb ?_;have G:=h0.D hq
 replace V:=V.I hq;refine Qd<|Qc<|Qs U Y U U<|QK (hl.I G) U<|x (Q0 U U)<|xe<|QY rfl (λha=>?_) (λha=>?_)
 ·refine Qc<|Qb<|Qk ⟨[_],La,by unfold Xx;rw[OU (by have h1:(ls.length:Int)=0:=ha;show ls.length=0;omega)];rfl,G⟩
 have h2:ls.length≠0:=by have h1:¬(ls.length:Int)=0:=ha;omega
 have h3:Xx sz ⟨nm,ls,bd⟩=if J6 sz none ls≠0 then J6 sz none ls else if grt bd=true then 2 else 0:=by unfold Xx;rw[OT h2]
 rw[h3];refine Qh<|Qd<|Qc<|Qs U Y U U<|QK (hl.I G) U<|Qa<|xe<|Qf<|QD (α:=Nat) [(4,6),(14,55)] (λz=>[(14,oF oG z)]) (λz w'=>z<=ls.length/\O5 [] w2 w'/\J6 sz (pv (ls.map (·.1)) z) (ls.drop z)=J6 sz none ls) (λz=>ls.length - z) ol 0 La
  ⟨Ln _,O5.Z _ _,U⟩ ?_
 rintro k g w3 ⟨hk,O,E⟩;have S:=G.D O;have h4:=V.I O;have hr:=Y.I O;have hs:=hl.I S;have h5:=hS.I S;refine Qc<|QZ U U<|xe<|Qd<|QG U (λhb=>?_) (λhb=>?_)
 ·refine Qy ?_;have h6:ls.length<=k:=by have h7:¬(k:Int)<(ls.length:Int):=hb;omega
  rw[Lq h6]at E;have h8:J6 sz none ls=0:=E.symm;rw[h8,OT (λh=>h rfl)];refine Qd<|Qc<|Qs U hr U U<|QM<|(Qca bd _).mono ?_;rintro r4 w4 ⟨rfl,rfl⟩;refine xe<|QX U (λhf=>?_) (λhf=>?_)
  ·rw[OU hf];refine Qc<|Qb<|Qk ⟨[_],La,U,S⟩
  rw[OT (by simp[hf])];refine Qh<|Qc<|Qb<|Qk ⟨[_],La,U,S⟩
 have T:k<ls.length:=by have h7:(k:Int)<(ls.length:Int):=hb;omega
 rw[QdQ T]at E;refine Qh<|Qd<|Qf<|Qm<|O8 YA hs U U T λhJ ht=>?_;refine Zk (ls[k]'T) λe he=>?_;rw[he]at ht E;refine x (Qx ht U U)<|Qe<|Qo (us:=[oF oG 0,oF oG 0]) U λb6 w4 h9 hA H=>x Ql<|Qe<|Qj (us:=QI e) H U U U U oA λw5 hB H=>xe ?_;have I:O5 [] w3 w5:=h9.O hB hA;have hu:=O.D I;refine Qf<|Q3 (α:=Bool) [(19,30)] (λz=>[(19,.bool z)]) (λz w'=>w'=w5/\z=decide (e.1<0\/(sz.length:Int)<=e.1)) ol ?_ ?_
 ·refine Qw<|Qs U H U U<|xb (YQ U U) (λhC=>?_) (λhC=>?_)
  ·refine Qa<|Qr<|Qr<|Qr<|Qr<|Qr<|Qr<|QH U<|Qb<|⟨_,La,U,by first|exact bT oa|exact bF oa|exact bD oa⟩
  refine Qa<|Qs U H U U<|Qs U (h4.I I) U U<|QK (h5.I I) U<|x (Ys U U) <|
   QH rfl<|Qb<|⟨_,La,U,by first|exact bT oa|exact bF oa|exact bD oa⟩
 rintro z g w6 ⟨rfl,rfl⟩;refine QY rfl (λhh=>?_) (λhh=>?_)
 ·rw[OU hh]at E;refine Qc<|Qb<|Qk ⟨[_],La,by rw[<-E,OU og];rfl,G.D hu⟩
 rw[OT hh]at E;refine Q3 (α:=Bool) [(31,45)] (λz=>[(31,.bool z)]) (λz w'=>O5 [] w6 w'/\z=jd (pv (ls.map (·.1)) k) e.1) ol ?_ ?_
 ·refine ZD [] (Xb 0 15 [])<|p QE<|pb (λ_=>Z7 U U) (λhi=>?_) (λhi=>?_)
  ·have hj:k≠0:=by have hD:(0:Int)<(k:Int):=hi;omega
   have hk1:((k:Int) - 1)=((k - 1:Nat):Int):=oa
   have hm:k - 1<ls.length:=oa
   refine p QE<|p (QR U)<|pq (λ_ J=>Qq (H.I J) U U)<|p (QR U)<|pq (λ_ J=>Qq ((hr.I I).I J) U U) <|
    p QE<|p (λ_=>Jh U U ⟨oa,oa⟩)<|Lg.pig (g:=QI) (i:=k - 1) U YA (hs.I I) U (OV (Value.int .i64) hk1) hm λhK hE=>p (λ_=>Zp U) <|
    pq (λ_ J=>QA ((hE.fld 0 _ U).I J) U)<|p (λ_=>KW U U)<|p (Xg U)<|p ZN<|pe ?_
   refine⟨_,La,O5.C _ _,?_⟩;have:pv (ls.map (·.1)) k=some (ls[k - 1]'hm).1:=by simp[pv,hj,hm]
   rw[this];rfl
  have hj:k=0:=by have hD:¬(0:Int)<(k:Int):=hi;omega
  refine p QE<|ps<|ps<|ps<|ps<|ps<|ps<|ps<|ps<|ps<|ps<|p (Xg U)<|p ZN<|pe ?_;exact⟨false,La,O5.C _ _,by simp[pv,hj,jd]⟩
 rintro z g w7 ⟨hv,rfl⟩;have hw:=hu.D hv;refine QX rfl (λhn=>?_) (λhn=>?_)
 ·rw[OU hn]at E;refine Qc<|Qb<|Qk ⟨[_],La,by rw[<-E,OU og];rfl,G.D hw⟩
 rw[OT (by simp[hn])]at E;have hy:=H.I hv;refine Q3 (α:=Bool) [(46,54)] (λz=>[(46,.bool z)]) (λz w'=>O5 [] w7 w'/\z=decide (e.2=0\/grt e.2=true)) ol ?_ ?_
 ·refine Qw<|Qs U hy U U<|xb (Q0 U U) (λho=>?_) (λho=>?_)
  ·refine Qa<|Qr<|Qr<|Qr<|QH U<|Qb<|⟨_,La,O5.Z _ _,bT (.inl ho)⟩
  refine Qa<|Qs U hy U U<|QM<|(Qca e.2 _).mono ?_;rintro r9 w9 ⟨rfl,rfl⟩;refine QH U<|Qb<|⟨grt e.2,La,O5.Z _ _,?_⟩;cases hg:grt e.2 with
  | true=>exact bT (.inr U)
  | false=>exact bF (λh=>by rcases h with h|h;exact ho h;cases h)
 rintro z g w8 ⟨hF,rfl⟩;have hz:=hw.D hF;refine QY rfl (λhp=>?_) (λhp=>?_)
 ·rw[OU hp]at E;refine Qc<|Qb<|Qk ⟨[_],La,by rw[<-E,OU og];rfl,G.D hz⟩
 rw[OT hp]at E;refine Qh<|Qw<|QP U U<|Qa<|xe ?_;exact⟨k+1,oa,La,T,hz,E⟩
open Go.RowKit
def Qc3:Fr->LN->LV->Fr
 | f,p::ps,v::vs=>Qc3 (upd f p v) ps vs
 | f,_,_=>f
theorem U3 {n:Nat}{ds:LN}:∀(ps:LN) (vs:LV) (a:Act) (f:Fr),Xd n ds a f->(∀p∈ps,p<n) ->
  Xd n ds { tmps:=(ps.zip vs).foldl (λt (x:Nat×O2)=>t.setIfInBounds x.1 x.2) a.tmps,defers:=a.defers } (Qc3 f ps vs)
 | [],_,a,f,h,_=>by cases h;exact⟨by assumption,by assumption,by assumption⟩
 | p::ps,[],a,f,h,_=>by cases h;exact⟨by assumption,by assumption,by assumption⟩
 | p::ps,v::vs,a,f,h,E=>by
  have G:=h.put (dst:=some p) (λd e=>by cases e;exact E p Lr) v;exact U3 ps vs _ _ G (λq H=>E q (Lj _ H))
def rdE {α:Type}(B:Nat)(L:LN)(I:List α->O1->Prop)(X:Exit->List α->O1->Prop)(xs:List α)(W:O1):Exit->LN->Fr->O1->Prop
 | .normal,_,_,W'=>KT B L W W'/\I xs W'
 | .ret,_,_,W'=>KT B L W W'/\X .ret xs W'
 | .exit i,_,_,W'=>KT B L W W'/\X (.exit i) xs W'
 | _,_,_,_=>False
theorem Qks {m:Nat}{Q:Exit->LN->Fr->O1->Prop}{g:O3}{ps:LN}{assign body:Code}(L:LN)(Y:1<=m)
    [hF:Fu P gf fn]  (hg:ev f g=.func (.func gf) #[] capt.toArray) {encs:α->LV} {S Sp:List α->Prop}  (hp:∀p∈ps,p<n) (hj:∀x,(encs x).length=ps.length)
  (hm:SeqStopsK (fen none) (m - 1) P gf capt.toArray (λx=>(encs x).toArray) (Lw w.heap.size L) S Sp N w)
  (I:List α->O1->Prop) (hI:∀s,Yy w.heap.size (I s)) (X:Exit->List α->O1->Prop) (hX:∀e s,Yy w.heap.size (X e s)) (h0:I [] w) (A:Fr->α->Fr->O1->Prop) (hA:∀x E,Yy w.heap.size (A f x E))
  (hc:∀l pre x W,I pre W->WG (some l) (m - 1 - 1) P n assign (Qc6 (λhb E W'=>hb=[]/\KT w.heap.size L W W'/\I pre W'/\A f x E W') (λ_ _ _ _=>False)) [] (Qc3 f ps (encs x)) W)
  (he:∀l pre x E W,I pre W->A f x E W->pre.length<N->WG (some l) (m - 1 - 1) P n body (rdE w.heap.size L I X (pre++[x]) W) [] E W)
  (hn:∀D xs W,w.heap.size<=D->S xs->I xs W->W.heap[D]?=some (.deferred (some []))->Q .normal (D::ds) f W)
  (hf:∀D e pre W,w.heap.size<=D->Sp pre->X e pre W->W.heap[D]?=some (.deferred (some []))->(e=.ret\/∃i,e=.exit i)->Q e (D::ds) f W):
  WG none m P n (.rangeFunc g ps.toArray assign body) Q ds f w:=by
 unfold WG at hc he ⊢;intro a J;have eg:∀args w,(callFunc gf args).run P w=.ok (.enter gf args) w:=by
  intro args w;have Y:¬fn.name = "runtime.NumGoroutine" := by simpa using hF.nm
  have O:¬fn.body=none:=by have:=hF.b;intro e;rw[e]at this;cases this
  simp[callFunc,hF.f,Y,O]
 have keep:∀{W W':O1},KT w.heap.size L W W'->KeepsFrom w.heap.size W W':=λh=>⟨h.lw.size,λk o _ hk ho=>h.other k o hk ho⟩;refine wpIn_rangeFunc_ownH (F:=fen none) U Y (gf:=gf) (lb:=capt.toArray) (by rw[J.eval];exact hg) Z eg hm (λh k=>h.D k)
  (λW l o o' hl ho _ _=>⟨U,U,U,oe,λk hk _=>World.putObj_heap_other oa⟩) (Below.refl _ _) (λx=>by simp[hj x]) I
  (λc pre W=>match c with| .ret=>X .ret pre W| .exit i=>X (.exit i) pre W|_=>False) (Yy.own hI) (λc=>Yy.own λs=>?_) h0
  (λx T W=>∃E,Xd n [] T E/\A f x E W) (λx T=>Yy.own λ_=>Yy.ex λE=>Yy.and (Yy.pure _) (hA x E)) ?_ ?_ ?_ ?_
 ·cases c <;> first|exact hX _ s|exact Yy.pure _
 ·intro l pre x W K hi hK;have hr:Xd n [] { tmps:=(ps.toArray.zip (encs x).toArray).foldl (λt (p,v)=>t.setIfInBounds p v) a.tmps,defers:=[] } (Qc3 f ps (encs x)):=by
   have O:Xd n [] { a with defers:=[] } f:=⟨J.size,U,J.get⟩
   have H:=U3 ps (encs x) _ _ O hp;have e:(ps.toArray.zip (encs x).toArray).foldl (λt (p,v)=>t.setIfInBounds p v) a.tmps=(ps.zip (encs x)).foldl (λt (x:Nat×O2)=>t.setIfInBounds x.1 x.2) a.tmps:=oe
   rw[e];exact H
  refine wpIn_mono (hc l pre x W hi _ hr) ?_;rintro e T W' ⟨hb,E,O,_,H⟩;cases e with
  | normal=>obtain⟨rfl,h4,G,h6⟩:=H;exact hK T W' (keep h4) h4.lw G ⟨E,O,h6⟩
  | exit id=>exact H.elim
  | goto l=>exact H.elim
  | ret=>exact H.elim
  | panic ch=>exact H.elim
  | outgrown=>exact H.elim
 ·rintro l pre x T W _ _ hi ⟨E,O,H⟩ hq;refine wpIn_mono (he l pre x E W hi H hq T O) ?_;rintro e hs W' ⟨hb,ht,h4,_,G⟩;cases e with
  | normal=>exact⟨keep G.1,G.1.lw,G.2⟩
  | exit id=>exact⟨keep G.1,G.2⟩
  | goto l=>exact G.elim
  | ret=>exact⟨keep G.1,G.2⟩
  | panic ch=>exact G.elim
  | outgrown=>exact G.elim
 ·intro D xs W hD V hi hd;exact⟨D::ds,f,⟨J.size,by rw[show coll (D::ds)={ target:=.collected D,args:=#[] }::coll ds from rfl,J.defers],J.get⟩,λ_ _=>rfl,hn D xs W hD V hi hd⟩
 intro D c pre W hD V hx hd;have hh:Xd n (D::ds) { a with defers:={ target:=.collected D,args:=#[] }::a.defers } f:=⟨J.size,by rw[show coll (D::ds)={ target:=.collected D,args:=#[] }::coll ds from rfl,J.defers],J.get⟩
 cases c with
 | ret=>exact wpIn_ret ⟨_,f,hh,λ_ _=>U,hf D .ret pre W hD V hx hd (.inl U)⟩
 | exit i=>exact wpIn_exit ⟨_,f,hh,λ_ _=>U,hf D (.exit i) pre W hD V hx hd (.inr ⟨i,U⟩)⟩
 | _=>exact hx.elim
theorem jX {α:Type}(g:α->LV)(sz:Nat)(E:∀x,(g x).length=sz):∀(l:List α) (k:Nat),(l.flatMap g).take (k*sz)=(l.take k).flatMap g
 | [],k=>oe
 | e::l,0=>oe
 | e::l,k+1=>by
  simp only[Oe,List.take_succ_cons,Oo,Nat.one_mul];rw[Nb,OK,E,show sz+k*sz - sz=k*sz by omega,jX g sz E l k,Lt (by rw[E];omega)]
theorem QeE [Fu prog gf fn]{nms:List ByteArray}{s:ByteArray}(hk:Jp s)
  (hl:∀(w':O1) (L:LN),O5 [] w w'->(∀b∈L,w.heap.size<=b)->SeqStopsK (fen none) 9 prog gf capt.toArray (λx:{ x:ByteArray // x∈nms }=>[Value.string x.1].toArray) (Lw w'.heap.size L) (λys=>ys.map (·.1)=nms) (λ_=>True) N w'):
  Q6 prog 156 [.string s,.func (.func gf) #[] capt.toArray] w λr w'=>r=oF oG (Kd nms s)/\O5 [] w w':=by
 refine Q6.of_G 10 func156 U ntmps156 results156 oe ?_;refine Zh<|QN ol ol<|Qe<|QS (us:=[.string s]) U λb2 w1 ho hs hh=>Qe<|Qo (us:=[oF oG 0]) U λJ w2 hi ht hf=>xe ?_;have Y:=ho.D hi;have hu:=hf.lt;have hj:=hh.I hi;have hv:=hh.lt;refine Zh<|Zh<|QN ol ol<|Y7 hj U U<|ZP<|(VJ s hk _).mono ?_;rintro r3 w3 ⟨rfl,rfl⟩;refine x (Zx U)<|xe<|Ug rfl (λh8=>?_) (λh8=>?_)
 ·have hn:Y3 s=false:=by simpa using h8
  have hr:Kd nms s=7:=by unfold Kd;rw[OU hn]
  refine Zh<|QN ol ol<|Qe<|QB (j:=0) (u:=oF oG 7) hf U U og U λw4 T ha=>xe ?_;refine Vu ⟨λ_ h=>(by cases h),MM,[oF oG 7],λW' O=>⟨⟨⟨_,rfl,Xl (At.one ((ha.I O).at (L:=[]) oe))⟩,Z⟩,by rw[hr];rfl,(Y.O T oa).D O⟩⟩
 have hn:¬Y3 s=false:=by simpa using h8
 refine YN<|Zh<|Zh<|QN ol ol<|Qa<|xe<|Z9<|Qks (α:={ x:ByteArray // x∈nms }) (ps:=[10]) [J] oa (capt:=capt) U (encs:=λx=>[.string x.1]) oe (λ_=>rfl)
  (hl w3 [J] Y (λb G=>by simp at G;omega))
  (λpre W=>O5 [J] w3 W/\Zb W.heap b2 9 [.string s]/\Zb W.heap J 47 [oF oG 0]/\∀x∈pre,x.1≠s)
  (λpre=>(Yy.J (Lu _)).and (Yy.blk.and (Yy.blk.and (Yy.pure _))))
  (λe pre W=>e=.ret/\O5 [J] w3 W/\Zb W.heap J 47 [oF oG 8]/\s∈nms)
  (λe pre=>(Yy.pure _).and ((Yy.J (Lu _)).and (Yy.blk.and (Yy.pure _))))
  ⟨O5.Z _ _,hj,hf,λx hx=>by cases hx⟩
  (λf x f' W=>f'=upd (Qc3 f [10] [.string x.1]) 5 (.string x.1)) (λx f'=>Yy.pure _) ?_ ?_ ?_ ?_
 ·rintro l pre x W ⟨H,h2,I,V⟩;refine QN ol ol<|Lg.Qb<|⟨U,KT.refl _ _ _,⟨H,h2,I,V⟩,U⟩
 ·rintro l pre x f' W ⟨H,h2,I,V⟩ rfl _;refine Z9<|Zh<|QN ol ol<|Lg.Qa<|Lg.x (Qq h2 U U)<|Lg.x (XC U U)<|xe<|QmU U (λhg=>?_) (λhg=>?_)
  ·refine Zh<|QN ol ol<|Qe<|QB (j:=0) (u:=oF oG 8) I U U og U λw4 T ha=>xe ?_;refine Vu ?_;exact⟨KT.blk T H.size I (.inl oe),rfl,H.Q T,ha,by rw[<-hg];exact x.2⟩
  refine YN<|⟨KT.refl _ _ _,H,h2,I,λy S=>?_⟩;rcases Lc.1 S with S|S
  ·exact V y S
  simp only[oI]at S;subst S;exact hg
 ·rintro D xs W hD hp ⟨H,h2,I,V⟩ hc;have hr:Kd nms s=0:=by
   unfold Kd;rw[OT hn,OT];intro hm;rw[<-hp]at hm;obtain⟨y,S,e⟩:=LC.1 hm;exact V y S e
  refine Zh<|QN ol ol<|Qe<|QB (j:=0) (u:=oF oG 0) I U U og U λw4 T ha=>xe ?_;have he:D≠J:=oa
  have hq:w4.heap[D]?=some (.deferred (some [])):=by rw[T.block D (LG.1 hc).1 (oz he)];exact hc
  refine Vu ⟨λE hE=>by simp only[oI]at hE;subst hE;exact hq,oe,[oF oG 0],λW' O=>?_⟩;refine⟨⟨⟨_,U,Xl (At.one ((ha.J O (oz he.symm)).at (L:=[]) oe))⟩,Z⟩,by rw[hr];rfl,?_⟩;exact((Y.then H (λb G=>.inr (by simp at G;omega))).O T oa).then O (λb G=>.inr (by simp at G;have:=Y.size;omega))
 rintro D e pre W hD _ ⟨rfl,H,I,V⟩ hc _;have hr:Kd nms s=8:=by unfold Kd;rw[OT hn,OU V]
 have he:D≠J:=oa
 refine⟨λE hE=>by simp only[oI]at hE;subst hE;exact hc,oe,[oF oG 8],λW' O=>?_⟩;refine⟨⟨⟨_,U,Xl (At.one ((I.J O (oz he.symm)).at (L:=[]) oe))⟩,Z⟩,by rw[hr];rfl,?_⟩;exact(Y.then H (λb G=>.inr (by simp at G;omega))).then O (λb G=>.inr (by simp at G;have:=Y.size;omega))
theorem JU.pre3 {m:Nat}{o1 o2 o3:Oper}{l2:xE}(h:XL P ops (λf w=>JU P m ops K l2 f w) [o1,o2,o3] f w):JU P m ops K (o1::o2::o3::l2) f w:=JU.pre [o1,o2,o3] f w h
theorem Qjd {m:Nat}{qs:List XV}{nms:List ByteArray}(ho:Zb w.heap b1 206 [vs,vx,vk])(hp:Zb w.heap b2 3 [oF oG i])(Y:yY L w.heap vx qs)(hi:i<=qs.length)(hn:nms=(qs.take i).map (·.nm)):
  SeqStopsK (fen none) m prog 155 #[.pointer (some ⟨b1,0,none⟩),.pointer (some ⟨b2,0,none⟩)] (λx:{ x:ByteArray // x∈nms }=>[Value.string x.1].toArray) (Lw w.heap.size L)
   (λys=>ys.map (·.1)=nms) (λ_=>True) (nms.length+1) w:=by
 intro l J Jx W hr hJ hs hY h0;have ha:O5 [] w W:=O5.of_below hr;have ab:∀{ys:List { x:ByteArray // x∈nms }} {W1 W2:O1},J ys W1->O5 [] W1 W2->J ys W2:=λ{ys W1 W2} hj H=>hJ ys W1 W2 none hj ⟨H.os,H.tape,H.output,H.size,λk I _=>H.block k I oe⟩ (λr e=>by cases e);have h8:=Y.arr.le;have h9:nms.length=i:=by rw[hn];simp;omega
 have key:Q6 prog 155 [.func (.yield l) #[] #[],.pointer (some ⟨b1,0,none⟩),.pointer (some ⟨b2,0,none⟩)] W (λ_ W'=>(∃ys,ys.map (·.1)=nms/\J ys W')\/(∃pre,True/\Jx pre W')):=by
  refine Q6.of_G m func155 U ntmps155 results155 oe ?_;have ht:=ho.I ha;have hu:=hp.I ha;refine Zh<|QN ol ol<|Qs U ht U U<|Y7 hu U U<|Qnr Y.arr U U hi λv9 hg=>QK hg U<|Qa<|xe ?_;have hv:(qs.take i).length=i:=by simp;omega
  have hS:Zn L w.heap v9 (qs.take i).length 2 ((qs.take i).flatMap Q8):=by
   rw[hv,<-jX Q8 2 Xz];exact hg
  refine Z9<|qI (α:=Nat×List { x:ByteArray // x∈nms }) [(5,5),(11,20)] (λz=>[(11,oF oG z.1)]) (λz ds W'=>ds=[]/\z.1<=i/\O5 L w W'/\z.2.map (·.1)=nms.take z.1/\J z.2 W') (λz=>i - z.1) ol (0,[]) La
   ⟨U,Ln _,ha.any,U,h0⟩ ?_
  rintro⟨k,ys⟩ g ds w1 ⟨rfl,I,hh,O,hb⟩;simp only[]at I O hb;refine Zh<|QN ol ol<|QZ U U<|xe<|Zh<|Qaq U (λhl=>?_) (λhl=>?_)
  ·refine Vv ?_;rw[Lt oa]at O;exact⟨λ_ h=>(by cases h),MM,[],λW' E=>⟨Z,.inl ⟨ys,O,ab hb E⟩⟩⟩
  refine YN ?_;have hw:k<i:=by have hc:(k:Int)<(i:Int):=hl;omega
  have T:k<(qs.take i).length:=oa
  have V:k<nms.length:=oa
  have hf:nms.take (k+1)=nms.take k++[nms[k]'V]:=Lm V;have hA:ys.length=k:=by have:=OV oP O;rw[Lh,Ly]at this;omega
  have hy:nms[k]'V=((qs.take i)[k]'T).nm:=by subst hn;simp
  have S:=Ll V;rw[hy]at hf S;refine Zh<|Z9<|Zh<|QN ol ol<|O8 Xz (i:=k) (hS.st hh) U U T λhB hc=>?_;refine Zk ((qs.take i)[k]'T) λq hq=>?_;rw[hq]at hc hf S;have hz:=(Y.each q (LX (by rw[<-hq];exact Ll T))).one;refine x (Qx hc U U)<|Qe<|Qo (us:=[.string .empty,nS]) U λb5 w2 h2 h3 h4=>Qe<|Qj (us:=Q8 q) h4 U U U U ⟨U,hz,Z⟩ λw3 h5 h6=>xe ?_;have hm:O5 [] w1 w3:=h2.O h5 h3;refine Zh<|VK ol ?_;refine JU.pre3 ?_;refine Qa<|Qs U h6 U U<|xe<|xy (l:=l) U (hY ys ⟨q.nm,S⟩ w3 (ab hb hm) oa) λen W3 h7=>Or.elim h7 (λG=>⟨.bool true,G.1,?_⟩) (λG=>⟨.bool false,G.1,?_⟩)
  ·refine JU.of_XL<|x (Zx U)<|xe<|VL U<|YN ?_;refine QN ol ol<|QP U U<|Qa<|xe ?_;exact⟨(k+1,ys++[⟨q.nm,S⟩]),oh,La,U,hw,(hh.D hm).lw G.2.2,by rw[hf,Ls,O];rfl,G.2.1⟩
  refine JU.of_XL<|x (Zx U)<|xe<|Qbj U ?_;refine Vu ⟨λ_ h=>(by cases h),MM,[],λW' E=>⟨Z,.inr ⟨ys++[⟨q.nm,S⟩],Z,?_⟩⟩⟩;exact hs _ W3 W' none G.2 ⟨E.os,E.tape,E.output,E.size,λk I _=>E.block k I oe⟩ (λr e=>by cases e)
 refine(callsIn_wide (n:=m)).2 ?_;have ea:(#[.func (.yield l) #[] #[]]++[.pointer (some ⟨b1,0,none⟩),.pointer (some ⟨b2,0,none⟩)].toArray:Array O2)=#[.func (.yield l) #[] #[],.pointer (some ⟨b1,0,none⟩),.pointer (some ⟨b2,0,none⟩)]:=oe
 rw[ea];unfold Q6 at key;refine Calls.mono key λe w' he=>?_;cases e with
 | returned v=>exact⟨⟨v,U⟩,he⟩
 | panicked c=>exact he.elim
 | outgrown=>exact he.elim
theorem QjE {m:Nat}{qs:List KV}{nms:List ByteArray}(ho:Zb w.heap b1 206 [vs,vx,vk])(hp:Zb w.heap b2 3 [oF oG i])(Y:yT L w.heap vk qs)(hi:i<=qs.length)(hn:nms=(qs.take i).map (·.nm)):
  SeqStopsK (fen none) m prog 158 #[.pointer (some ⟨b1,0,none⟩),.pointer (some ⟨b2,0,none⟩)] (λx:{ x:ByteArray // x∈nms }=>[Value.string x.1].toArray) (Lw w.heap.size L)
   (λys=>ys.map (·.1)=nms) (λ_=>True) (nms.length+1) w:=by
 intro l J Jx W hr hJ hs hY h0;have ha:O5 [] w W:=O5.of_below hr;have ab:∀{ys:List { x:ByteArray // x∈nms }} {W1 W2:O1},J ys W1->O5 [] W1 W2->J ys W2:=λ{ys W1 W2} hj H=>hJ ys W1 W2 none hj ⟨H.os,H.tape,H.output,H.size,λk I _=>H.block k I oe⟩ (λr e=>by cases e);have h8:=Y.arr.le;have h9:nms.length=i:=by rw[hn];simp;omega
 have key:Q6 prog 158 [.func (.yield l) #[] #[],.pointer (some ⟨b1,0,none⟩),.pointer (some ⟨b2,0,none⟩)] W (λ_ W'=>(∃ys,ys.map (·.1)=nms/\J ys W')\/(∃pre,True/\Jx pre W')):=by
  refine Q6.of_G m func158 U ntmps158 results158 oe ?_;have ht:=ho.I ha;have hu:=hp.I ha;refine Zh<|QN ol ol<|Qs U ht U U<|Y7 hu U U<|Qnr Y.arr U U hi λv9 hg=>QK hg U<|Qa<|xe ?_;have hv:(qs.take i).length=i:=by simp;omega
  have hS:Zn L w.heap v9 (qs.take i).length 3 ((qs.take i).flatMap Zd):=by
   rw[hv,<-jX Zd 3 Xp];exact hg
  refine Z9<|qI (α:=Nat×List { x:ByteArray // x∈nms }) [(5,5),(11,20)] (λz=>[(11,oF oG z.1)]) (λz ds W'=>ds=[]/\z.1<=i/\O5 L w W'/\z.2.map (·.1)=nms.take z.1/\J z.2 W') (λz=>i - z.1) ol (0,[]) La
   ⟨U,Ln _,ha.any,U,h0⟩ ?_
  rintro⟨k,ys⟩ g ds w1 ⟨rfl,I,hh,O,hb⟩;simp only[]at I O hb;refine Zh<|QN ol ol<|QZ U U<|xe<|Zh<|Qaq U (λhl=>?_) (λhl=>?_)
  ·refine Vv ?_;rw[Lt oa]at O;exact⟨λ_ h=>(by cases h),MM,[],λW' E=>⟨Z,.inl ⟨ys,O,ab hb E⟩⟩⟩
  refine YN ?_;have hw:k<i:=by have hc:(k:Int)<(i:Int):=hl;omega
  have T:k<(qs.take i).length:=oa
  have V:k<nms.length:=oa
  have hf:nms.take (k+1)=nms.take k++[nms[k]'V]:=Lm V;have hA:ys.length=k:=by have:=OV oP O;rw[Lh,Ly]at this;omega
  have hy:nms[k]'V=((qs.take i)[k]'T).nm:=by subst hn;simp
  have S:=Ll V;rw[hy]at hf S;refine Zh<|Z9<|Zh<|QN ol ol<|O8 Xp (i:=k) (hS.st hh) U U T λhB hc=>?_;refine Zk ((qs.take i)[k]'T) λq hq=>?_;rw[hq]at hc hf S;have hz:=(Y.each q (LX (by rw[<-hq];exact Ll T))).one;refine x (Qx hc U U)<|Qe<|Qo (us:=[.string .empty,nS,oF oG 0]) U λb5 w2 h2 h3 h4=>Qe<|Qj (us:=Zd q) h4 U U U U ⟨U,hz,U,Z⟩ λw3 h5 h6=>xe ?_;have hm:O5 [] w1 w3:=h2.O h5 h3;refine Zh<|VK ol ?_;refine JU.pre3 ?_;refine Qa<|Qs U h6 U U<|xe<|xy (l:=l) U (hY ys ⟨q.nm,S⟩ w3 (ab hb hm) oa) λen W3 h7=>Or.elim h7 (λG=>⟨.bool true,G.1,?_⟩) (λG=>⟨.bool false,G.1,?_⟩)
  ·refine JU.of_XL<|x (Zx U)<|xe<|VL U<|YN ?_;refine QN ol ol<|QP U U<|Qa<|xe ?_;exact⟨(k+1,ys++[⟨q.nm,S⟩]),oh,La,U,hw,(hh.D hm).lw G.2.2,by rw[hf,Ls,O];rfl,G.2.1⟩
  refine JU.of_XL<|x (Zx U)<|xe<|Qbj U ?_;refine Vu ⟨λ_ h=>(by cases h),MM,[],λW' E=>⟨Z,.inr ⟨ys++[⟨q.nm,S⟩],Z,?_⟩⟩⟩;exact hs _ W3 W' none G.2 ⟨E.os,E.tape,E.output,E.size,λk I _=>E.block k I oe⟩ (λr e=>by cases e)
 refine(callsIn_wide (n:=m)).2 ?_;have ea:(#[.func (.yield l) #[] #[]]++[.pointer (some ⟨b1,0,none⟩),.pointer (some ⟨b2,0,none⟩)].toArray:Array O2)=#[.func (.yield l) #[] #[],.pointer (some ⟨b1,0,none⟩),.pointer (some ⟨b2,0,none⟩)]:=oe
 rw[ea];unfold Q6 at key;refine Calls.mono key λe w' he=>?_;cases e with
 | returned v=>exact⟨⟨v,U⟩,he⟩
 | panicked c=>exact he.elim
 | outgrown=>exact he.elim
theorem yB {sz:LI}{qx:List XV}{ks:List KV}(hS:QQ [] w.heap vs sz)(hX:yY [] w.heap vx qx)(hK:yT [] w.heap vk ks):
  Q6 prog 84 [.agg #[vs,vx,vk]] w λr w'=>r=oF oG (Yw sz (qx.map (·.x)) (ks.map (·.k)))/\O5 [] w w':=by
 have hW:=hS.le;have hY:=hX.arr.le;have hZ:=hK.arr.le;refine Zq func84 ?_;refine Qc<|Qe<|QS (us:=[vs,vx,vk]) U λb1 w1 G ga T=>Qb<|Qd<|Qc<|Qs U T U U<|QK (hS.I G) U<|x (Z7 U U)<|xe<|QY rfl (λh0=>?_) (λh0=>?_)
 ·refine Qc<|Qb<|Qk ⟨[_],La,by unfold Yw;rw[OU (by have hO:(8:Int)<(sz.length:Int):=h0;omega)];rfl,G⟩
 have hy:¬8<sz.length:=by have hO:¬(8:Int)<(sz.length:Int):=h0;omega
 refine Qh<|Qd<|Qc<|Qs U T U U<|QK (hS.I G) U<|Qa<|xe<|Qf<|QD (α:=Nat) [(2,2),(4,4),(22,32)] (λz=>[(22,oF oG z)]) (λz w'=>z<=sz.length/\w'=w1/\(sz.drop z).any Ku=sz.any Ku) (λz=>sz.length - z) ol 0 La
  ⟨Ln _,U,U⟩ ?_
 rintro k g w2 ⟨hk,rfl,ha⟩;refine Qc<|QZ U U<|xe<|Qd<|QG U (λh1=>?_) (λh1=>?_)
 ·refine Qy ?_;have hj:sz.length<=k:=by have hz:¬(k:Int)<(sz.length:Int):=h1;omega
  rw[Lq hj]at ha;have h2:¬sz.any Ku=true:=by rw[<-ha];decide
  refine Qd<|Q3 (α:=Bool) [(33,42)] (λz=>[(42,.bool z)]) (λz w'=>w'=w2/\z=decide (32<qx.length\/32<ks.length)) ol ?_ ?_
  ·refine Qw<|Qs U T U U<|QK (hX.I G).arr U<|xb (Z7 U U) (λhP=>?_) (λhP=>?_)
   ·refine Qa<|Qr<|Qr<|Qr<|Qr<|QH U<|xe ?_;exact⟨_,La,U,by first|exact bT oa|exact bF oa|exact bD oa⟩
   refine Qa<|Qs U T U U<|QK (hK.I G).arr U<|x (Z7 U U)<|QH U<|xe ?_;exact⟨_,La,U,by first|exact bT oa|exact bF oa|exact bD oa⟩
  rintro z g V ⟨rfl,rfl⟩;refine QY U (λh3=>?_) (λh3=>?_)
  ·refine Qc<|Qb<|Qk ⟨[_],La,by unfold Yw;rw[OT hy,OT h2,OU (oz h3)];rfl,G⟩
  have hJ:¬(32<(qx.map (·.x)).length\/32<(ks.map (·.k)).length):=by simpa using h3
  have hM:Yq sz [] (qx.map (·.x))≠0->Yw sz (qx.map (·.x)) (ks.map (·.k))=Yq sz [] (qx.map (·.x)):=λh=>by
   unfold Yw;rw[OT hy,OT h2,OT hJ,OU h]
  have hQ:Yq sz [] (qx.map (·.x))=0->Yw sz (qx.map (·.x)) (ks.map (·.k))=Y6 sz [] (ks.map (·.k)):=λh=>by
   unfold Yw;rw[OT hy,OT h2,OT hJ,OT (by rw[h];exact λh=>h U)]
  refine Qh<|Qd<|Qc<|Qs U (T.I (O5.Z [] V)) U U<|QK ((hX.I G).I (O5.Z [] V)).arr U<|Qa<|xe<|Qf<|QD (α:=Nat) [(2,2),(5,9),(46,65)] (λz=>[(46,oF oG z)]) (λz w'=>z<=qx.length/\O5 [] V w'/\Yq sz ((qx.take z).map (·.nm)) ((qx.drop z).map (·.x))=Yq sz [] (qx.map (·.x))) (λz=>qx.length - z) ol 0 La
   ⟨Ln _,(O5.Z [] V),U⟩ ?_
  rintro k g wA ⟨hk,H,I⟩;refine Qc<|QZ U U<|xe<|Qd<|QG U (λhc=>?_) (λhc=>?_)
  ·refine Qy ?_;have hj:qx.length<=k:=by have h4:¬(k:Int)<(qx.length:Int):=hc;omega
   rw[Lq hj]at I;have hR:Yq sz [] (qx.map (·.x))=0:=I.symm;have h5:=hQ hR;refine Qd<|Qc<|Qs U (T.I H) U U<|QK ((hK.I G).I H).arr U<|Qa<|xe<|Qf<|QD (α:=Nat) [(2,2),(10,14),(69,88)] (λz=>[(69,oF oG z)]) (λz w'=>z<=ks.length/\O5 [] V w'/\Y6 sz ((ks.take z).map (·.nm)) ((ks.drop z).map (·.k))=Y6 sz [] (ks.map (·.k))) (λz=>ks.length - z) ol 0 La
    ⟨Ln _,H,U⟩ ?_
   rintro k g wA ⟨hk,H,I⟩;refine Qc<|QZ U U<|xe<|Qd<|QG U (λhc=>?_) (λhc=>?_)
   ·refine Qy ?_;have hj:ks.length<=k:=by have h4:¬(k:Int)<(ks.length:Int):=hc;omega
    rw[Lq hj]at I;have hT:Y6 sz [] (ks.map (·.k))=0:=I.symm;refine Qc<|Qb<|Qk ⟨[_],La,by rw[h5,hT];rfl,G.D H⟩
   have E:k<ks.length:=by have h4:(k:Int)<(ks.length:Int):=hc;omega
   have hl:(ks.take (k+1)).map (·.nm)=(ks.take k).map (·.nm)++[(ks[k]'E).nm]:=by rw[Lm E,Ls];rfl
   rw[Zg E,LK]at I;have he:=Ll E;have J:=(hK.I G).I H;have h6:=T.I H;refine Qh<|Qd<|Qf<|Qm<|O8 Xp J.arr U U E λaA hA=>?_;refine Zk (ks[k]'E) λq hq=>?_;rw[hq]at hA I hl he;have hm:=J.each q he;refine x (Qx hA U U)<|Qe<|Qo (us:=[oF oG 0]) U λb5 V ho h7 hf=>Qe<|Qo (us:=[.string .empty,nS,oF oG 0]) U λb6 w4 hp hU h8 =>
    Qe<|QB (j:=0) (u:=oF oG k) (hf.I hp) U U og U λw5 hr h9=>Qe<|Qj (us:=Zd q) (h8.J hr (by have:=hf.lt;simp;omega)) U U U U ⟨U,hm.one,U,Z⟩ λw6 hs ht=>xe ?_
   have hV:b5<b6:=by have:=hf.lt;omega
   have hg:O5 [] wA w6:=((ho.D hp).O hr h7).O hs (ou ho.size);have hB:Zb w6.heap b5 3 [oF oG k]:=h9.J hs (by simp;omega);have hu:=h6.I hg;have hC:=J.I hg;refine Qc<|x Zy<|Qb<|Qd<|Qc<|Qs U ht U U<|Qa<|ZP<|(QeE (nms:=(ks.take k).map (·.nm)) (capt:=[.pointer (some ⟨b1,0,none⟩),.pointer (some ⟨b5,0,none⟩)]) (J.nm q he) (λw' L hh hL=>QjE (hu.I hh) (hB.I hh) ((hC.up (λb hb=>.inr (hL b hb))).I hh) hk U)).mono ?_;rintro r7 w7 ⟨rfl,hi⟩;refine Qb ?_;have O:=hg.D hi;refine Qm<|ZA U U<|xe<|QY U (λY=>?_) (λY=>?_)
   ·have e1:Y6 sz [] (ks.map (·.k))=Kd ((ks.take k).map (·.nm)) q.nm:=by rw[<-I];exact OU Y
    refine Qm<|Qb<|Qk ⟨[_],La,by rw[h5,e1];rfl,G.D (H.D O)⟩
   have hv:(if Xx sz q.k≠0 then Xx sz q.k else Y6 sz ((ks.take k).map (·.nm)++[q.nm]) ((ks.drop (k+1)).map (·.k)))=Y6 sz [] (ks.map (·.k)):=by rw[<-I];exact(OT Y).symm
   refine Qh ?_;have hD:=hu.I hi;have hE:=ht.I hi;refine Qc<|Q5 hD U U<|Q5 hE U U<|ZP<|(Ue (((hS.I G).I H).I O) (hm.I O)).mono ?_;rintro r8 w8 ⟨rfl,hF⟩;refine Qb ?_;have hw:=O.D hF;refine Qm<|ZA U U<|xe<|QY U (λS=>?_) (λS=>?_)
   ·have e1:Y6 sz [] (ks.map (·.k))=Xx sz q.k:=by rw[<-hv];exact OU S
    have hN:Xx sz q.k≠0:=S;refine Qm<|Qb<|Qk ⟨[_],La,by rw[h5,e1];rfl,G.D (H.D hw)⟩
   have hG:Y6 sz ((ks.take k).map (·.nm)++[q.nm]) ((ks.drop (k+1)).map (·.k))=Y6 sz [] (ks.map (·.k)):=by rw[<-hv];exact(OT S).symm
   refine Qh<|Qw<|QP U U<|Qa<|xe ?_;exact⟨k+1,oa,La,E,H.D hw,by rw[hl];exact hG⟩
  have E:k<qx.length:=by have h4:(k:Int)<(qx.length:Int):=hc;omega
  have hl:(qx.take (k+1)).map (·.nm)=(qx.take k).map (·.nm)++[(qx[k]'E).nm]:=by rw[Lm E,Ls];rfl
  rw[Zg E,LK]at I;have he:=Ll E;have J:=(hX.I G).I H;have h6:=T.I H;refine Qh<|Qd<|Qf<|Qm<|O8 Xz J.arr U U E λaA hA=>?_;refine Zk (qx[k]'E) λq hq=>?_;rw[hq]at hA I hl he;have hm:=J.each q he;refine x (Qx hA U U)<|Qe<|Qo (us:=[oF oG 0]) U λb5 V ho h7 hf=>Qe<|Qo (us:=[.string .empty,nS]) U λb6 w4 hp hU h8 =>
   Qe<|QB (j:=0) (u:=oF oG k) (hf.I hp) U U og U λw5 hr h9=>Qe<|Qj (us:=Q8 q) (h8.J hr (by have:=hf.lt;simp;omega)) U U U U ⟨U,hm.one,Z⟩ λw6 hs ht=>xe ?_
  have hV:b5<b6:=by have:=hf.lt;omega
  have hg:O5 [] wA w6:=((ho.D hp).O hr h7).O hs (ou ho.size);have hB:Zb w6.heap b5 3 [oF oG k]:=h9.J hs (by simp;omega);have hu:=h6.I hg;have hC:=J.I hg;refine Qc<|x Zy<|Qb<|Qd<|Qc<|Qs U ht U U<|Qa<|ZP<|(QeE (nms:=(qx.take k).map (·.nm)) (capt:=[.pointer (some ⟨b1,0,none⟩),.pointer (some ⟨b5,0,none⟩)]) (J.nm q he) (λw' L hh hL=>Qjd (hu.I hh) (hB.I hh) ((hC.up (λb hb=>.inr (hL b hb))).I hh) hk U)).mono ?_;rintro r7 w7 ⟨rfl,hi⟩;refine Qb ?_;have O:=hg.D hi;refine Qm<|ZA U U<|xe<|QY U (λY=>?_) (λY=>?_)
  ·have e1:Yq sz [] (qx.map (·.x))=Kd ((qx.take k).map (·.nm)) q.nm:=by rw[<-I];exact OU Y
   refine Qm<|Qb<|Qk ⟨[_],La,by rw[hM (by rw[e1];exact Y),e1];rfl,G.D (H.D O)⟩
  have hv:(if Jd sz q.ls≠0 then Jd sz q.ls else Yq sz ((qx.take k).map (·.nm)++[q.nm]) ((qx.drop (k+1)).map (·.x)))=Yq sz [] (qx.map (·.x)):=by rw[<-I];exact(OT Y).symm
  refine Qh ?_;have hD:=hu.I hi;have hE:=ht.I hi;refine Qc<|Q5 hD U U<|Q5 hE U U<|ZP<|(UM (((hS.I G).I H).I O) (hm.I O)).mono ?_;rintro r8 w8 ⟨rfl,hF⟩;refine Qb ?_;have hw:=O.D hF;refine Qm<|ZA U U<|xe<|QY U (λS=>?_) (λS=>?_)
  ·have e1:Yq sz [] (qx.map (·.x))=Jd sz q.ls:=by rw[<-hv];exact OU S
   have hN:Jd sz q.ls≠0:=S;refine Qm<|Qb<|Qk ⟨[_],La,by rw[hM (by rw[e1];exact hN),e1];rfl,G.D (H.D hw)⟩
  have hG:Yq sz ((qx.take k).map (·.nm)++[q.nm]) ((qx.drop (k+1)).map (·.x))=Yq sz [] (qx.map (·.x)):=by rw[<-hv];exact(OT S).symm
  refine Qh<|Qw<|QP U U<|Qa<|xe ?_;exact⟨k+1,oa,La,E,H.D hw,by rw[hl];exact hG⟩
 have E:k<sz.length:=by have hz:(k:Int)<(sz.length:Int):=h1;omega
 rw[Zg E,List.any_cons]at ha;refine Qh<|Qd<|Qf<|Qc<|xii (hS.I G) U U E λgb hz=>?_;refine Zk (sz[k]'E) λn hn=>?_;rw[hn]at hz ha;refine x (QA hz U)<|Qb<|Q3 (α:=Bool) [(26,31)] (λz=>[(31,.bool z)]) (λz w'=>w'=w2/\z=Ku n) ol ?_ ?_
 ·refine Qw<|Qa<|xb (YQ U U) (λhH=>?_) (λhH=>?_)
  ·refine Qa<|Qr<|Qr<|QH U<|xe ?_;exact⟨_,La,U,by unfold Ku;rw[OX hH];rfl⟩
  refine Qa<|Qa<|x (Z7 U U)<|QH U<|xe ?_;exact⟨_,La,U,by unfold Ku;rw[OZ hH];rfl⟩
 rintro z g V ⟨rfl,rfl⟩;refine QX rfl (λhI=>?_) (λhI=>?_)
 ·refine Qc<|Qb<|Qk ⟨[_],La,by unfold Yw;rw[OT hy,OU (by rw[<-ha,hI];rfl)];rfl,G⟩
 rw[hI,Bool.false_or]at ha;refine Qh<|Qw<|QP U U<|Qa<|xe ?_;exact⟨k+1,oa,La,E,U,ha⟩
theorem Ym (q:α->Bool)(i:Nat)(a:α)(l:List α):fix q i (a::l)=if q a=true then(i:Int)else fix q (i+1) l:=rfl
theorem QdF {α:Type}(q:α->Bool):∀(l:List α) (i:Nat),fix q i l=-1\/((i:Int)<=fix q i l/\fix q i l<(i:Int)+l.length)
 | [],i=>.inl U
 | a::l,i=>by
  rw[Ym];split
  ·right;simp only[oW];omega
  rcases QdF q l (i+1)with h|h
  ·exact .inl h
  right;simp only[oW];omega
theorem Qa4 {α:Type}(q:α->Bool):∀(l:List α) (i:Nat),decide (0<=fix q i l)=l.any q
 | [],i=>rfl
 | a::l,i=>by
  rw[Ym,List.any_cons];cases h:q a with
  | true=>rw[OU rfl];simp
  | false=>rw[OT og,Qa4 q l (i+1)];rfl
theorem yy {α:Type}(q:α->Bool)(m:List α):∀(l:List α) (i:Nat),fix q i (l++m)=if 0<=fix q i l then fix q i l else fix q (i+l.length) m
 | [],i=>by
  show fix q i m=if(0:Int)<=-1 then(-1)else fix q i m
  rw[OT og]
 | a::l,i=>by
  rw[Ml,Ym,Ym];by_cases h:q a=true
  ·rw[OU h,OU h,OU oa]
  rw[OT h,OT h,yy q m l (i+1),LS];rw[show i+1+l.length=i+(l.length+1) by omega]
theorem jZ {α:Type}(q:α->Bool)(d:Nat):∀(l:List α) (i:Nat),fix q (i+d) l=if 0<=fix q i l then fix q i l+d else -1
 | [],i=>rfl
 | a::l,i=>by
  rw[Ym,Ym];by_cases h:q a=true
  ·rw[OU h,OU h,OU oa];omega
  rw[OT h,OT h,show i+d+1=(i+1)+d by omega,jZ q d l (i+1)]
theorem VA {α β:Type}(q:β->Bool)(g:α->β):∀(l:List α) (i:Nat),fix q i (l.map g)=fix (λa=>q (g a)) i l
 | [],i=>rfl
 | a::l,i=>by rw[LK,Ym,Ym,VA q g l (i+1)]
theorem Qgm {α:Type}{q E:α->Bool}:∀{l:List α}{i:Nat},(∀a∈l,q a=E a)->fix q i l=fix E i l
 | [],i,_=>rfl
 | a::l,i,h=>by rw[Ym,Ym,h a Lr,Qgm (λb G=>h b (Lj _ G))]
theorem Qoo [Fu prog gp fn]{cap:LV}{q:(Int×Int)->Bool}{v:O2}{l:xx}(h:Zn L w.heap v l.length 2 (l.flatMap QI))
  (Y:∀e∈l,∀(G:O1),O5 [] w G->Q6 prog gp ([.agg (QI e).toArray]++cap) G λr w'=>r=.bool (q e)/\O5 [] G w'):
  Q6 prog 332 [v,.func (.func gp) #[] cap.toArray] w λr w'=>r=oF oG (fix q 0 l)/\O5 [] w w':=by
 have hc:=h.le;refine Zq func332 ?_;refine Qc<|Qb<|Qd<|Qm<|QK h U<|Qa<|xe<|Qf<|QD (α:=Nat) [(4,5),(8,18)] (λz=>[(8,oF oG z)]) (λz w'=>z<=l.length/\O5 [] w w'/\fix q z (l.drop z)=fix q 0 l) (λz=>l.length - z) ol 0 La
  ⟨Ln _,O5.Z _ _,U⟩ ?_
 rintro k g G ⟨hk1,H,E⟩;refine Qc<|QZ U U<|xe<|Qd<|QG U (λJ=>?_) (λJ=>?_)
 ·refine Qy ?_;have ha:l.length<=k:=by have hb:¬(k:Int)<(l.length:Int):=J;omega
  rw[Lq ha]at E;refine Qc<|Qb<|Qk ⟨[_],La,by rw[<-E];rfl,H⟩
 have I:k<l.length:=by have hb:(k:Int)<(l.length:Int):=J;omega
 rw[Zg I,Ym]at E;have S:=Ll I;refine Qh<|Qd<|Qf<|Qm<|Qb<|Qm<|Qa<|Qa<|O8 YA (h.I H) U U I λhf T=>?_;refine Zk (l[k]'I) λe he=>?_;rw[he]at T E S;refine x (Qx T U U)<|Qe<|xc (first:=[]) (capt:=cap) U<|(Y e S G H).mono ?_;rintro r2 w2 ⟨rfl,V⟩;refine xe<|QX rfl (λO=>?_) (λO=>?_)
 ·rw[OU O]at E;refine Qm<|Qb<|Qk ⟨[_],La,by rw[<-E];rfl,H.D V⟩
 rw[OT (by rw[O];decide)]at E;refine Qh<|Qw<|QP U U<|Qa<|xe ?_;exact⟨k+1,oa,La,I,H.D V,E⟩
theorem QoX [Fu prog gp fn]{cap:LV}{q:(Int×Int)->Bool}{v:O2}{l:xx}(h:Zn L w.heap v l.length 2 (l.flatMap QI))
  (G:∀e∈l,∀(E:O1),O5 [] w E->Q6 prog gp ([.agg (QI e).toArray]++cap) E λr w'=>r=.bool (q e)/\O5 [] E w'):
  Q6 prog 296 [v,.func (.func gp) #[] cap.toArray] w λr w'=>r=.bool (l.any q)/\O5 [] w w':=by
 refine Zq func296 ?_;refine Qc<|Qb<|Qm<|Qa<|ZP<|(Qoo h G).mono ?_;rintro I E ⟨rfl,H⟩;refine x (Ys U U)<|Qb<|Qk ⟨[_],La,OV Value.bool (Qa4 q l 0),H⟩
theorem Uc (sz:LI):∀(ls:xx) (pr:Option Int),XW sz pr ls=0->(∀p∈ls,0<=p.1/\p.1<(sz.length:Int))/\YY (ls.map (·.1))/\∀y,pr=some y->∀p∈ls,y<p.1
 | [],pr,_=>⟨λp E=>(by cases E),List.Pairwise.nil,λy _ p E=>(by cases E)⟩
 | l::ls,pr,h=>by
  unfold XW at h;split at h
  ·cases h
  rename_i T;split at h
  ·cases h
  rename_i H;split at h
  ·cases h
  obtain⟨I,J,O⟩:=Uc sz ls (some l.1) h;have G:=O l.1 U;refine⟨λp E=>?_,L3.2 ⟨λx hx=>?_,J⟩,λy S p E=>?_⟩
  ·rcases Li.1 E with rfl|E
   ·omega
   exact I p E
  ·obtain⟨p,E,rfl⟩:=LC.1 hx;exact G p E
  subst S;have V:¬l.1<=y:=λe=>H (OX e);rcases Li.1 E with rfl|E
  ·omega
  have:=G p E;omega
theorem Ua (sz:LI):∀(ls:xx) (pr:Option Int),J6 sz pr ls=0->(∀p∈ls,0<=p.1/\p.1<(sz.length:Int)/\-65536<=p.2/\p.2<=65536)/\YY (ls.map (·.1))/\∀y,pr=some y->∀p∈ls,y<p.1
 | [],pr,_=>⟨λp E=>(by cases E),List.Pairwise.nil,λy _ p E=>(by cases E)⟩
 | l::ls,pr,h=>by
  unfold J6 at h;split at h
  ·cases h
  rename_i h1;split at h
  ·cases h
  rename_i I;split at h
  ·cases h
  rename_i J;obtain⟨O,S,T⟩:=Ua sz ls (some l.1) h;have G:=T l.1 U;have H:grt l.2=false:=by cases V:grt l.2 with|true=>exact OW (.inr V) J|false=>rfl
  unfold grt at H;simp only[Oh,decide_eq_false_iff_not]at H;refine⟨λp E=>?_,L3.2 ⟨λx hx=>?_,S⟩,λy Y p E=>?_⟩
  ·rcases Li.1 E with rfl|E
   ·omega
   exact O p E
  ·obtain⟨p,E,rfl⟩:=LC.1 hx;exact G p E
  subst Y;have h8:¬l.1<=y:=λe=>I (OX e);rcases Li.1 E with rfl|E
  ·omega
  have:=G p E;omega
theorem J7 (sz:LI):∀(l:List UV) (sn:List ByteArray),Yq sz sn l=0->∀x∈l,Jd sz x.ls=0
 | [],_,_,x,hx=>by cases hx
 | a::l,sn,h,x,hx=>by
  unfold Yq at h;split at h
  ·rename_i E;exact OW h E
  split at h
  ·rename_i E;exact OW h E
  rename_i E;rcases Li.1 hx with rfl|hx
  ·exact Lo.1 E
  exact J7 sz l _ h x hx
theorem Vo (sz:LI):∀(l:List xL) (sn:List ByteArray),Y6 sz sn l=0->∀x∈l,Xx sz x=0
 | [],_,_,x,hx=>by cases hx
 | a::l,sn,h,x,hx=>by
  unfold Y6 at h;split at h
  ·rename_i E;exact OW h E
  split at h
  ·rename_i E;exact OW h E
  rename_i E;rcases Li.1 hx with rfl|hx
  ·exact Lo.1 E
  exact Vo sz l _ h x hx
structure Qrr (sz:LI)(ex:List UV)(cs:List xL):Prop where
 s8:sz.length<=8
 s:∀n∈sz,1<=n/\n<=4096
 xl:ex.length<=32
 kl:cs.length<=32
 x:∀e∈ex,∀p∈e.ls,0<=p.1/\p.1<(sz.length:Int)
 k:∀e∈cs,(∀p∈e.ts,0<=p.1/\p.1<(sz.length:Int)/\-65536<=p.2/\p.2<=65536)/\e.ts.length<=8
theorem Vp {sz:LI}{ex:List UV}{cs:List xL}(h:Yw sz ex cs=0):Qrr sz ex cs:=by
 unfold Yw at h;split at h
 ·cases h
 rename_i h8;split at h
 ·cases h
 rename_i O;split at h
 ·cases h
 rename_i ha;split at h
 ·rename_i hx;exact OW h hx
 rename_i hx;have S:=Lo.1 hx;refine⟨oa,λn T=>?_,oa,oa,λe H p G=>?_,λe H=>?_⟩
 ·have E:Ku n=false:=by
   cases V:Ku n with
   | false=>rfl
   | true=>exact OW (Nr.2 ⟨n,T,V⟩) O
  unfold Ku at E;simp only[Oh,decide_eq_false_iff_not]at E;omega
 ·have E:=J7 sz ex [] S e H;unfold Jd at E;split at E
  ·cases E
  exact(Uc sz e.ls none E).1 p G
 have E:=Vo sz cs [] h e H;unfold Xx at E;split at E
 ·cases E
 split at E
 ·rename_i I;exact OW E I
 rename_i I;obtain⟨J,Y,_⟩:=Ua sz e.ts none (Lo.1 I);refine⟨J,?_⟩;have:=xH sz.length (e.ts.map (·.1)) (List.Pairwise.imp (λ{a b} (h:a<b)=>(by omega:a≠b)) Y) (λx hx=>by
  obtain⟨p,G,rfl⟩:=LC.1 hx;exact⟨(J p G).1,(J p G).2.1⟩)
 rw[Lh]at this;omega
def QmQ (sz t:LI):Prop:=t.length=sz.length/\∀i,i<t.length->0<=O6 t i/\O6 t i<O6 sz i
theorem QfF (t:LI)(p:Int×Int)(l:xx)(s:Int):(l++[p]).foldl (λs p=>s+p.2*t.getD p.1.toNat 0) s=l.foldl (λs p=>s+p.2*t.getD p.1.toNat 0) s+p.2*O6 t p.1.toNat:=by
 rw[MD];rfl
theorem Qhj {nm:ByteArray}{ts:xx}{bd:Int}{t:LI}(hl:jj [] w.heap vl ts)(ht:QQ [] w.heap vt t)
  (hg:∀p∈ts,0<=p.1/\p.1<(t.length:Int)/\-65536<=p.2/\p.2<=65536) (h8:ts.length<=8) (hh:∀i,i<t.length->0<=O6 t i/\O6 t i<=4096):
  Q6 prog 299 [.agg #[.string nm,vl,oF oG bd],vt] w λr w'=>r=oF oG (Qpy t ⟨nm,ts,bd⟩)/\O5 [] w w':=by
 refine Zq func299 ?_;refine Qc<|Qe<|QS (us:=[.string nm,vl,oF oG bd]) U λb2 w1 V hv hi=>Qb<|Qc<|Qb<|Qd<|Qc<|Qs U hi U U<|QK (hl.I V) U<|Qa<|xe<|Qf<|QD (α:=Nat×Int) [(5,5),(7,7),(11,25)] (λz=>[(5,oF oG z.2),(11,oF oG z.1)]) (λz w'=>z.1<=ts.length/\O5 [] w w'/\z.2=(ts.take z.1).foldl (λs p=>s+p.2*t.getD p.1.toNat 0) 0/\-(268435456*(z.1:Int))<=z.2/\z.2<=268435456*(z.1:Int)) (λz=>ts.length - z.1) ol (0,0) oA
  ⟨Ln _,V,U,oh,oh⟩ ?_
 rintro⟨k,s⟩ g w2 ⟨hk,O,H,hj,hm⟩;simp only[]at hk H hj hm;refine Qc<|QZ U U<|xe<|Qd<|QG U (λS=>?_) (λS=>?_)
 ·refine Qy ?_;have hn:ts.length<=k:=by have I:¬(k:Int)<(ts.length:Int):=S;omega
  rw[Lt hn]at H;refine Qm<|Qb<|Qk ⟨[_],La,by rw[H];rfl,O⟩
 have E:k<ts.length:=by have I:(k:Int)<(ts.length:Int):=S;omega
 have T:=hg _ (Ll E);have Y:ts.take (k+1)=ts.take k++[ts[k]'E]:=Lm E;refine Qh<|Qd<|Qf<|Qc<|O8 YA (hl.I O) U U E λhw I=>?_;refine Zk (ts[k]'E) λe he=>?_;rw[he]at I T Y;refine x (Qx I U U)<|Qe<|Qo (us:=[oF oG 0,oF oG 0]) U λb7 w3 ho hp J=>Qe<|Qj (us:=QI e) J U U U U oA λw4 hq J=>xe ?_;have hr:O5 [] w2 w4:=ho.O hq hp;have ha:=O.D hr;have hs:e.1=((e.1.toNat:Nat):Int):=oa
 have hb:e.1.toNat<t.length:=oa
 have hf:=hh _ hb;have hy:-268435456<=e.2*O6 t e.1.toNat/\e.2*O6 t e.1.toNat<=268435456:=by
  have h1:(-65536)*O6 t e.1.toNat<=e.2*O6 t e.1.toNat:=Int.mul_le_mul_of_nonneg_right T.2.2.1 hf.1;have h2:e.2*O6 t e.1.toNat<=65536*O6 t e.1.toNat:=Int.mul_le_mul_of_nonneg_right T.2.2.2 hf.1;omega
 refine Zk (e.2*O6 t e.1.toNat) λpr hz=>?_;refine ZD [] (Xb 0 11 [])<|p QE<|p (QR U)<|pq (λ_ G=>Qq (J.I G) U U)<|p QE<|p (QR U) <|
  pq (λ_ G=>Qq (J.I G) U U)<|pic (i:=e.1.toNat) U (ht.I ha) U (OV (Value.int .i64) hs) hb λh0 hu=>pq (λ_ G=>QA (hu.I G) U) <|
  p (λ_=>QhU U U ⟨oa,oa⟩)<|p (λ_=>XR U U ⟨oa,oa⟩)<|p ZN<|pe ?_
 refine Qw<|QP U U<|Qa<|xe<|⟨(k+1,s+e.2*O6 t e.1.toNat),oh,oA,E,ha.D (O5.C _ _),?_,oh,oh⟩;simp only[];rw[Y,QfF,<-H]
theorem Qjc {bt:Nat}{t:LI}(I:Zb w.heap bt 56 [vt])(J:QQ [] w.heap vt t)(e:Int×Int)(V:0<=e.1/\e.1<(t.length:Int)):
  Q6 prog 297 ([.agg (QI e).toArray]++[.pointer (some ⟨bt,0,none⟩)]) w λr w'=>r=.bool (!decide (t.getD e.1.toNat 0=e.2))/\O5 [] w w':=by
 refine Zq func297 ?_;refine Qc<|Qe<|QS (us:=QI e) U λb2 Y G ha H=>Qb ?_;have O:e.1=((e.1.toNat:Nat):Int):=oa
 have S:e.1.toNat<t.length:=oa
 refine Qd<|ZD [] (Xb 0 9 [])<|pq (λ_ E=>Qq ((I.I G).I E) U U)<|p (QR U)<|pq (λ_ E=>Qq (H.I E) U U)<|pic (i:=e.1.toNat) U (J.I G) U (OV (Value.int .i64) O) S λa7 T =>
  pq (λ_ E=>QA (T.I E) U)<|p (QR U)<|pq (λ_ E=>Qq (H.I E) U U)<|p (λ_=>YP U U) <|
  p ZN<|pe ?_
 refine Qk ⟨[_],La,?_,G.D (O5.C _ _)⟩;show Value.bool (decide (¬O6 t e.1.toNat=e.2))=_;unfold O6;simp
theorem Qhh (t:LI)(x:UV):(!(x.ls.any λl=>!decide (t.getD l.1.toNat 0=l.2)))=VY t x:=by
 unfold VY;induction x.ls with
 | nil=>rfl
 | cons a l ih=>rw[List.any_cons,L4,<-ih];cases decide (t.getD a.1.toNat 0=a.2) <;> simp
theorem Ql4 {q:XV}{t:LI}(I:Zb w.heap b 116 (Q8 q))(J:jj [] w.heap q.v q.ls)(H:QQ [] w.heap vt t)(O:∀p∈q.ls,0<=p.1/\p.1<(t.length:Int)):
  Q6 prog 295 ([vt]++[.pointer (some ⟨b,0,none⟩)]) w λr w'=>r=.bool (VY t q.x)/\O5 [] w w':=by
 refine Zq func295 ?_;refine Qc<|Qe<|QS (us:=[vt]) H.cells λb2 Y E ha S=>Qb<|Qc<|Qs U (I.I E) U U<|x Zy<|ZP<|(QoX (q:=λl=>!decide (t.getD l.1.toNat 0=l.2)) (cap:=[.pointer (some ⟨b2,0,none⟩)]) (J.I E) (λe T V G=>Qjc (S.I G) ((H.I E).I G) e (O e T))).mono ?_;rintro r2 V ⟨rfl,G⟩;refine x (Zx U)<|Qb<|Qk ⟨[_],La,OV Value.bool (Qhh t q.x),E.D G⟩
theorem Ql3 {q:KV}{t:LI}(G:Zb w.heap b 121 (Zd q))(I:jj [] w.heap q.v q.ts)(J:QQ [] w.heap vt t)
  (O:∀p∈q.ts,0<=p.1/\p.1<(t.length:Int)/\-65536<=p.2/\p.2<=65536) (S:q.ts.length<=8) (T:∀i,i<t.length->0<=O6 t i/\O6 t i<=4096):
  Q6 prog 298 ([vt]++[.pointer (some ⟨b,0,none⟩)]) w λr w'=>r=.bool (UY t q.k)/\O5 [] w w':=by
 refine Zq func298 ?_;refine Qc<|Qb ?_;have hd:O5 [] w { w with drawn:=w.drawn+1 }:=O5.C _ _
 refine Qd<|qD (O5 [] { w with drawn:=w.drawn+1 }) [oD 0,oD 1,oD 3,oD 4,oE 2,oD 5,oD 6] mixed ol od (O5.Z _ _) ?_
 refine pq (λ_ E=>ZY ((G.I hd).I E) U U)<|p QE<|p (QR U)<|pq (λ_ E=>Qq ((G.I hd).I E) U U)<|pk<|xg<|(Qhj (I.I hd) (J.I hd) O S T).mono ?_;rintro V Y ⟨rfl,H⟩;refine⟨H,?_⟩;refine p (λ_=>Z7 U U)<|p ZN<|pe ?_;exact Qk ⟨[_],La,U,hd.D H⟩
inductive Cd where
 | ex (b:Nat) (q:XV)
 | co (b:Nat) (q:KV)
def Cd.val:Cd->O2
 | .ex b _=>.func (.func 295) #[] #[.pointer (some ⟨b,0,none⟩)]
 | .co b _=>.func (.func 298) #[] #[.pointer (some ⟨b,0,none⟩)]
def Cd.src:Cd->Sum XV KV
 | .ex _ q=>.inl q
 | .co _ q=>.inr q
def QfG (t:LI):Sum XV KV->Bool
 | .inl q=>VY t q.x
 | .inr q=>UY t q.k
def Cd.vio (t:LI)(c:Cd):Bool:=QfG t c.src
abbrev UO (c:Cd):LV:=[c.val]
theorem QoZ (c:Cd):(UO c).length=1:=rfl
def CdA (H:xC):Cd->Prop
 | .ex b q=>Zb H b 116 (Q8 q)/\jj [] H q.v q.ls
 | .co b q=>Zb H b 121 (Zd q)/\jj [] H q.v q.ts
theorem CdA.I {w w':O1}{c:Cd}(h:CdA w.heap c)(E:O5 [] w w'):CdA w'.heap c:=by
 cases c with
 | ex b q=>exact⟨h.1.I E,h.2.I E⟩
 | co b q=>exact⟨h.1.I E,h.2.I E⟩
def Cd.rg (n:Nat):Cd->Prop
 | .ex _ q=>∀p∈q.ls,0<=p.1/\p.1<(n:Int)
 | .co _ q=>(∀p∈q.ts,0<=p.1/\p.1<(n:Int)/\-65536<=p.2/\p.2<=65536)/\q.ts.length<=8
theorem Qce {q:XV}(w:O1):Q6 prog 257 [.agg (Q8 q).toArray] w λr w'=>O5 [] w w'/\∃b,r=(Cd.ex b q).val/\w.heap.size<=b/\Zb w'.heap b 116 (Q8 q):=by
 refine Zq func257 ?_;refine Qc<|Qe<|QS (us:=Q8 q) U λb1 I E G H=>Qb<|Qc<|x Zy<|Qb<|Qk ⟨[_],La,E,b1,U,G,H⟩
theorem QdH {q:KV}(w:O1):Q6 prog 258 [.agg (Zd q).toArray] w λr w'=>O5 [] w w'/\∃b,r=(Cd.co b q).val/\w.heap.size<=b/\Zb w'.heap b 121 (Zd q):=by
 refine Zq func258 ?_;refine Qc<|Qe<|QS (us:=Zd q) U λb1 I E G H=>Qb<|Qc<|x Zy<|Qb<|Qk ⟨[_],La,E,b1,U,G,H⟩
def CdB (H:xC):Cd->Prop
 | .ex b q=>Zb H b 116 (Q8 q)
 | .co b q=>Zb H b 121 (Zd q)
def Cd.blk:Cd->Nat
 | .ex b _=>b
 | .co b _=>b
theorem CdB.lt {H:xC}{c:Cd}(h:CdB H c):c.blk<H.size:=by cases c <;> exact Zb.lt h
theorem CdB.J {X:LN}{w w':O1}{c:Cd}(h:CdB w.heap c)(E:O5 X w w')(G:c.blk∉X):CdB w'.heap c:=by
 cases c <;> exact Zb.J h E G
structure CdL (base:Nat)(w:O1)(v:O2)(cds:List Cd):Prop where
 own:w.ownsRow base 403 1 v cds.length (cds.flatMap UO)
 bx:∀c∈cds,CdB w.heap c/\c.blk∉ob v
theorem CdL.add {base:Nat}{E G:O1}{v H:O2}{cds:List Cd}{c:Cd}(h:CdL base w v cds)(O:O5 [] w E)(S:CdB E.heap c)(hb:w.heap.size<=c.blk)
  (T:G.ownsRow base 403 1 H (cds.length+1) (cds.flatMap UO++[c.val])) (V:O5 (ob v) E G) (Y:∀b∈ob H,b∈ob v\/E.heap.size<=b):CdL base G H (cds++[c]):=by
 have ha:=Zc h.own;have he:c.blk∉ob v:=λI=>ou (ha _ I)
 refine⟨?_,λd hd=>?_⟩
 ·rw[Lk,LA];simpa using T
 have key:CdB E.heap d/\d.blk∉ob v:=by
  rcases Lc.1 hd with hd|hd
  ·exact⟨(h.bx d hd).1.J O oe,(h.bx d hd).2⟩
  simp only[oI]at hd;subst hd;exact⟨S,he⟩
 refine⟨key.1.J V key.2,λI=>?_⟩;rcases Y _ I with J|J
 ·exact key.2 J
 have:=key.1.lt;omega
theorem QjD {qx:List XV}{ks:List KV}(hX:yY [] w.heap vx qx)(hK:yT [] w.heap vk ks)(hG:qx.length<=32)(hH:ks.length<=32):
  Q6 prog 192 [.agg #[vs,vx,vk]] w λr w'=>O5 [] w w'/\∃cds,CdL w.heap.size w' r cds/\cds.map Cd.src=qx.map Sum.inl++ks.map Sum.inr:=by
 refine Zq func192 ?_;refine Qc<|Qe<|QS (us:=[vs,vx,vk]) U λb1 J H hI h2=>Qb ?_;have h7:=H.size;refine Qc<|Qb<|Qd<|Qc<|Qs U h2 U U<|QK (hX.I H).arr U<|Qa<|xe<|Qf<|QD (α:=Nat×O2×List Cd) [(3,3),(5,5),(11,20)] (λz=>[(3,z.2.1),(11,oF oG z.1)]) (λz w'=>z.1<=qx.length/\O5 [] J w'/\CdL J.heap.size w' z.2.1 z.2.2/\z.2.2.map Cd.src=(qx.take z.1).map Sum.inl) (λz=>qx.length - z.1) ol (0,nS,[]) oA
  ⟨Ln _,O5.Z _ _,⟨QL _ _ _ _,λc hc=>(by cases hc)⟩,rfl⟩ ?_
 rintro⟨k,vo,cds⟩ g wA ⟨hk,I,V,Y⟩;simp only[]at hk V Y;have hJ:cds.length=k:=by have:=OV oP Y;simp at this;omega
 refine Qc<|QZ U U<|xe<|Qd<|QG U (λhi=>?_) (λhi=>?_)
 ·refine Qy ?_;have h8:qx.length<=k:=by have hl:¬(k:Int)<(qx.length:Int):=hi;omega
  rw[Lt h8]at Y;refine Qd<|Qc<|Qs U (h2.I I) U U<|QK ((hK.I H).I I).arr U<|Qa<|xe<|Qf<|QD (α:=Nat×O2×List Cd) [(3,3),(7,7),(24,33)] (λz=>[(3,z.2.1),(24,oF oG z.1)]) (λz w'=>z.1<=ks.length/\O5 [] J w'/\CdL J.heap.size w' z.2.1 z.2.2/\z.2.2.map Cd.src=qx.map Sum.inl++(ks.take z.1).map Sum.inr) (λz=>ks.length - z.1) ol (0,vo,cds) oA
   ⟨Ln _,I,V,by simp only[];rw[Y];simp⟩ ?_
  rintro⟨j,vp,cdt⟩ g wB ⟨hj,ha,O,he⟩;simp only[]at hj O he;have hM:cdt.length=qx.length+j:=by have:=OV oP he;simp at this;omega
  refine Qc<|QZ U U<|xe<|Qd<|QG U (λhm=>?_) (λhm=>?_)
  ·refine Qy ?_;have h9:ks.length<=j:=by have hl:¬(j:Int)<(ks.length:Int):=hm;omega
   rw[Lt h9]at he;refine Qm<|Qb<|Qk ⟨[_],La,H.D ha,cdt,⟨Zv O.own h7,O.bx⟩,he⟩
  have S:j<ks.length:=by have hl:(j:Int)<(ks.length:Int):=hm;omega
  have h3:=Ll S;have h4:ks.take (j+1)=ks.take j++[ks[j]'S]:=Lm S;refine Qh<|Qd<|Qf<|Qc<|O8 Xp ((hK.I H).I ha).arr U U S λaA hA=>?_;refine Zk (ks[j]'S) λq hq=>?_;rw[hq]at hA h3 h4;have hn:=((hK.I H).I ha).each q h3;refine x (Qx hA U U)<|Qe<|Qo (us:=[.string .empty,nS,oF oG 0]) U λb7 w4 ho hp hr=>Qe<|Qj (us:=Zd q) hr U U U U ⟨U,hn.one,U,Z⟩ λw5 hs ht=>xe ?_;have hf:O5 [] wB w5:=ho.O hs hp;refine Qw<|Qa<|Q5 ht U U<|QM<|(QdH w5).mono ?_;rintro r6 w6 ⟨hu,E,rfl,hB,hv⟩;refine Qe<|QC (us:=[[(Cd.co E q).val]]) U U og oe ⟨rfl,rfl,Z⟩ λhC w7 hg hD hw=>?_;have G:=(hf.D hu).D hg;have hE:=(ha.D G).size;have hF:=hf.size;refine Qe<|Za (news:=[(Cd.co E q).val]) (L:=[]) (Qp O.own G) U U U (hw.at oe) (by simp[Cd.val,Value.oneCell']) oa oa λv8 w8 hy hh hz =>
   Qb ?_
  have hge:=Qi O.own;have h0:=O.add (c:=Cd.co E q) G (Zb.I hv hg) (by show _<=E;omega) hy hh hz;have h1:O5 [] J w8:=(ha.D G).then hh (λb hb=>.inr (hge b hb).1);refine Qw<|QP U U<|Qa<|xe ?_;exact⟨(j+1,v8,cdt++[Cd.co E q]),oh,oA,S,h1,h0,by simp only[];rw[Ls,he,h4];simp[Cd.src]⟩
 have T:k<qx.length:=by have hl:(k:Int)<(qx.length:Int):=hi;omega
 have h5:=Ll T;have h6:qx.take (k+1)=qx.take k++[qx[k]'T]:=Lm T;refine Qh<|Qd<|Qf<|Qc<|O8 Xz ((hX.I H).I I).arr U U T λaA hA=>?_;refine Zk (qx[k]'T) λq hq=>?_;rw[hq]at hA h5 h6;have hn:=((hX.I H).I I).each q h5;refine x (Qx hA U U)<|Qe<|Qo (us:=[.string .empty,nS]) U λb7 w4 ho hp hr=>Qe<|Qj (us:=Q8 q) hr U U U U ⟨U,hn.one,Z⟩ λw5 hs ht=>xe ?_;have hf:O5 [] wA w5:=ho.O hs hp;refine Qw<|Qa<|Q5 ht U U<|QM<|(Qce w5).mono ?_;rintro r6 w6 ⟨hu,E,rfl,hB,hv⟩;refine Qe<|QC (us:=[[(Cd.ex E q).val]]) U U og oe ⟨rfl,rfl,Z⟩ λhC w7 hg hD hw=>?_;have G:=(hf.D hu).D hg;have hE:=(I.D G).size;have hF:=hf.size;refine Qe<|Za (news:=[(Cd.ex E q).val]) (L:=[]) (Qp V.own G) U U U (hw.at oe) (by simp[Cd.val,Value.oneCell']) oa oa λv8 w8 hy hh hz =>
  Qb ?_
 have hge:=Qi V.own;have h0:=V.add (c:=Cd.ex E q) G (Zb.I hv hg) (by show _<=E;omega) hy hh hz;have h1:O5 [] J w8:=(I.D G).then hh (λb hb=>.inr (hge b hb).1);refine Qw<|QP U U<|Qa<|xe ?_;exact⟨(k+1,v8,cds++[Cd.ex E q]),oh,oA,T,h1,h0,by simp only[];rw[Ls,Y,h6];simp[Cd.src]⟩
theorem Qor [Fu prog gp fn]{cap:LV}{q:Cd->Bool}{v:O2}{l:List Cd}(h:Zn L w.heap v l.length 1 (l.flatMap UO))
  (Y:∀e∈l,∀(G:O1),O5 [] w G->Q6 prog gp ([e.val]++cap) G λr w'=>r=.bool (q e)/\O5 [] G w'):
  Q6 prog 255 [v,.func (.func gp) #[] cap.toArray] w λr w'=>r=oF oG (fix q 0 l)/\O5 [] w w':=by
 have hc:=h.le;refine Zq func255 ?_;refine Qc<|Qb<|Qd<|Qm<|QK h U<|Qa<|xe<|Qf<|QD (α:=Nat) [(4,5),(8,18)] (λz=>[(8,oF oG z)]) (λz w'=>z<=l.length/\O5 [] w w'/\fix q z (l.drop z)=fix q 0 l) (λz=>l.length - z) ol 0 La
  ⟨Ln _,O5.Z _ _,U⟩ ?_
 rintro k g G ⟨hk1,H,E⟩;refine Qc<|QZ U U<|xe<|Qd<|QG U (λJ=>?_) (λJ=>?_)
 ·refine Qy ?_;have ha:l.length<=k:=by have hb:¬(k:Int)<(l.length:Int):=J;omega
  rw[Lq ha]at E;refine Qc<|Qb<|Qk ⟨[_],La,by rw[<-E];rfl,H⟩
 have I:k<l.length:=by have hb:(k:Int)<(l.length:Int):=J;omega
 rw[Zg I,Ym]at E;have S:=Ll I;refine Qh<|Qd<|Qf<|Qm<|Qb<|Qm<|Qa<|Qa<|O8 QoZ (h.I H) U U I λhf T=>?_;refine Zk (l[k]'I) λe he=>?_;rw[he]at T E S;refine x (QA T U)<|Qe<|xc (first:=[]) (capt:=cap) U<|(Y e S G H).mono ?_;rintro r2 w2 ⟨rfl,V⟩;refine xe<|QX rfl (λO=>?_) (λO=>?_)
 ·rw[OU O]at E;refine Qm<|Qb<|Qk ⟨[_],La,by rw[<-E];rfl,H.D V⟩
 rw[OT (by rw[O];decide)]at E;refine Qh<|Qw<|QP U U<|Qa<|xe ?_;exact⟨k+1,oa,La,I,H.D V,E⟩
theorem Qmu {c:Cd}{t:LI}(E:CdA w.heap c)(H:QQ [] w.heap vt t)(G:c.rg t.length)(I:∀i,i<t.length->0<=O6 t i/\O6 t i<=4096):
  ∃g fn cap,c.val=.func (.func g) #[] #[cap]/\Fu prog g fn/\Q6 prog g ([vt]++[cap]) w λr w'=>r=.bool (c.vio t)/\O5 [] w w':=by
 cases c with
 | ex b q=>exact⟨_,_,_,U,inferInstance,Ql4 E.1 E.2 H G⟩
 | co b q=>exact⟨_,_,_,U,inferInstance,Ql3 E.1 E.2 H G.1 G.2 I⟩
theorem Qhf {bt:Nat}{c:Cd}{t:LI}(E:Zb w.heap bt 56 [vt])(G:CdA w.heap c)(H:QQ [] w.heap vt t)(I:c.rg t.length)(J:∀i,i<t.length->0<=O6 t i/\O6 t i<=4096):
  Q6 prog 256 ([c.val]++[.pointer (some ⟨bt,0,none⟩)]) w λr w'=>r=.bool (c.vio t)/\O5 [] w w':=by
 obtain⟨gq,fn,cap,O,T,hcall⟩:=Qmu G H I J;rw[O];refine Zq func256 ?_;refine Qc<|Qb<|Qm<|Y7 E U U<|Qe<|xc (g:=gq) (fn:=fn) (first:=[]) (capt:=[cap]) U<|hcall.mono ?_;rintro V Y ⟨rfl,S⟩;refine Qb<|Qk ⟨[_],La,U,S⟩
theorem Qbs {v:O2}{cds:List Cd}{t:LI}(h:Zn L w.heap v cds.length 1 (cds.flatMap UO))(J:∀c∈cds,CdA w.heap c)(H:QQ [] w.heap vt t)(O:∀c∈cds,c.rg t.length)(S:∀i,i<t.length->0<=O6 t i/\O6 t i<=4096):
  Q6 prog 191 [v,vt] w λr w'=>r=oF oG (fix (Cd.vio t) 0 cds)/\O5 [] w w':=by
 refine Zq func191 ?_;refine Qc<|Qe<|QS (us:=[vt]) H.cells λT w1 G ha V=>Qb<|Qm<|x Zy<|ZP<|(Qor (q:=Cd.vio t) (cap:=[.pointer (some ⟨T,0,none⟩)]) (h.I G) (λc I Y E=>Qhf (V.I E) (((J c I).I G).I E) ((H.I G).I E) (O c I) S)).mono ?_;rintro r2 Y ⟨rfl,E⟩;refine Qb<|Qk ⟨[_],La,U,G.D E⟩
theorem QjP {sz t:LI}(I:QQ [] w.heap vs sz)(G:QQ [] w.heap vt t)(h:QmQ sz t):
  Q6 prog 254 [.agg #[vs,vx,vk],vt] w λr w'=>r=oF oG 0/\O5 [] w w':=by
 have he:=G.le;have h0:=h.1;refine Zq func254 ?_;refine Qc<|Qe<|QS (us:=[vs,vx,vk]) U λb2 T E hf J=>Qb<|Qd<|Qm<|QK (G.I E) U<|Qs U J U U<|QK (I.I E) U<|x (YP U U) <|
  xe ?_
 refine QG rfl (λO=>?_) (λO=>?_)
 ·refine Qh<|Qd<|Qm<|QK (G.I E) U<|Qa<|xe<|Qf<|QD (α:=Nat) [(4,6),(15,31)] (λz=>[(15,oF oG z)]) (λz w'=>z<=t.length/\w'=T) (λz=>t.length - z) ol 0 La ⟨Ln _,U⟩ ?_;rintro k g V ⟨hk,rfl⟩;refine Qc<|QZ U U<|xe<|Qd<|QG U (λS=>?_) (λS=>?_)
  ·refine Qy<|Qc<|Qb<|Qk ⟨[_],La,U,E⟩
  have H:k<t.length:=by have hg:(k:Int)<(t.length:Int):=S;omega
  have hb:=h.2 k H;refine Qh<|Qd<|Qf<|Qm<|xic (i:=k) (G.I E) U U H λhh Y=>x (QA Y U)<|x Ql<|Qb<|Q3 (α:=Unit) [(20,30)] (λz=>[(30,.bool false)]) (λz w'=>w'=V) ol ?_ ?_
  ·refine Qw<|Qa<|xb (YQ U U) (λha=>oa) (λha=>?_);refine Qa<|Qa<|Qs U J U U<|Qa<|xic (i:=k) (I.I E) U U oa λhi hc=>x (QA hc U) <|
    x (Ys rfl U)<|QH U<|xe ?_
   exact⟨(),⟨OV Value.bool (OZ oa),Z⟩,U⟩
  rintro _ g w3 rfl;refine ZL U<|Qh<|Qw<|QP U U<|Qa<|xe ?_;exact⟨k+1,oa,La,H,U⟩
 exact OW (show(t.length:Int)=(sz.length:Int) by omega) O
theorem jn {sz t:LI}{qx:List XV}{ks:List KV}(H:QQ [] w.heap vs sz)(S:yY [] w.heap vx qx)(hK:yT [] w.heap vk ks)(T:QQ [] w.heap vt t)(V:Yw sz (qx.map (·.x)) (ks.map (·.k))=0)(h:QmQ sz t):
  Q6 prog 190 [.agg #[vs,vx,vk],vt] w λr w'=>r=oF oG 0/\O5 [] w w':=by
 refine Zq func190 ?_;refine Qc<|Qe<|QS (us:=[vs,vx,vk]) U λb2 w1 E ha I=>Qb<|Qd<|Qc<|Q5 I U U<|QM<|(yB (H.I E) (S.I E) (hK.I E)).mono ?_;rintro r2 w2 ⟨J,O⟩;rw[V]at J;subst J;refine Qb<|Qm<|ZA U U<|xe<|ZL rfl<|Qh ?_;have G:=E.D O;refine Qc<|Q5 (I.I O) U U<|Qa<|QM<|(QjP (H.I G) (T.I G) h).mono ?_;rintro r3 w3 ⟨rfl,Y⟩;refine Qb<|Qk ⟨[_],La,U,G.D Y⟩
def Uk (qx:List UV)(ks:List xL)(t:LI):Int×Int×Bool :=
 if 0<=fix (VY t) 0 qx then(1,fix (VY t) 0 qx,true)else if 0<=fix (UY t) 0 ks then(2,fix (UY t) 0 ks,true)else(0,0,false)
theorem Ql0 {cds:List Cd}{qx:List XV}{ks:List KV}(t:LI)(h:cds.map Cd.src=qx.map Sum.inl++ks.map Sum.inr):
  fix (Cd.vio t) 0 cds=if 0<=fix (VY t) 0 (qx.map (·.x))then fix (VY t) 0 (qx.map (·.x))else if 0<=fix (UY t) 0 (ks.map (·.k))then fix (UY t) 0 (ks.map (·.k))+qx.length else -1:=by
 have E:fix (Cd.vio t) 0 cds=fix (QfG t) 0 (cds.map Cd.src):=(VA (QfG t) Cd.src cds 0).symm;rw[E,h,yy,VA,Lh,jZ,VA (QfG t) Sum.inr ks 0];have e1:fix (λa=>QfG t (Sum.inl a)) 0 qx=fix (VY t) 0 (qx.map (·.x)):=(VA (VY t) XV.x qx 0).symm;have e2:fix (λa=>QfG t (Sum.inr a)) 0 ks=fix (UY t) 0 (ks.map (·.k)):=(VA (UY t) KV.k ks 0).symm;rw[e1,e2]
theorem Qnv {P:Int×Int×Bool}{a b:Int}{c:Bool}(h:P=(a,b,c)):(Value.tuple #[oF oG a,oF oG b,.bool c,oF oG 0])=.tuple #[oF oG P.1,oF oG P.2.1,.bool P.2.2,oF oG 0]:=by rw[h]
theorem qP {sz t:LI}{qx:List XV}{ks:List KV}(hS:QQ [] w.heap vs sz)(S:yY [] w.heap vx qx)(hK:yT [] w.heap vk ks)(ht:QQ [] w.heap vt t)(hc:Yw sz (qx.map (·.x)) (ks.map (·.k))=0)(h:QmQ sz t):
  Q6 prog 127 [.agg #[vs,vx,vk],vt] w λr w'=>O5 [] w w'/\r=.tuple #[oF oG (Uk (qx.map (·.x)) (ks.map (·.k)) t).1,oF oG (Uk (qx.map (·.x)) (ks.map (·.k)) t).2.1,.bool (Uk (qx.map (·.x)) (ks.map (·.k)) t).2.2,oF oG 0]:=by
 have T:=Vp hc;have hu:qx.length<=32:=by have:=T.xl;simpa using this
 have hv:ks.length<=32:=by have:=T.kl;simpa using this
 refine Zq func127 ?_;refine Qc<|Qe<|QS (us:=[vs,vx,vk]) U λb2 w1 V h6 hj=>x Ql<|x Ql<|x Ql<|Qb<|Qd<|Qc<|Q5 hj U U<|Qa<|QM<|(jn (hS.I V) (S.I V) (hK.I V) (ht.I V) hc h).mono ?_;rintro r2 w2 ⟨rfl,hk⟩;refine Qb<|Qm<|ZA U U<|xe<|ZL rfl<|Qh ?_;have he:=V.D hk;have hl:=hj.I hk;refine Qc<|Q5 hl U U<|QM<|(QjD (S.I he) (hK.I he) hu hv).mono ?_;rintro r3 w3 ⟨hn,cds,hL,hf⟩;have hb:=he.D hn;have h7:cds.length=qx.length+ks.length:=by have:=OV oP hf;simpa using this
 have hw:∀i,i<t.length->0<=O6 t i/\O6 t i<=4096:=λi hi=>by
  have H:=h.2 i hi;have Y:i<sz.length:=by rw[<-h.1];exact hi
  have h3:=T.s _ (Ll Y);rw[ZG Y]at h3;omega
 have ho:∀c∈cds,c.src∈qx.map Sum.inl++ks.map Sum.inr:=λc I=>by rw[<-hf];exact LO I
 have hy:∀c∈cds,CdA w3.heap c:=λc I=>by
  have H:=ho c I;have Y:=(hL.bx c I).1;cases c with
  | ex b q =>
   have G:q∈qx:=by simpa[Cd.src]using H
   exact⟨Y,(S.each q G).I hb⟩
  | co b q =>
   have G:q∈ks:=by simpa[Cd.src]using H
   exact⟨Y,(hK.each q G).I hb⟩
 have hz:∀c∈cds,c.rg t.length:=λc I=>by
  have H:=ho c I;rw[h.1];cases c with
  | ex b q =>
   have G:q∈qx:=by simpa[Cd.src]using H
   exact T.x q.x (LO G)
  | co b q =>
   have G:q∈ks:=by simpa[Cd.src]using H
   exact T.k q.k (LO G)
 have h0:=Ql0 t hf;have g1:=QdF (VY t) (qx.map (·.x)) 0;have g2:=QdF (UY t) (ks.map (·.k)) 0;simp only[Oc]at g1 g2;refine Qa<|QM<|(Qbs (QJ (L:=[]) hL.own oa oe) hy (ht.I hb) hz hw).mono ?_;rintro r4 w4 ⟨rfl,hp⟩;rw[h0];have ha:=hb.D hp;refine Zk (Uk (qx.map (·.x)) (ks.map (·.k)) t) λP J=>?_;rw[J];unfold Uk at J;refine Zk (fix (VY t) 0 (qx.map (·.x))) λO hg=>?_;refine Zk (fix (UY t) 0 (ks.map (·.k))) λi2 hh=>?_;rw[hg,hh]at J;rw[hg]at g1;rw[hh]at g2;refine Zk (if 0<=O then O else if 0<=i2 then i2+(qx.length:Int)else -1) λr E=>?_
 rw[hg,hh,E];refine Qb<|Qf<|Qm<|QZ U U<|Qb<|QY U (λh4=>?_) (λh4=>?_)
 ·have n1:¬0<=O:=λh=>by rw[OU h]at E;omega
  have n2:¬0<=i2:=λh=>by rw[OT n1,OU h]at E;omega
  refine Qc<|x Ql<|x Ql<|x Ql<|Qb<|Qk ⟨[_,_,_,_],oC,ha,Qnv (by rw[<-J,OT n1,OT n2])⟩
 have hs:=(hl.I hn).I hp;refine Qm<|Qs U hs U U<|QK (S.I ha).arr U<|QZ U U<|Qb<|QY U (λh5=>?_) (λh5=>?_)
 ·have p1:0<=O:=by
   refine Lo.1 λn1=>?_;by_cases h:0<=i2
   ·rw[OT n1,OU h]at E;omega
   rw[OT n1,OT h]at E;omega
  have e:r=O:=by rw[OU p1]at E;exact E.symm
  refine Qm<|x Ql<|x Ql<|x Ql<|Qb<|Qk ⟨[_,_,_,_],oC,ha,Qnv (by rw[<-J,OU p1,e])⟩
 have n1:¬0<=O:=λh=>by rw[OU h]at E;omega
 have p2:0<=i2:=by
  refine Lo.1 λn2=>?_;rw[OT n1,OT n2]at E;omega
 have e:r - (qx.length:Int)=i2:=by rw[OT n1,OU p2]at E;omega
 refine Qd<|ZD [] (Xb 0 9 [])<|p QE<|p (QR U)<|pq (λ_ hc=>Qq (hs.I hc) U U)<|p (λ_=>Xo (S.I ha).arr U) <|
  p (λ_=>Jh U U ⟨oa,oa⟩)<|p ZN<|p ZN<|p ZN<|p ZN <|
  pe ?_
 exact Qk ⟨[_,_,_,_],oC,ha.D (O5.C _ _),Qnv (by rw[<-J,OT n1,OU p2,<-e])⟩
def YG (base:Nat)(av:LN)(H:xC)(v:O2)(n sz:Nat)(cs:LV):Prop:=∀L:LN,(∀b∈L,b<base\/b∈av)->Zn L H v n sz cs
theorem YG.I {base:Nat}{av:LN}{w w':O1}{v:O2}{n sz:Nat}{cs:LV}(h:YG base av w.heap v n sz cs)(E:O5 [] w w'):YG base av w'.heap v n sz cs:=λL G=>(h L G).I E
theorem YG.app {base:Nat}{I:LN}{v:O2}(h:YG base av w.heap v n sz cs)(J:O5 av w w')(O:∀b∈I,b∈av\/w.heap.size<=b):YG base I w'.heap v n sz cs:=by
 intro L S;have T:Zn (av++L.filter λb=>decide (b<base)) w.heap v n sz cs:=h _ (λb E=>by
  rcases Lc.1 E with E|E
  ·exact .inr E
  exact .inl (by simpa using(L9.1 E).2))
 refine T.grow J (λb E=>Lc.2 (.inl E)) λb E=>?_;rcases S b E with G|G
 ·exact .inl (Lc.2 (.inr (L9.2 ⟨E,oz G⟩)))
 rcases O b G with H|H
 ·exact .inl (Lc.2 (.inl H))
 exact .inr H
theorem YG.of_own {base:Nat}{v:O2}{e:Nat}(h:w.ownsRow N e sz v n cs)(H:n<=1099511627776)(E:base<=N)(I:∀b∈av,b<N):YG base av w.heap v n sz cs:=λL J =>
 QJ h H λb E hbL=>by
  have O:=(Qi h b E).1;rcases J b hbL with G|G
  ·omega
  have:=I b G;omega
structure Yz {α:Type}(g:α->LV)(sz T:Nat)(p:α->O2×Nat×Nat×LV)(base:Nat)(w:O1)(v:O2)(l:List α):Prop where
 own:w.ownsRow base T sz v l.length (l.flatMap g)
 each:∀q∈l,YG base (ob v) w.heap (p q).1 (p q).2.1 (p q).2.2.1 (p q).2.2.2
theorem Yz.nil {g:α->LV}{p:α->O2×Nat×Nat×LV}{base:Nat}:Yz g sz T p base w (nS) []:=⟨QL _ _ _ _,λq E=>by cases E⟩
theorem Yz.I {α:Type}{g:α->LV}{sz T:Nat}{p:α->O2×Nat×Nat×LV}{base:Nat}{w w':O1}{v:O2}{l:List α}(h:Yz g sz T p base w v l)(E:O5 [] w w'):Yz g sz T p base w' v l:=⟨Qp h.own E,λq G=>(h.each q G).I E⟩
theorem Yz.app {α:Type}{g:α->LV}{sz T:Nat}{p:α->O2×Nat×Nat×LV}{base N e:Nat}{w E G:O1}{v H:O2}{l:List α}{q:α}(h:Yz g sz T p base w v l)(S:O5 [] w E)
  (V:E.ownsRow N e (p q).2.2.1 (p q).1 (p q).2.1 (p q).2.2.2) (Y:(p q).2.1<=1099511627776) (hN:w.heap.size<=N) (I:base<=w.heap.size)
  (ho:G.ownsRow base T sz H (l.length+1) (l.flatMap g++g q)) (J:O5 (ob v) E G) (O:∀b∈ob H,b∈ob v\/E.heap.size<=b):Yz g sz T p base G H (l++[q]):=by
 have ha:=Zc h.own;refine⟨?_,λd hd=>?_⟩
 ·rw[Lk,LA];simpa using ho
 rcases Lc.1 hd with hd|hd
 ·exact((h.each d hd).I S).app J O
 simp only[oI]at hd;subst hd;exact(YG.of_own V Y oa (λb I=>ou (ha b I))).app J O
theorem QcW {ha hb hc:O2}{b:Q9}(h:ZH L w.heap va vm ve a)(h':ZH L' w.heap ha hb hc b):
  Q6 prog 55 [.agg #[va,oF oG a.st,vm,ve],.agg #[ha,oF oG b.st,hb,hc]] w λr w'=>r=.bool (decide (a.st=b.st/\a.al=b.al/\a.mr=b.mr/\a.ed=b.ed))/\O5 [] w w':=by
 refine Zq func55 ?_;refine Qc<|Qe<|QS (us:=[va,oF oG a.st,vm,ve]) U λb2 w1 hh hl hi=>Qe<|QS (us:=[ha,oF oG b.st,hb,hc]) U λb3 w2 he E H=>Qb ?_;have I:=hh.D he;have J:=hi.I he;refine Q3 (α:=Bool) [(4,30)] (λz=>[(4,.bool z)]) (λz w'=>O5 [] w w'/\z=decide (a.st=b.st/\a.al=b.al/\a.mr=b.mr/\a.ed=b.ed)) ol ?_ ?_
 ·refine Qw<|Qs U J U U<|Qs U H U U<|xb (Q0 U U) (λh9=>?_) (λh9=>?_)
  ·refine Qa<|Qs U J U U<|Qs U H U U<|QM<|(JD (h.al.I I) (h'.al.I I)).mono ?_;rintro r3 w3 ⟨O,S⟩;have T:=I.D S;refine Qjf (decide (a.al=b.al)) (λE=>?_) (λE=>?_)
   ·rw[E]at O;subst O;refine QH U<|Qa<|Qs U (J.I S) U U<|Qs U (H.I S) U U<|QM<|(JD (h.mr.I T) (h'.mr.I T)).mono ?_;rintro r4 w4 ⟨V,hf⟩;have Y:=T.D hf;have hg:=S.D hf;refine Qjf (decide (a.mr=b.mr)) (λG=>?_) (λG=>?_)
    ·rw[G]at V;subst V;refine QH U<|Qa<|Qs U (J.I hg) U U<|Qs U (H.I hg) U U<|QM<|(j4 (h.ed.I Y) (h'.ed.I Y)).mono ?_;rintro r5 w5 ⟨rfl,hj⟩;refine QH U<|Qb<|⟨_,La,Y.D hj,bD ⟨λe=>⟨h9,OY E,OY G,e⟩,λe=>e.2.2.2⟩⟩
    rw[G]at V;subst V;refine QH U<|Qa<|Qr<|Qr<|Qr<|Qr<|Qr<|QH U<|Qb<|⟨_,La,Y,bF (λe=>O0 G e.2.2.1)⟩
   rw[E]at O;subst O;refine QH U<|Qa<|Qr<|Qr<|Qr<|Qr<|Qr<|QH U<|Qa<|Qr<|Qr<|Qr<|Qr<|Qr<|x (U7 U) <|
    Qb<|⟨_,La,T,bF (λe=>O0 E e.2.1)⟩
  refine Qa<|Qr<|Qr<|Qr<|Qr<|Qr<|QH U<|Qa<|Qr<|Qr<|Qr<|Qr<|Qr<|x (U7 U) <|
   Qa<|Qr<|Qr<|Qr<|Qr<|Qr<|QH U<|Qb<|⟨_,La,I,bF (λe=>h9 e.1)⟩
 rintro z g w6 ⟨hk,rfl⟩;exact Qk ⟨[_],La,U,hk⟩
theorem Qkr (h:ZH L w.heap va vm ve a):
  Q6 prog 149 [.agg #[va,oF oG a.st,vm,ve]] w λr w'=>r=.bool (Vh a)/\O5 [] w w':=by
 refine Zq func149 ?_;refine Qc<|Qe<|QS (us:=[va,oF oG a.st,vm,ve]) U λb1 S hb hg G=>Qb<|Q3 (α:=Bool) [(2,11)] (λz=>[(2,.bool z)]) (λz w'=>O5 [] w w'/\z=Vh a) ol ?_ ?_
 ·refine ZD [] (Xb 0 10 [1,6,7]) ?_;have T:=hb.D (O5.C [] S);refine pq (λ_ E=>ZY (G.J E oe) rfl rfl)<|pk<|xg<|(Je (h.I T)).mono ?_;rintro r2 w2 ⟨rfl,V⟩;have H:=T.D V;have I:=(O5.C [] S).D V;refine⟨I,?_⟩;refine pb (λ_=>Q0 U U) (λJ=>?_) (λJ=>?_)
  ·have E:Jl a=0:=J;refine p QE<|pq (λ_ E=>ZY (G.J E oe) rfl rfl)<|pq (λ_ E=>ZY (G.J E oe) rfl rfl) <|
    pk<|xg<|(Jt (h.I H) ((Z1 a).1 E)).mono ?_
   rintro r3 w3 ⟨O,hh,hi,hj,rfl,he⟩;have Y:=H.D O;refine⟨I.D O,?_⟩;refine pk<|xg<|(QcW (h.I Y) (he [] oe)).mono ?_;rintro r4 w4 ⟨rfl,ha⟩;refine⟨(I.D O).D ha,?_⟩;refine p (Xg U)<|p ZN<|pe ?_;refine⟨_,La,Y.D ha,?_⟩;unfold Vh;rw[OX E,OO];exact bD ⟨λe=>⟨e.1.symm,e.2.1.symm,e.2.2.1.symm,e.2.2.2.symm⟩,λe=>⟨e.1.symm,e.2.1.symm,e.2.2.1.symm,e.2.2.2.symm⟩⟩
  have E:¬Jl a=0:=J;refine p QE<|ps<|ps<|ps<|ps<|p (Xg U)<|p ZN<|pe ?_;exact⟨_,La,H,by unfold Vh;rw[OZ E];rfl⟩
 rintro z g w5 ⟨hf,rfl⟩;exact Qk ⟨[_],La,U,hf⟩
section
variable {pS:String}
theorem Zj [Ag P t sz]{x:O3}(h:Zb w.heap b T cs)(hx:ev f x=.pointer (some ⟨b,o,none⟩))(hl:us.length=sz)(G:(cs.drop o).take sz=us):
  (execOp (ev f) ⟨d,.load t x,ty,pS,af,gd⟩).run P w=.ok (.value (.agg us.toArray)) w:=zk hx hl λj v E=>by
 rw[Km,Kt,h.cell];rw[<-G,LU]at E;split at E
 ·simpa using E
 cases E
end
theorem Qdz {v:O2}{qs:List IV}(h:XM L w.heap v qs):
  Q6 prog 186 [v] w λr w'=>O5 [] w w'/\w'.ownsRow w.heap.size 59 4 r (qs.map (·.p)).length ((qs.map (·.p)).flatMap ZV):=by
 have ho:=h.arr.le;refine Zq func186 ?_;refine Qc<|Qb<|Qc<|Qb<|Qd<|Qm<|QK h.arr U<|Qa<|xe<|Qf<|QD (α:=Nat×O2) [(3,3),(5,5),(8,17)] (λz=>[(3,z.2),(8,oF oG z.1)]) (λz w'=>z.1<=qs.length/\O5 [] w w'/\w'.ownsRow w.heap.size 59 4 z.2 z.1 (((qs.take z.1).map (·.p)).flatMap ZV)) (λz=>qs.length - z.1) ol (0,nS) oA
  ⟨Ln _,O5.Z _ _,QL _ _ _ _⟩ ?_
 rintro⟨k,vo⟩ g w1 ⟨hk,H,I⟩;simp only[]at hk I;refine Qc<|QZ U U<|xe<|Qd<|QG U (λO=>?_) (λO=>?_)
 ·refine Qy ?_;have hc:k=qs.length:=by have J:¬(k:Int)<(qs.length:Int):=O;omega
  subst hc;rw[Lt (Lu _)]at I;refine Qm<|Qb<|Qk ⟨[_],La,H,by rw[Lh];exact I⟩
 have E:k<qs.length:=by have J:(k:Int)<(qs.length:Int):=O;omega
 have V:=Ll E;have Y:qs.take (k+1)=qs.take k++[qs[k]'E]:=Lm E;refine Qh<|Qd<|Qf<|Qc<|O8 Yp (h.arr.I H) U U E λhp J=>?_;refine Zk (qs[k]'E) λq hq=>?_;rw[hq]at J V Y;have G:=h.each q V;refine x (Qx J U U)<|Qe<|Qo (us:=[.string .empty,nS,oF oG 0,nS,nS]) U λb5 w2 he hf S=>Qe<|Qj (us:=QO q) S U U U U ⟨U,G.al.one,U,G.mr.one,G.ed.one,Z⟩ λw3 hg S =>
  xe ?_
 have hh:O5 [] w1 w3:=he.O hg hf;refine Qw<|Qa<|Q2 U<|x (Zj (us:=ZV q.p) S U U U)<|Qe<|QC (us:=[ZV q.p]) U U og oe ⟨rfl,rfl,Z⟩ λhr w4 hi hs hj=>?_;have T:=hh.D hi;have ha:=Qp I T;have ht:=(H.D T).size;have hl:∀u∈ZV q.p,u.oneCell'=true:=by
  intro u hu;simp only[oL,oJ,or_false]at hu;rcases hu with rfl|rfl|rfl|rfl
  ·exact G.al.one
  ·rfl
  ·exact G.mr.one
  exact G.ed.one
 refine Qe<|Za (news:=ZV q.p) (L:=[]) ha U U U (hj.at oe) hl oa oa λv5 w5 hm hn hv=>Qb ?_;have hge:=Qi ha;refine Qw<|QP U U<|Qa<|xe<|⟨(k+1,v5),oh,oA,E,(H.D T).then hn (λb hb=>.inr (hge b hb).1),?_⟩;simp only[];rw[Y,Ls,LA];simpa using hm
theorem QiR {r:O2}{base e:Nat}{ps:List AV}(h:w.ownsRow base e 4 r ps.length (ps.flatMap ZV))(E:ps.length<=1099511627776)(G:∀b∈L,b<base)(H:∀p∈ps,ZH L w.heap p.va p.vm p.ve p.a):Kz L w.heap r ps :=
 ⟨QJ h E (λb I hbL=>ov (Qi h b I).1 (G b hbL)),H⟩
theorem QiQ {n m:Int}(E:Zb w.heap b 3 [oF oG m]):
  Q6 prog 151 ([oF oG n]++[.pointer (some ⟨b,0,none⟩)]) w λr w'=>r=.bool (decide (m<=n))/\O5 [] w w':=by
 refine Zq func151 ?_;refine Qc<|Qb<|Qm<|Y7 E U U<|x (Ys U U)<|Qb<|Qk ⟨[_],La,U,O5.Z _ _⟩
abbrev UA (n:Int):LV:=[oF oG n]
theorem Qos (n:Int):(UA n).length=1:=rfl
theorem Qnf:∀l:LI,l.flatMap UA=l.map (.int .i64)
 | []=>rfl
 | a::l=>by rw[LH,Qnf l];rfl
theorem QQ.fl {v:O2}(h:QQ L H v l):Zn L H v l.length 1 (l.flatMap UA):=by
 rw[Qnf l];exact h
theorem QiO [Fu prog gp fn]{cap:LV}{q:Int->Bool}{v:O2}(h:Zn L w.heap v l.length 1 (l.flatMap UA))
  (Y:∀e∈l,∀(G:O1),O5 [] w G->Q6 prog gp ([oF oG e]++cap) G λr w'=>r=.bool (q e)/\O5 [] G w'):
  Q6 prog 74 [v,.func (.func gp) #[] cap.toArray] w λr w'=>r=oF oG (fix q 0 l)/\O5 [] w w':=by
 have hc:=h.le;refine Zq func74 ?_;refine Qc<|Qb<|Qd<|Qm<|QK h U<|Qa<|xe<|Qf<|QD (α:=Nat) [(4,5),(8,18)] (λz=>[(8,oF oG z)]) (λz w'=>z<=l.length/\O5 [] w w'/\fix q z (l.drop z)=fix q 0 l) (λz=>l.length - z) ol 0 La
  ⟨Ln _,O5.Z _ _,U⟩ ?_
 rintro k g G ⟨hk1,H,E⟩;refine Qc<|QZ U U<|xe<|Qd<|QG U (λJ=>?_) (λJ=>?_)
 ·refine Qy ?_;have ha:l.length<=k:=by have hb:¬(k:Int)<(l.length:Int):=J;omega
  rw[Lq ha]at E;refine Qc<|Qb<|Qk ⟨[_],La,by rw[<-E];rfl,H⟩
 have I:k<l.length:=by have hb:(k:Int)<(l.length:Int):=J;omega
 rw[Zg I,Ym]at E;have S:=Ll I;refine Qh<|Qd<|Qf<|Qm<|Qb<|Qm<|Qa<|Qa<|O8 Qos (h.I H) U U I λhf T=>?_;refine Zk (l[k]'I) λe he=>?_;rw[he]at T E S;refine x (QA T U)<|Qe<|xc (first:=[]) (capt:=cap) U<|(Y e S G H).mono ?_;rintro r2 w2 ⟨rfl,V⟩;refine xe<|QX rfl (λO=>?_) (λO=>?_)
 ·rw[OU O]at E;refine Qm<|Qb<|Qk ⟨[_],La,by rw[<-E];rfl,H.D V⟩
 rw[OT (by rw[O];decide)]at E;refine Qh<|Qw<|QP U U<|Qa<|xe ?_;exact⟨k+1,oa,La,I,H.D V,E⟩
theorem QoY [Fu prog gp fn]{cap:LV}{q:Int->Bool}{v:O2}(h:Zn L w.heap v l.length 1 (l.flatMap UA))
  (G:∀e∈l,∀(E:O1),O5 [] w E->Q6 prog gp ([oF oG e]++cap) E λr w'=>r=.bool (q e)/\O5 [] E w'):
  Q6 prog 150 [v,.func (.func gp) #[] cap.toArray] w λr w'=>r=.bool (l.any q)/\O5 [] w w':=by
 refine Zq func150 ?_;refine Qc<|Qb<|Qm<|Qa<|ZP<|(QiO h G).mono ?_;rintro I E ⟨rfl,H⟩;refine x (Ys U U)<|Qb<|Qk ⟨[_],La,OV Value.bool (Qa4 q l 0),H⟩
theorem QeV {q:IV}{nev:Nat}{vg:O2}{amg:LI}{bm:Nat}{seen:List ByteArray}(hA:ZH L w.heap q.p.va q.p.vm q.p.ve q.p.a)(h1:Jp q.nm)(hg:QQ L' w.heap vg amg)(hD:amg.length<=4096)(hm:Yk JL w.heap bm (nmM seen))(hbL:bm∈L)(h2:bm∈L'):
  Q6 prog 82 [.agg (QO q).toArray,oF oG nev,vg,.map (some bm)] w λr w'=>r=oF oG (Yo nev amg seen q.it)/\O5 [bm] w w'/\(Yo nev amg seen q.it=0->Yk JL w'.heap bm (nmM (seen++[q.nm]))):=by
 have E:Yo nev amg seen q.it=(if Y3 q.nm=false then 7 else if q.nm∈seen then 8 else if Jl q.p.a≠0 then Jl q.p.a else if Vh q.p.a=false then 6 else if q.p.a.st=0 then 12 else
  if(q.p.a.al.any λe=>decide ((nev:Int)<=e))=true then 2 else if(mns q.p.a.al amg).length≠0 then 9 else 0):=rfl
 refine Zk (Yo nev amg seen q.it) λR hR=>?_;rw[hR]at E ⊢;refine Zq func82 ?_;refine Qc<|Qe<|QS (us:=QO q) U λb4 w1 ht hE h3=>Qe<|QS (us:=[oF oG nev]) U λb5 w2 T hF h4=>Qb ?_;have V:=ht.D T;have Y:=h3.I T;refine Qd<|Qf<|Qc<|Qs U Y U U<|ZP<|(VJ q.nm h1 w2).mono ?_;rintro r3 w3 ⟨rfl,rfl⟩;refine x (Zx U)<|Qb<|QX U (λhi=>?_) (λhi=>?_)
 ·have G:Y3 q.nm=false:=by simpa using hi
  rw[OU G]at E;subst E;refine Qc<|Qb<|Qk ⟨[_],La,U,V.any,λe=>OW e og⟩
 have G:¬Y3 q.nm=false:=by simpa using hi
 rw[OT G]at E;have hu:=hm.I V;refine Qm<|Qs U Y U U<|x (QbP hu U U)<|Qb<|QY U (λha=>?_) (λha=>?_)
 ·rw[OU ha]at E;subst E;refine Qc<|Qb<|Qk ⟨[_],La,U,V.any,λe=>OW e og⟩
 rw[OT ha]at E;refine Qh ?_;have hG:=hm.lt;refine Qm<|Qs U Y U U<|Qe<|XD (k:=q.nm) hu U U λw4 hj hv=>xe ?_;rw[show ev _ _=Value.bool true from rfl,QeC ha]at hv;have H:O5 [bm] w w4:=V.any.Q hj;have hH:=ht.size;have hc:=Y.J hj (by simp;omega);have h5:=h4.J hj (by simp;omega);have hf:ZH L w4.heap q.p.va q.p.vm q.p.ve q.p.a:=hA.st (H.mono (λb I=>by simp at I;subst I;exact hbL));have h6:QQ L' w4.heap vg amg:=hg.st (H.mono (λb I=>by simp at I;subst I;exact h2));refine Qd<|Qc<|Q2 U<|x (Zj (us:=ZV q.p) hc U U U)<|ZP<|(Je hf).mono ?_;rintro r5 w5 ⟨rfl,hh⟩;refine Qb<|Qm<|ZA U U<|xe<|QY rfl (λJ=>?_) (λJ=>?_)
 ·rw[OU J]at E;subst E;refine Qm<|Qb<|Qk ⟨[_],La,U,H.D hh,λe=>OW e J⟩
 rw[OT J]at E;have h7:=(Z1 q.p.a).1 (Lo.1 J);refine Qh<|Qd<|Qf<|Qc<|Q2 U<|x (Zj (us:=ZV q.p) (hc.I hh) U U U)<|ZP<|(Qkr (hf.I hh)).mono ?_;rintro r6 w6 ⟨rfl,h8⟩;have O:=hh.D h8;have hw:=H.D O;have hy:=hc.I O;refine x (Zx U)<|Qb<|QX U (λhk=>?_) (λhk=>?_)
 ·have G:Vh q.p.a=false:=by simpa using hk
  rw[OU G]at E;subst E;refine Qc<|Qb<|Qk ⟨[_],La,U,hw,λe=>OW e og⟩
 have G:¬Vh q.p.a=false:=by simpa using hk
 rw[OT G]at E;refine Qc<|Q2 U<|Qs U hy U U<|x (Q0 U U)<|Qb<|QY U (λhl=>?_) (λhl=>?_)
 ·have ho:q.p.a.st=0:=hl;rw[OU ho]at E;subst E;refine Qc<|Qb<|Qk ⟨[_],La,U,hw,λe=>OW e og⟩
 have ho:¬q.p.a.st=0:=hl;rw[OT ho]at E;refine Qc<|Q2 U<|Qs U hy U U<|x Zy<|ZP<|(QoY (q:=λe=>decide ((nev:Int)<=e)) (cap:=[.pointer (some ⟨b5,0,none⟩)]) (QQ.fl (hf.al.I O)) (λe he w2 T=>QiQ ((h5.I O).I T))).mono ?_;rintro r7 w7 ⟨rfl,h9⟩;have S:=O.D h9;have hB:=H.D S;refine Qb<|QX U (λhp=>?_) (λhp=>?_)
 ·rw[OU hp]at E;subst E;refine Qc<|Qb<|Qk ⟨[_],La,U,hB,λe=>OW e og⟩
 rw[OT (by rw[hp];decide)]at E;have hI:=h7.al_le;refine Qc<|Q2 U<|Qs U (hc.I S) U U<|Qa<|ZP<|(QgU (hf.al.I S) (h6.I S) oa).mono ?_;rintro r8 w8 ⟨hC,rfl⟩;have hz:=S.D hC;have h0:=H.D hz;refine x (zZ U)<|Qb<|QY U (λhq=>?_) (λhq=>?_)
 ·have hs:(mns q.p.a.al amg).length≠0:=λe=>hq (Lp e);rw[OU hs]at E;subst E;refine Qc<|Qb<|Qk ⟨[_],La,U,h0,λe=>OW e og⟩
 have hs:¬(mns q.p.a.al amg).length≠0:=λe=>hq (λh=>e (by rw[show mns q.p.a.al amg=[] from h];rfl));rw[OT hs]at E;subst E;refine Qh<|Qc<|Qb<|Qk ⟨[_],La,U,h0,λ_=>hv.I hz⟩
theorem Qaa {v:O2}{l:xx}(h:jj L w.heap v l):
  Q6 prog 90 [v] w λr w'=>O5 [] w w'/\w'.ownsRow w.heap.size 118 2 r l.length (l.flatMap QI):=by
 have hc:=h.le;refine Zq func90 ?_;refine Qc<|Qb ?_;obtain⟨ao,cap,G⟩:=h.shape;refine Qd<|Qm<|x (XB (show ev _ _=_ from G) U)<|xe<|QX rfl (λH=>?_) (λH=>?_)
 ·refine Qc<|Qb<|Qk ⟨[nS],La,O5.Z _ _,?_⟩;rcases h.2.2 with⟨E,I⟩|⟨a,c,E,_⟩
  ·have:l=[]:=Lp I;subst this;exact QL _ _ _ _
  rw[E]at G;cases G;cases H
 rcases h.2.2 with⟨E,I⟩|⟨a,c,E,I,V⟩
 ·rw[E]at G;injection G with e1;subst e1;cases H
 refine Qh<|Qc ?_;have Y:∀u∈l.flatMap QI,u.oneCell'=true:=by
  intro u hu;obtain⟨p,_,J⟩:=Mb.1 hu;simp only[oL,oJ,or_false]at J;rcases J with rfl|rfl <;> rfl
 refine Qe<|XG λb5 w1 O S T=>Qa<|Qe<|Za (base:=w.heap.size) (T.own (n:=0) (sz:=2) U oa S) U (show ev _ _=_ from E) h.1 (V.I O) Y oa (ou T.lt) λv2 w2 ha hb he=>Qb<|Qk ⟨[v2],La,O.O hb S,?_⟩;simpa[tup]using ha
theorem j9 {v:O2}{l:xx}(h:jj L w.heap v l):
  Q6 prog 91 [v] w λr w'=>O5 [] w w'/\w'.ownsRow w.heap.size 123 2 r l.length (l.flatMap QI):=by
 have hc:=h.le;refine Zq func91 ?_;refine Qc<|Qb ?_;obtain⟨ao,cap,G⟩:=h.shape;refine Qd<|Qm<|x (XB (show ev _ _=_ from G) U)<|xe<|QX rfl (λH=>?_) (λH=>?_)
 ·refine Qc<|Qb<|Qk ⟨[nS],La,O5.Z _ _,?_⟩;rcases h.2.2 with⟨E,I⟩|⟨a,c,E,_⟩
  ·have:l=[]:=Lp I;subst this;exact QL _ _ _ _
  rw[E]at G;cases G;cases H
 rcases h.2.2 with⟨E,I⟩|⟨a,c,E,I,V⟩
 ·rw[E]at G;injection G with e1;subst e1;cases H
 refine Qh<|Qc ?_;have Y:∀u∈l.flatMap QI,u.oneCell'=true:=by
  intro u hu;obtain⟨p,_,J⟩:=Mb.1 hu;simp only[oL,oJ,or_false]at J;rcases J with rfl|rfl <;> rfl
 refine Qe<|XG λb5 w1 O S T=>Qa<|Qe<|Za (base:=w.heap.size) (T.own (n:=0) (sz:=2) U oa S) U (show ev _ _=_ from E) h.1 (V.I O) Y oa (ou T.lt) λv2 w2 ha hb he=>Qb<|Qk ⟨[v2],La,O.O hb S,?_⟩;simpa[tup]using ha
theorem YG.low {base:Nat}{v:O2}(h:YG base av w.heap v n sz cs)(G:O5 X w w')(H:∀b∈X,b<base):YG base av w'.heap v n sz cs:=by
 intro L I;have J:Zn (X++L) w.heap v n sz cs:=h _ (λb E=>by
  rcases Lc.1 E with E|E
  ·exact .inl (H b E)
  exact I b E)
 exact(J.J G (λb E=>Lc.2 (.inl E))).up (λb E=>.inl (Lc.2 (.inr E)))
theorem Yz.low {α:Type}{g:α->LV}{sz T:Nat}{p:α->O2×Nat×Nat×LV}{base:Nat}{X:LN}{w w':O1}{v:O2}{l:List α}(h:Yz g sz T p base w v l)(E:O5 X w w')(G:∀b∈X,b<base):Yz g sz T p base w' v l :=
 ⟨Qg h.own E (λb H I=>ov (Qi h.own b H).1 (G b I)),λq J=>(h.each q J).low E G⟩
theorem Yz.arr {g:α->LV}{p:α->O2×Nat×Nat×LV}{base:Nat}{v:O2}{l:List α}(h:Yz g sz T p base w v l)(E:l.length<=1099511627776)(G:∀b∈L,b<base):Zn L w.heap v l.length sz (l.flatMap g):=
 QJ h.own E (λb H hbL=>ov (Qi h.own b H).1 (G b hbL))
abbrev xvP (q:XV):O2×Nat×Nat×LV:=(q.v,q.ls.length,2,q.ls.flatMap QI)
abbrev kvP (q:KV):O2×Nat×Nat×LV:=(q.v,q.ts.length,2,q.ts.flatMap QI)
abbrev XvN (base:Nat)(w:O1)(v:O2)(l:List XV):Prop:=Yz Q8 2 116 xvP base w v l
abbrev KvN (base:Nat)(w:O1)(v:O2)(l:List KV):Prop:=Yz Zd 3 121 kvP base w v l
theorem XvN.xcs {base:Nat}{v:O2}{l:List XV}{qs:List XV}(h:XvN base w v l)(J:l.map (·.x)=qs.map (·.x))(E:∀q∈qs,Jp q.nm)(O:l.length<=1099511627776)(G:∀b∈L,b<base):yY L w.heap v l:=by
 refine⟨h.arr O G,λq E=>h.each q E L (λb S=>.inl (G b S)),λq T=>?_⟩;have V:q.x∈qs.map (·.x):=by rw[<-J];exact LO T
 obtain⟨H,Y,e⟩:=LC.1 V;have I:=E H Y;have h3:H.nm=q.nm:=OV UV.nm e;rw[h3]at I;exact I
theorem KvN.kcs {base:Nat}{v:O2}{l:List KV}{qs:List KV}(h:KvN base w v l)(J:l.map (·.k)=qs.map (·.k))(E:∀q∈qs,Jp q.nm)(O:l.length<=1099511627776)(G:∀b∈L,b<base):yT L w.heap v l:=by
 refine⟨h.arr O G,λq E=>h.each q E L (λb S=>.inl (G b S)),λq T=>?_⟩;have V:q.k∈qs.map (·.k):=by rw[<-J];exact LO T
 obtain⟨H,Y,e⟩:=LC.1 V;have I:=E H Y;have h3:H.nm=q.nm:=OV xL.nm e;rw[h3]at I;exact I
theorem Qt {base e:Nat}{v:O2}(h:w.ownsRow base e sz v n cs):v.oneCell'=true:=by
 rcases h.2 with⟨E,_⟩|⟨g,cap,cur,E,_⟩ <;> subst E <;> rfl
theorem xM {base e:Nat}{v:O2}(h:w.ownsRow base e sz v n cs):v.cells=#[v]:=by
 rcases h.2 with⟨E,_⟩|⟨g,cap,cur,E,_⟩ <;> subst E <;> rfl
theorem Qas {q:XV}(h:q.v.oneCell'=true):∀u∈Q8 q,u.oneCell'=true:=by
 intro u E;simp only[oL,oJ,or_false]at E;rcases E with rfl|rfl
 ·rfl
 exact h
theorem QeP {q:KV}(h:q.v.oneCell'=true):∀u∈Zd q,u.oneCell'=true:=by
 intro u E;simp only[oL,oJ,or_false]at E;rcases E with rfl|rfl|rfl
 ·rfl
 ·exact h
 rfl
def Qrq (N:Nat)(w:O1)(r:O2)(sz:LI)(ex:List UV)(cs:List xL):Prop:=∃vs vx vk qx ks,r=.agg #[vs,vx,vk]/\qx.map (·.x)=ex/\ks.map (·.k)=cs/\∀L:LN,(∀b∈L,b<N)->QQ L w.heap vs sz/\yY L w.heap vx qx/\yT L w.heap vk ks
theorem Qai {c:CL}(h:ZK L w.heap c):
  Q6 prog 85 [c.val] w λr w'=>O5 [] w w'/\Qrq w.heap.size w' r (szs c.V.co) c.V.ex c.V.cs:=by
 have pc:=h.co.arr.le;have pd:=h.ex.arr.le;have pf:=h.cs.arr.le;refine Zq func85 ?_;refine Qc<|Qe<|QS (us:=c.cells) U λb1 w1 ga pg gb=>Qe<|Qo (us:=[nS,nS,nS]) U λb2 w2 gc ph gg=>xe ?_;have pj:=ga.size;have pm:=gb.lt;have pn:=gg.lt;refine Qc<|x (Qz Z)<|Qe<|Qo (us:=[nS,nS,nS]) U λG w3 g8 g9 h8=>Qe<|Qj (us:=[nS,nS,nS]) h8 U U U U oB λw4 ka h8 =>
  xe ?_
 have po:=h8.lt;have V:O5 [] w2 w4:=g8.O ka g9;have gh:O5 [] w w4:=(ga.D gc).D V;have gi:=(gb.I gc).I V;have kb:=gg.I V;have h4:=h.I gh;have pp:b1<G:=oa
 have pu:b2<G:=oa
 have kc:w.heap.size<=G:=oa
 have hJ:∀{wa wb:O1},O5 [G] wa wb->O5 [] w wa->O5 [] w wb:=λha E=>E.O ha kc;refine Qd<|Qc<|Qs U gi U U<|QK h4.co.arr U<|Qa<|xe<|Qf<|QD (α:=Nat×O2) [(5,5),(14,26)] (λz=>[(14,oF oG z.1)]) (λz w'=>z.1<=c.co.length/\O5 [G] w4 w'/\Zb w'.heap G 206 [z.2,nS,nS]/\Qu 3 w4.heap.size w' z.2 ((c.co.take z.1).map (·.p.a.st))) (λz=>c.co.length - z.1) ol (0,nS) La
  ⟨Ln _,O5.Z _ _,h8,QL _ _ _ _⟩ ?_
 rintro⟨k,vs⟩ g w5 ⟨hk,hv,h9,O⟩;simp only[]at hk h9 O;have gj:=hJ hv gh;have h5:=h.I gj;have gk:=gi.J hv (by simp;omega);have ke:=kb.J hv (by simp;omega);have pw:=hv.size;refine Qc<|QZ U U<|xe<|Qd<|QG U (λhK=>?_) (λhK=>?_)
 ·refine Qy ?_;have kf:c.co.length<=k:=by have T:¬(k:Int)<(c.co.length:Int):=hK;omega
  rw[Lt kf]at O;refine Qd<|Qc<|Qs U gk U U<|QK h5.ex.arr U<|Qa<|xe<|Qf<|QD (α:=Nat×O2×List XV) [(7,7),(30,45)] (λz=>[(30,oF oG z.1)]) (λz w'=>z.1<=c.ex.length/\O5 [G] w5 w'/\Zb w'.heap G 206 [vs,z.2.1,nS]/\XvN w5.heap.size w' z.2.1 z.2.2/\z.2.2.map (·.x)=(c.ex.take z.1).map (·.x)) (λz=>c.ex.length - z.1) ol (0,nS,[]) La
   ⟨Ln _,O5.Z _ _,h9,Yz.nil,U⟩ ?_
  rintro⟨j,vx,qx⟩ g w6 ⟨hj,Y,hM,hf,hg⟩;simp only[]at hj hM hf hg;have gl:=hJ Y gj;have h6:=h.I gl;have kg:=gk.J Y (by simp;omega);have kh:=ke.J Y (by simp;omega);have pz:=Y.size;have p0:qx.length=j:=by have:=OV oP hg;simp at this;omega
  refine Qc<|QZ U U<|xe<|Qd<|QG U (λhN=>?_) (λhN=>?_)
  ·refine Qy ?_;have ki:c.ex.length<=j:=by have T:¬(j:Int)<(c.ex.length:Int):=hN;omega
   rw[Lt ki]at hg;refine Qd<|Qc<|Qs U kg U U<|QK h6.cs.arr U<|Qa<|xe<|Qf<|QD (α:=Nat×O2×List KV) [(9,9),(49,66)] (λz=>[(49,oF oG z.1)]) (λz w'=>z.1<=c.cs.length/\O5 [G] w6 w'/\Zb w'.heap G 206 [vs,vx,z.2.1]/\KvN w6.heap.size w' z.2.1 z.2.2/\z.2.2.map (·.k)=(c.cs.take z.1).map (·.k)) (λz=>c.cs.length - z.1) ol (0,nS,[]) La
    ⟨Ln _,O5.Z _ _,hM,Yz.nil,U⟩ ?_
   rintro⟨i,vk,ks⟩ g w7 ⟨hi,hh,hO,hn,ho⟩;simp only[]at hi hO hn ho;have gm:=hJ hh gl;have h7:=h.I gm;have kj:=kh.J hh (by simp;omega);have p1:=hh.size;have p2:ks.length=i:=by have:=OV oP ho;simp at this;omega
   refine Qc<|QZ U U<|xe<|Qd<|QG U (λhP=>?_) (λhP=>?_)
   ·refine Qy ?_;have kk:c.cs.length<=i:=by have T:¬(i:Int)<(c.cs.length:Int):=hP;omega
    rw[Lt kk]at ho;have kn:Zr [vs,vx,vk]:=⟨Qt O,Qt hf.own,Qt hn.own,Z⟩;refine Qc<|Q5 hO U U<|Qe<|Qj (us:=[vs,vx,vk]) kj U U U U kn λw8 hA ko=>xe ?_;refine Qk ⟨[.agg #[vs,vx,vk]],⟨⟨_,U,Qn U (ko.at (L:=[]) oe).cells⟩,Z⟩,gm.O hA oa,?_⟩;have kq:=Qg ((Qg O Y (λb E H=>by have:=(Qi O b E).1;simp at H;omega))) hh (λb E H=>by have:=(Qi O b E).1;simp at H;omega);have kr:=Qg kq hA (λb E H=>by have:=(Qi O b E).1;simp at H;omega);have kt:=(Yz.low hf hh (by simp;omega)).low hA (by simp;omega);have ku:=Yz.low hn hA (by simp;omega);refine⟨vs,vx,vk,qx,ks,U,hg,ho,λL hL=>⟨?_,XvN.xcs kt hg h.ex.nm oa (λb E=>ou (hL b E)),KvN.kcs ku ho h.cs.nm oa (λb E=>ou (hL b E))⟩⟩;have he:szs c.V.co=c.co.map (·.p.a.st):=by show((c.co.map IV.it).map _)=_;rw[Mu];rfl
    rw[he];exact Qu.ints kr (by rw[Lh];omega) (λb E=>ou (hL b E))
   have hp:i<c.cs.length:=by have T:(i:Int)<(c.cs.length:Int):=hP;omega
   have gn:=Ll hp;have go:c.cs.take (i+1)=c.cs.take i++[c.cs[i]'hp]:=Lm hp;refine Qh<|Qd<|Qf<|Qc<|O8 Xp h7.cs.arr U U hp λp3 gp=>?_;refine Zk (c.cs[i]'hp) λq hq=>?_;rw[hq]at gp gn go;have J:=h7.cs.each q gn;refine x (Qx gp U U)<|Qe<|Qo (us:=[.string .empty,nS,oF oG 0]) U λb9 w9 kv kw hw=>Qe<|Qj (us:=Zd q) hw U U U U ⟨U,J.one,U,Z⟩ λhr kx hw =>
    xe ?_
   have hB:O5 [] w7 hr:=kv.O kx kw;have gq:=hO.I hB;have hQ:=Qi hn.own;have S:G∉ob vk:=λH=>ou (hQ G H).1
   have hR:b9∉ob vk:=λH=>ou (hQ b9 H).2
   refine ZD (ob vk) [oD 0,oD 1,oD 2,oD 3,oD 4,oD 5,oD 7,oD 8,oE 6,oD 9,oE 10,oE 11,oD 12,oE 13] ?_;have kz:=hB.D (O5.C [] hr);refine p (QR U)<|pq (λ_ I=>Qq (gq.J I S) U U)<|p (QR U)<|pq (λ_ I=>Qq (hw.J I hR) U U) <|
    p (QR rfl)<|pq (λ_ I=>Qq (hw.J I hR) U U)<|p (QR U)<|pq (λ_ I=>Qq (hw.J I hR) U U) <|
    pk<|xg<|(j9 (J.I kz)).mono ?_
   rintro hy p4 ⟨k0,hS⟩;have hz:=(O5.C [] hr).D k0;refine⟨hz.any,?_⟩;refine p (λ_=>Qz ⟨U,xM hS,U,Z⟩)<|pk<|QC (us:=[Zd ⟨q.nm,hy,q.ts,q.bd⟩]) U U og oe ⟨rfl,rfl,Z⟩ λp5 p6 h0 p7 k4=>⟨(hz.D h0).any,?_⟩;have hC:=(hB.D hz).D h0;have hT:hr.heap.size=({ hr with drawn:=hr.drawn+1 }:O1).heap.size:=rfl
   have p8:=hB.size;have p9:=hC.size;refine pk<|Za (news:=Zd ⟨q.nm,hy,q.ts,q.bd⟩) (L:=[]) (Qp hn.own hC) U U U (k4.at oe) (QeP (q:=⟨q.nm,hy,q.ts,q.bd⟩) (Qt hS)) oa oa λhU gr gs hD k5=>⟨((hz.D h0).any (L:=ob vk)).Q hD,?_⟩;have k6:KvN w6.heap.size gr hU (ks++[⟨q.nm,hy,q.ts,q.bd⟩]):=Yz.app hn hC (Qp hS h0) J.le (by rw[<-hT];omega) oa gs hD k5;have k7:=(gq.J ((hz.D h0).any (L:=ob vk)) S).J hD S;refine p (QR U)<|pkl (hl:=by kernel_rfl)<|QB (j:=2) (u:=hU) k7 U U oe (Qt gs) λqc gt k8=>pe ?_;have k9:O5 [G] w6 gr:=(hh.D hC).then hD (λb E=>.inr (hQ b E).1);refine Qw<|QP U U<|Qa<|xe<|⟨(i+1,hU,ks++[⟨q.nm,hy,q.ts,q.bd⟩]),oh,La,hp,?_,k8,Yz.low k6 gt (by simp;omega),?_⟩
   ·exact k9.Q gt
   simp only[];rw[Ls,ho,go,Ls];rfl
  have hs:j<c.ex.length:=by have T:(j:Int)<(c.ex.length:Int):=hN;omega
  have gu:=Ll hs;have gv:c.ex.take (j+1)=c.ex.take j++[c.ex[j]'hs]:=Lm hs;refine Qh<|Qd<|Qf<|Qc<|O8 Xz h6.ex.arr U U hs λqf gw=>?_;refine Zk (c.ex[j]'hs) λq hq=>?_;rw[hq]at gw gu gv;have J:=h6.ex.each q gu;refine x (Qx gw U U)<|Qe<|Qo (us:=[.string .empty,nS]) U λb7 ql ma mf hE=>Qe<|Qj (us:=Q8 q) hE U U U U ⟨U,J.one,Z⟩ λht mg hE =>
   xe ?_
  have hF:O5 [] w6 ht:=ma.O mg mf;have gx:=hM.I hF;have hV:=Qi hf.own;have S:G∉ob vx:=λH=>ou (hV G H).1
  have gy:b7∉ob vx:=λH=>ou (hV b7 H).2
  refine ZD (ob vx) (Xb 0 12 [6,8,9,11]) ?_;have mh:=hF.D (O5.C [] ht);refine p (QR U)<|pq (λ_ I=>Qq (gx.J I S) U U)<|p (QR U)<|pq (λ_ I=>Qq (hE.J I gy) U U) <|
   p (QR rfl)<|pq (λ_ I=>Qq (hE.J I gy) U U)<|pk<|xg<|(Qaa (J.I mh)).mono ?_
  rintro h1 qo ⟨mj,hW⟩;have h2:=(O5.C [] ht).D mj;refine⟨h2.any,?_⟩;refine p (λ_=>Qz ⟨U,xM hW,Z⟩)<|pk<|QC (us:=[Q8 ⟨q.nm,h1,q.ls⟩]) U U og oe ⟨rfl,rfl,Z⟩ λqr q0 h3 q1 mo=>⟨(h2.D h3).any,?_⟩;have hG:=(hF.D h2).D h3;have hT:ht.heap.size=({ ht with drawn:=ht.drawn+1 }:O1).heap.size:=rfl
  have q2:=hF.size;have q3:=hG.size;refine pk<|Za (news:=Q8 ⟨q.nm,h1,q.ls⟩) (L:=[]) (Qp hf.own hG) U U U (mo.at oe) (Qas (q:=⟨q.nm,h1,q.ls⟩) (Qt hW)) oa oa λhX gz g0 hH mq=>⟨((h2.D h3).any (L:=ob vx)).Q hH,?_⟩;have ms:XvN w5.heap.size gz hX (qx++[⟨q.nm,h1,q.ls⟩]):=Yz.app hf hG (Qp hW h3) J.le (by rw[<-hT];omega) oa g0 hH mq;have mt:=(gx.J ((h2.D h3).any (L:=ob vx)) S).J hH S;have mu:O5 [G] w5 gz:=(Y.D hG).then hH (λb E=>.inr (hV b E).1);refine p (QR U)<|pkl (hl:=by kernel_rfl)<|QB (j:=1) (u:=hX) mt U U oe (Qt g0) λq4 g2 mv=>pe ?_;refine Qw<|QP U U<|Qa<|xe<|⟨(j+1,hX,qx++[⟨q.nm,h1,q.ls⟩]),oh,La,hs,?_,mv,Yz.low ms g2 (by simp;omega),?_⟩
  ·exact mu.Q g2
  simp only[];rw[Ls,hg,gv,Ls];rfl
 have hu:k<c.co.length:=by have T:(k:Int)<(c.co.length:Int):=hK;omega
 have g3:=Ll hu;have g4:c.co.take (k+1)=c.co.take k++[c.co[k]'hu]:=Lm hu;have q5:((c.co.take k).map (·.p.a.st)).length=k:=by simp;omega
 refine Qh<|Qd<|Qf<|Qc<|O8 Yp h5.co.arr U U hu λj1 T=>?_;refine Zk (c.co[k]'hu) λq hq=>?_;rw[hq]at T g3 g4;have J:=h5.co.each q g3;refine x (Qx T U U)<|Qe<|Qo (us:=[.string .empty,nS,oF oG 0,nS,nS]) U λb5 j2 mw my hY=>Qe<|Qj (us:=QO q) hY U U U U ⟨U,J.al.one,U,J.mr.one,J.ed.one,Z⟩ λmz m2 hY =>
  xe ?_
 have g5:O5 [] w5 mz:=mw.O m2 my;have m3:=h9.I g5;refine Qw<|Qs U m3 U U<|Q2 U<|Qs U hY U U<|Qe<|QC (us:=[[oF oG q.p.a.st]]) U U og oe ⟨rfl,rfl,Z⟩ λj3 za m4 zb m5=>?_;have hI:=g5.D m4;have zv:=hI.size;have g6:=Qi O;have S:G∉ob vs:=λH=>ou (g6 G H).1
 refine Qe<|Za (news:=[oF oG q.p.a.st]) (L:=[]) (Qp O hI) U U U (m5.at oe) (by simp[Value.oneCell']) oa oa λv24 m6 hZ V z0=>?_;have m7:=(h9.I hI).J V S;have m8:O5 [G] w4 m6:=(hv.D hI).then V (λb E=>.inr (g6 b E).1);refine Q2 rfl<|Qe<|QB (j:=0) (u:=v24) m7 U U oe (Qt hZ) λz1 g7 m9 =>
  xe ?_
 have pa:=Qg hZ g7 (λb E H=>by have:=(Qi hZ b E).1;simp at H;omega);refine Qw<|QP U U<|Qa<|xe<|⟨(k+1,v24),oh,La,hu,m8.Q g7,m9,?_⟩;simp only[];rw[g4,Ls];exact Qu.snoc (n:=q.p.a.st) pa
theorem Qbu (n:Nat):K1 (n+1)=K1 n++[(n:Int)]:=by unfold K1;rw[Ny,Ls];rfl
theorem Qau (n:Nat):(K1 n).length=n:=by unfold K1;simp
theorem J3 {k:Nat}{l:List IV}(h:k<l.length):(l.drop k).map (·.it)=(l[k]'h).it::(l.drop (k+1)).map (·.it):=by rw[Zg h];rfl
theorem yJ {s:List ByteArray}{x:Xt}(h:Yo n u s x=0):ZE x.a:=by
 unfold Yo at h;split at h
 ·cases h
 split at h
 ·cases h
 split at h
 ·rename_i E G;exact OW h G
 rename_i E;exact(Z1 _).1 (Lo.1 E)
theorem Ud {s:List ByteArray}{x:Xt}{l:List Xt}:Yu n al s u (x::l)=if Yo n al s x≠0 then(Yo n al s x,s,u)else Yu n al (s++[x.nm]) (mrg (· || ·) u x.a.al) l:=rfl
theorem Ub {s:List ByteArray}{x:Xt}{l:List Xt}:JP n u s (x::l)=if Yo n u s x≠0 then Yo n u s x else JP n u (s++[x.nm]) l:=rfl
theorem X2 {c:CL}(h:ZK L w.heap c):
  Q6 prog 43 [c.val] w λr w'=>r=oF oG (Zl c.V)/\O5 [] w w':=by
 have kc:=h.co.arr.le;have ke:=h.rq.arr.le;have E:Zl c.V=(if Ke c.ev≠0 then Ke c.ev else if c.co.length=0 then 12 else if 8<c.co.length\/12<c.co.length+c.rq.length then 3 else
  if(Yu c.ev.length (K1 c.ev.length) [] [] (c.co.map (·.it))).1≠0 then(Yu c.ev.length (K1 c.ev.length) [] [] (c.co.map (·.it))).1 else
  if JP c.ev.length (Yu c.ev.length (K1 c.ev.length) [] [] (c.co.map (·.it))).2.2 (Yu c.ev.length (K1 c.ev.length) [] [] (c.co.map (·.it))).2.1 (c.rq.map (·.it))≠0 then JP c.ev.length (Yu c.ev.length (K1 c.ev.length) [] [] (c.co.map (·.it))).2.2 (Yu c.ev.length (K1 c.ev.length) [] [] (c.co.map (·.it))).2.1 (c.rq.map (·.it))else
  Yw (szs c.V.co) c.V.ex c.V.cs):=by
  unfold Zl;rw[show c.V.co.length=c.co.length from Lh ..,show c.V.rq.length=c.rq.length from Lh ..];rfl
 refine Zk (Zl c.V) λR hR=>?_;rw[hR]at E ⊢;refine Zk (Yu c.ev.length (K1 c.ev.length) [] [] (c.co.map (·.it))) λCO h6=>?_;rw[h6]at E;refine Zq func43 ?_;refine Qc<|Qe<|QS (us:=c.cells) U λb1 w1 h7 kf h8=>Qb<|Qd<|Qc<|Qs U h8 U U<|QM<|(yC (h.ev.I h7)).mono ?_;rintro r2 w2 ⟨rfl,h9⟩;refine Qb ?_;have Y:=h7.D h9;have hl:=h8.I h9;have h2:=h.I Y;refine Qm<|ZA U U<|xe<|QY rfl (λhm=>?_) (λhm=>?_)
 ·rw[OU hm]at E;subst E;refine Qm<|Qb<|Qk ⟨[_],La,U,Y⟩
 rw[OT hm]at E;have kg:c.ev.length<=32:=by
  refine Lo.1 λhn=>?_;apply hm;unfold Ke;rw[OU oa];decide
 refine Qh<|Qd<|Qc<|Qs U hl U U<|QK h2.co.arr U<|Qb<|Qf<|Qm<|x (Q0 U U)<|Qb<|QY U (λhu=>?_) (λhu=>?_)
 ·have hv:c.co.length=0:=by have hX:(c.co.length:Int)=0:=hu;omega
  rw[OU hv]at E;subst E;refine Qc<|Qb<|Qk ⟨[_],La,U,Y⟩
 have hv:¬c.co.length=0:=by have hX:¬(c.co.length:Int)=0:=hu;omega
 rw[OT hv]at E;refine Q3 (α:=Bool) [(27,37)] (λz=>[(27,.bool z)]) (λz w'=>w'=w2/\z=decide (8<c.co.length\/12<c.co.length+c.rq.length)) ol ?_ ?_
 ·refine Qw<|Qa<|xb (Z7 U U) (λhY=>?_) (λhY=>?_)
  ·refine Qa<|Qr<|Qr<|Qr<|Qr<|Qr<|Qr<|QH U<|Qb<|⟨_,La,U,bT (.inl oa)⟩
  refine Qa<|Qa<|Qs U hl U U<|QK h2.rq.arr U<|x (XR U U ⟨oa,oa⟩) <|
   x (Z7 rfl U)<|QH U<|Qb<|⟨_,La,U,bD oa⟩
 rintro z g w3 ⟨rfl,rfl⟩;refine QY rfl (λhw=>?_) (λhw=>?_)
 ·rw[OU hw]at E;subst E;refine Qc<|Qb<|Qk ⟨[_],La,U,Y⟩
 rw[OT hw]at E;refine Qh<|Qc<|Qe<|YC JL λbm w4 hA kh hB=>Qb ?_;have ki:=hB.lt;have kj:=hl.lt;have hC:=Y.D hA;have hD:=hl.I hA;have hE:b1≠bm:=oa
 have hge:w.heap.size<=bm:=oa
 have hM:ZK [bm] w.heap c:=h.up (λb hb=>.inr (by simp at hb;omega));have hG:=hM.I hC;refine Qc<|x Ql<|Qb<|Qd<|Qc<|Qs U hD U U<|QK hG.ev.arr U<|Qa<|xe<|Qf<|QD (α:=Nat×O2) [(6,6),(8,8),(42,49)] (λz=>[(6,z.2),(42,oF oG z.1)]) (λz w'=>z.1<=c.ev.length/\O5 [] w4 w'/\Qu 3 w4.heap.size w' z.2 (K1 z.1)) (λz=>c.ev.length - z.1) ol (0,nS) oA
  ⟨Ln _,O5.Z _ _,QL _ _ _ _⟩ ?_
 rintro⟨k,vg⟩ g w5 ⟨hk,ha,ho⟩;simp only[]at hk ho;have kk:=Qau k;refine Qc<|QZ U U<|xe<|Qd<|QG U (λhy=>?_) (λhy=>?_)
 ·refine Qy ?_;have hc:k=c.ev.length:=by have he:¬(k:Int)<(c.ev.length:Int):=hy;omega
  subst hc;have hZ:QQ [bm] w5.heap vg (K1 c.ev.length):=Qu.ints ho oa (by simp;omega);have ga:=hB.I ha;have hH:=hD.I ha;have hI:=hG.I ha;have gb:=hC.D ha;refine Qd<|Qc<|Qs U hH U U<|QK hI.co.arr U<|Qa<|xe<|Qf<|QD (α:=Nat×O2×List ByteArray×LI) [(2,2),(7,7),(10,11),(53,72)] (λz=>[(7,z.2.1),(53,oF oG z.1)]) (λz w'=>z.1<=c.co.length/\O5 [bm] w5 w'/\Yk JL w'.heap bm (nmM z.2.2.1)/\QQ [bm] w'.heap z.2.1 z.2.2.2/\z.2.2.2.length<=32*z.1/\Yu c.ev.length (K1 c.ev.length) z.2.2.1 z.2.2.2 ((c.co.drop z.1).map (·.it))=CO) (λz=>c.co.length - z.1) ol (0,nS,[],[]) oA
   ⟨Ln _,O5.Z _ _,ga,Zn.nil _ _ _,oe,h6⟩ ?_
  rintro⟨k,vu,sn,u⟩ g w6 ⟨hk,hf,hp,hz,gc,H⟩;simp only[]at hk hp hz gc H;have hJ:O5 [] w w6:=gb.O hf hge;have h0:=hH.J hf (oz hE);have S:=hI.st hf;refine Qc<|QZ U U<|xe<|Qd<|QG U (λh1=>?_) (λh1=>?_)
  ·refine Qy ?_;have hc:k=c.co.length:=by have he:¬(k:Int)<(c.co.length:Int):=h1;omega
   subst hc;rw[Lq (Lu _)]at H;have gg:CO=(0,sn,u):=H.symm;subst gg;rw[OT oe]at E;simp only[]at E;refine Zk (JP c.ev.length u sn (c.rq.map (·.it))) λRQ hK=>?_;rw[hK]at E;refine Qd<|Qc<|Qs U h0 U U<|QK S.rq.arr U<|Qa<|xe<|Qf<|QD (α:=Nat×List ByteArray) [(2,2),(13,14),(76,90)] (λz=>[(76,oF oG z.1)]) (λz w'=>z.1<=c.rq.length/\O5 [bm] w6 w'/\Yk JL w'.heap bm (nmM z.2)/\JP c.ev.length u z.2 ((c.rq.drop z.1).map (·.it))=RQ) (λz=>c.rq.length - z.1) ol (0,sn) La
    ⟨Ln _,O5.Z _ _,hp,hK⟩ ?_
   rintro⟨k,sm⟩ g w7 ⟨hk,hg,hL,I⟩;simp only[]at hk hL I;have hN:O5 [] w w7:=hJ.O hg hge;have hO:=h0.J hg (oz hE);have hh:=S.st hg;have gh:=hz.st hg;refine Qc<|QZ U U<|xe<|Qd<|QG U (λh3=>?_) (λh3=>?_)
   ·refine Qy ?_;have hc:c.rq.length<=k:=by have he:¬(k:Int)<(c.rq.length:Int):=h3;omega
    rw[Lq hc]at I;have gi:RQ=0:=I.symm;rw[OT (by rw[gi];decide)]at E;refine Qc<|Q5 hO U U<|QM<|(Qai hh).mono ?_;rintro r8 w8 ⟨gj,vs,vx,vk,qx,ks,rfl,gk,gl,hF⟩;obtain⟨gm,gn,go⟩:=hF [] oe;refine QM<|(yB gm gn go).mono ?_;rintro r9 w9 ⟨rfl,gp⟩;rw[gk,gl,<-E];refine Qb<|Qk ⟨[_],La,U,(hN.D gj).D gp⟩
   have G:k<c.rq.length:=by have he:(k:Int)<(c.rq.length:Int):=h3;omega
   have O:=Ll G;rw[J3 G,Ub]at I;refine Qh<|Qd<|Qf<|Qc<|O8 Yp hh.rq.arr U U G λkn hP=>?_;refine Zk (c.rq[k]'G) λq hq=>?_;rw[hq]at hP O I;have J:=hh.rq.each q O;refine x (Qx hP U U)<|Qe<|Qo (us:=[.string .empty,nS,oF oG 0,nS,nS]) U λb13 ko gq gr h4=>Qe<|Qj (us:=QO q) h4 U U U U ⟨U,J.al.one,U,J.mr.one,J.ed.one,Z⟩ λgs gt h4 =>
    xe ?_
   have T:O5 [] w7 gs:=gq.O gt gr;refine Qc<|Q5 h4 U U<|Qs U (hO.I T) U U<|QK (hh.ev.I T).arr U<|Qa<|Qa<|QM<|(QeV (J.I T) (hh.rq.nm q O) (gh.I T) oa (hL.I T) oe oe).mono ?_;rintro kq kr ⟨rfl,hQ,gu⟩;refine Qb<|Qm<|ZA U U<|xe<|QY U (λhi=>?_) (λhi=>?_)
   ·rw[OU hi]at I;rw[OU (by rw[<-I];exact hi)]at E;refine Qm<|Qb<|Qk ⟨[_],La,by rw[E,<-I];rfl,(hN.D T).O hQ hge⟩
   rw[OT hi]at I;refine Qh<|Qw<|QP U U<|Qa<|xe ?_;exact⟨(k+1,sm++[q.nm]),oh,La,G,(hg.D T).Q hQ,gu (Lo.1 hi),I⟩
  have G:k<c.co.length:=by have he:(k:Int)<(c.co.length:Int):=h1;omega
  have O:=Ll G;rw[J3 G,Ud]at H;refine Qh<|Qd<|Qf<|Qc<|O8 Yp S.co.arr U U G λkt hS=>?_;refine Zk (c.co[k]'G) λq hq=>?_;rw[hq]at hS O H;have J:=S.co.each q O;have gv:=hZ.st hf;refine x (Qx hS U U)<|Qe<|Qo (us:=[.string .empty,nS,oF oG 0,nS,nS]) U λku kv gw gx hs=>Qe<|Qj (us:=QO q) hs U U U U ⟨U,J.al.one,U,J.mr.one,J.ed.one,Z⟩ λgy gz hs =>
   xe ?_
  have V:O5 [] w6 gy:=gw.O gz gx;have kw:=hp.lt;refine Qd<|Qc<|Q5 hs U U<|Qs U (h0.I V) U U<|QK (S.ev.I V).arr U<|Qa<|Qa<|QM<|(QeV (J.I V) (S.co.nm q O) (gv.I V) oa (hp.I V) oe oe).mono ?_;rintro kx g0 ⟨rfl,h5,g2⟩;refine Qb<|Qm<|ZA U U<|xe<|QY U (λhj=>?_) (λhj=>?_)
  ·rw[OU hj]at H;rw[OU (by rw[<-H];exact hj)]at E;refine Qm<|Qb<|Qk ⟨[_],La,by rw[E,<-H];rfl,(hJ.D V).O h5 hge⟩
  rw[OT hj]at H;have hT:Yo c.ev.length (K1 c.ev.length) sn q.it=0:=Lo.1 hj;have g3:=(yJ hT).al_le;have kz:q.p.a.al.length<=32:=g3;refine Qh ?_;have ht:O5 [bm] w6 g0:=V.any.Q h5;have g4:=hz.st ht;have k0:=ht.size;refine Qw<|Qa<|Q2 U<|Qs U (hs.J h5 (by simp;omega)) U U<|QM<|(QcR g4 (S.st ht |>.co.each q O |>.al) oa).mono ?_;rintro g5 k4 ⟨hU,g6⟩;refine Qb ?_;have k5:=QaP (· || ·) u q.p.a.al;refine Qw<|QP U U<|Qa<|xe ?_;exact⟨(k+1,g5,sn++[q.nm],mrg (· || ·) u q.p.a.al),oh,oA,G,(hf.Q ht).D hU,(g2 hT).I hU,Qu.ints g6 (by show(mrg _ _ _).length<=_;omega) (by simp;omega),oh,H⟩
 have G:k<c.ev.length:=by have he:(k:Int)<(c.ev.length:Int):=hy;omega
 refine Qh<|Qd<|Qf<|Qm<|Qb<|Qw<|Qa<|Qa<|Qe<|QC (us:=[[oF oG k]]) U U og oe ⟨rfl,rfl,Z⟩ λk6 k7 hV k8 g7=>?_;have hW:=ha.D hV;have k9:=hW.size;have g8:=Qi ho;refine Qe<|Za (news:=[oF oG k]) (L:=[]) (Qp ho hV) U U U (g7.at oe) (by simp[Value.oneCell']) oa oa λg9 ma ka kb mf =>
  Qb<|Qw<|QP U U<|Qa<|xe ?_
 refine⟨(k+1,g9),oh,oA,G,hW.then kb (λb hb=>.inr (g8 b hb).1),?_⟩;simp only[];rw[Qbu];exact Qu.snoc (n:=(k:Int)) ka
end Go.Lg
