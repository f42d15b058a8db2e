/- Merged out of 60 texts. -/
import Derived.Test.YteekilnpgonojaaGreatDoorNfa
import Derived.Laws.Strings
import Derived.RangeFuncNested
import Derived.RangeFuncLeaves
import Derived.RangeFuncCalls
import Derived.OrdersIn
import Derived.TacticsIn
set_option maxHeartbeats 40000000
set_option maxRecDepth 100000
set_option linter.all false
open Go Go.Lg
open Go.Value renaming int->oE
open Go.IntKind renaming i64->oF
open _root_.List renaming mem_singleton->oH,not_mem_nil->oI,mem_cons->oK,length_append->oL,replicate->oM,length_singleton->oN,length->oO,getD->oP,range'->oQ,all_cons->oR,mem_append->oS,append_assoc->oT,length_cons->oU,range->oW,getElem?_toArray->oY,map_cons->oZ,cons_append->o8,size_toArray->o9,flatMap_cons->Oa,headD_cons->Oe,all_eq_true->Og,tail_cons->Oh,length_map->Ol,singleton_append->On,append_nil->Oq,range'_succ->Ov,mem_range'_1->Oz,mem_map->OE,flatMap_nil->OF,map_nil->OM
open _root_.Bool renaming and_eq_true->oJ,not_eq_true'->Ob,or_eq_false_iff->Oc,true_and->OH
open _root_.Array renaming replicate->oV
open _root_.Nat renaming add_mul->Oj,add_assoc->OG,zero_mul->OK,beq->OO
open _root_.Option renaming map_some->Ot
open _root_.Int renaming toNat_natCast->Ou
open Go renaming World->OX,Value->OY,Operand->OZ,Program->O0
open Go.Proofs Go.Proofs.Tryz
variable {w w' W':OX}{L L' X ds av:LN}{n t i sz b T j g N E id ty b1 cap B kt lo hi b2 et G M gf:Nat}{H:xu}{cs us news capt:LV}{a:Q2}{α β:Type}{y:OZ}{z ve va vm vt v' vl vs vx vk:OY}{l u ul out al rs:LI}{f f1:Fr}{P:O0}{fn:Func}{aa:List Q2}{o:Oper}{s:Int}{es:List Ed}{d:xz}{af:xw}{gd:xj}{K:xr}{k':IntKind}{pl rest:xo}{at_:Array Nat}{ops:xx}{ls:xq}{Φ:OY→OX→Prop}
namespace Go.Lg
def gget:List ((Int×Int)×Int)->Int×Int->Option Int
 | [],_=>none
 | (k',v)::m,k=>if k'=k then some v else gget m k
def gput:List ((Int×Int)×Int)->Int×Int->Int->List ((Int×Int)×Int)
 | [],k,v=>[(k,v)]
 | (k',v')::m,k,v=>if k'=k then(k',v)::m else(k',v')::gput m k v
def Qps (s:Q2)(cls:LI)(x:Nat)(m:List ((Int×Int)×Int))(v:Int):List ((Int×Int)×Int):=gput m (O2 cls x,v) (O2 cls (to0 s x v).toNat)
def Qpp (s:Q2)(l:List VV)(cls:LI)(z:LI×List ((Int×Int)×Int))(x:Nat):LI×List ((Int×Int)×Int):=
 if O2 cls x<0 then z else(if((lget l x).mk' && (lget l x).ps)=true then Qmh z.1 (O2 cls x)else z.1,(lget l x).en.foldl (Qps s cls x) z.2)
def Qoe (s:Q2)(l:List VV)(cls:LI):LI×List ((Int×Int)×Int):=(oQ 0 cls.length).foldl (Qpp s l cls) ([],[])
def Qpr (m:List ((Int×Int)×Int))(c:Nat)(v:Int):Option Ed:=(gget m ((c:Int),v)).map λt=>((c:Int),v,t)
def Qpq (m:List ((Int×Int)×Int))(al:LI)(n:Nat):List Ed:=(oQ 0 n).flatMap λc=>al.filterMap (Qpr m c)
def Qpt (s:Q2)(l:List VV)(cls:LI):Q2:=⟨s.al,Qon cls+1,(Qoe s l cls).1,Qpq (Qoe s l cls).2 s.al (Qon cls+1).toNat⟩
def red (p s:Q2):Q2:=Qpt s (ctls p s (opQ p s)) (QoR p s (opQ p s))
def xE (p s:Q2):Int:=if opE p s≠0 then opE p s else if opQ p s=[]then 0 else X9 (red p s)
theorem K1 (h:i<l.length):O2 l i∈l:=by rw[<-ZG h];exact Lk h
theorem Zo (a:α){Q:Prop}(h:∀b,a=b->Q):Q:=h a U
theorem exN {a:Int}(E:0<=a){Q:Prop}(h:∀u:Nat,a=u->Q):Q:=h a.toNat (Int.toNat_of_nonneg E).symm
theorem jI {J n1 I:Nat}(S:Q9 H b1 3 (a.al.map (.int .i64)))(T:Q9 H b2 3 (a.mr.map (.int .i64)))(V:Q9 H J 167 (a.ed.flatMap QC))(g1:N<=b1)(g2:N<=b2)(g3:N<=J)
  (Y:a.al.length=n1) (l2:a.mr.length=G) (l3:a.ed.length=I) (m1:n1<=1000) (m2:G<=1000) (m3:I<=1000):
  Kg N H (.agg #[.slice (some ⟨b1,0,none⟩) n1 n1,oE oF a.st,.slice (some ⟨b2,0,none⟩) G G,.slice (some ⟨J,0,none⟩) I I]) a:=by
 subst Y l2 l3;refine⟨_,_,_,U,λL O=>⟨?_,?_,?_⟩⟩
 ·exact S.arr (λE=>ot (O _ E)) oe oa (Lv _)
 ·exact T.arr (λE=>ot (O _ E)) oe oa (Lv _)
 exact V.arr (λE=>ot (O _ E)) (by rw[Xy _ 3 JQ]) oa (Lv _)
section
variable {pS:String}
theorem QjW (m i:Nat):((m:Int) / 2 ^ i)=((m / 2 ^ i:Nat):Int):=by rw[Int.natCast_ediv,Int.natCast_pow];rfl
end
inductive Pt where
 | pl (l:xo)
 | fk (pre:xo) (i j:Nat) (t1 t2:Pt)
def Ki (all:Array Oper):xo->Array Bool->Bool
 | [],_=>true
 | (k,q)::pl,ls=>q && (Region.ready .any all ls).contains k && Region.free .any all ls k && Ki all pl (ls.setIfInBounds k true)
def Z6:xo->Array Bool->Array Bool
 | [],ls=>ls
 | (k,_)::pl,ls=>Z6 pl (ls.setIfInBounds k true)
section
variable {all:xx}{C:xt}{B:xr}
theorem YF:∀(pl:xo) (ls:Array Bool),(Z6 pl ls).size=ls.size
 | [],_=>rfl
 | (k,q)::pl,ls=>by rw[Z6,YF];simp
theorem YD {m:Nat}(O:Region.noSelect all.toArray=true):∀(pl:xo) (ls:Array Bool) (f:Fr) (w:OX),C w->Ki all.toArray pl ls=true ->
  (∀f,B f w->XA P all C K m (Z6 pl ls) f w)->XP P all C B pl f w->XA P all C K (pl.length+m) ls f w
 | [],ls,f,w,E,S,H,h=>by
  simp only[XP]at h;rw[Nb,LQ];exact H f h
 | (I,q)::pl,ls,f,w,E,S,H,h=>by
  simp only[Ki,oJ]at S;obtain⟨⟨⟨rfl,hr⟩,hf⟩,Y⟩:=S;simp only[XP]at h;have T:I∈Region.ready .any all.toArray ls:=by simpa using hr
  have e:(oO ((I,true)::pl))+m=(pl.length+m)+1:=by simp;omega
  rw[e];cases G:all[I]? with
  | none =>
   exfalso;obtain⟨_,o,hc,_⟩:=mem_ready.1 T;simp[G]at hc
  | some o =>
   rw[Zj G]at h;have ha:∀(j:Nat) (o:Oper) cs b,all[j]?=some o->o.op≠.select cs b:=λj o cs b V=>Region.noSelect_spec O j o cs b (oy V);have hb:=λj oj V=>Region.free_spec (ops:=all.toArray) (md:=.any) (i:=I) (oi:=o) (listed:=ls) (oy G) hf j oj (oy V);cases J:Ya all f o with
   | false =>
    rw[J]at h;exact Xb (v:=undef) (D:=λw=>UH o=true->C w) G (λ_ h=>h) ha _ ls f w (λ_=>E) hb T (.inr ⟨J,U⟩) (YD O pl _ _ _ E Y H h)
   | true =>
    rw[J]at h;simp only[cond_true]at h;obtain⟨v,hv,hx⟩:=h;exact Xb (v:=v) (D:=λw=>UH o=true->C w) G (λ_ h=>h) ha _ ls f w (λ_=>E) hb T (.inl ⟨J,hv⟩) (YD O pl _ _ _ E Y H hx)
end
theorem Xk.lt_of {a:Int}(h:Xk (a::l)){x:Int}(hx:x∈l):a<x:=(L7.1 h).1 x hx
theorem Xk.tail {a:Int}(h:Xk (a::l)):Xk l:=(L7.1 h).2
theorem Qkr (keep:Bool->Bool->Bool):∀(n:Nat) (a b:LI),a.length+b.length<=n->Xk a->Xk b->∀x,x∈mrg keep a b↔(x∈a\/x∈b)/\keep (decide (x∈a)) (decide (x∈b))=true:=by
 intro n;induction n with
 | zero =>
  intro a b h _ _ x;have S:a=[]:=Ls oa;have T:b=[]:=Ls oa;subst S T;simp[Km]
 | succ n ih =>
  intro a b H ia ib x;cases a with
  | nil =>
   cases b with
   | nil=>simp[Km]
   | cons y b =>
    rw[J5 keep oe];have:=ih [] b (by simp at H ⊢;omega) ia ib.tail x;have G:y∉b:=λh=>ot (ib.lt_of h)
    simp only[Jd,tl,hx,cond_true,cond_false,Oh,Oe,oS];rw[this];by_cases e:x=y
    ·subst e;cases E:keep false true <;> simp[E,G]
    cases keep false true <;> simp[e]
  | cons u a =>
   cases b with
   | nil =>
    rw[J5 keep oe];have:=ih a [] (by simp at H ⊢;omega) ia.tail ib x;have G:u∉a:=λh=>ot (ia.lt_of h)
    simp only[Jd,tl,hx,cond_true,cond_false,Oh,Oe,oS];rw[this];by_cases e:x=u
    ·subst e;cases E:keep true false <;> simp[E,G]
    cases keep true false <;> simp[e]
   | cons y b =>
    rw[J5 keep oe];have O:u∉a:=λh=>ot (ia.lt_of h)
    have G:y∉b:=λh=>ot (ib.lt_of h)
    rcases Int.lt_trichotomy u y with I|I|I
    ·have J:u∉y::b:=λh=>by
      rcases Li.1 h with h|h
      ·omega
      have:=ib.lt_of h;omega
     have:=ih a (y::b) (by simp at H ⊢;omega) ia.tail ib x;have e1:decide (u<=y)=true:=OT oa;have e2:decide (y<=u)=false:=OV oa;simp only[Jd,tl,hx,e1,e2,cond_true,cond_false,Oh,Oe,oS];rw[this];by_cases e:x=u
     ·subst e;cases E:keep true false <;> simp[E,O,J]
     cases keep true false <;> simp[e]
    ·subst I;have:=ih a b (by simp at H ⊢;omega) ia.tail ib.tail x;have e1:decide (u<=u)=true:=OT oa;simp only[Jd,tl,hx,e1,cond_true,Oh,Oe,oS];rw[this];by_cases e:x=u
     ·subst e;cases E:keep true true <;> simp[E,O,G]
     cases keep true true <;> simp[e]
    have J:y∉u::a:=λh=>by
     rcases Li.1 h with h|h
     ·omega
     have:=ia.lt_of h;omega
    have:=ih (u::a) b (by simp at H ⊢;omega) ia ib.tail x;have e1:decide (u<=y)=false:=OV oa;have e2:decide (y<=u)=true:=OT oa;simp only[Jd,tl,hx,e1,e2,cond_true,cond_false,Oh,Oe,oS];rw[this];by_cases e:x=y
    ·subst e;cases E:keep false true <;> simp[E,G,J]
    cases keep false true <;> simp[e]
theorem qJ {keep:Bool->Bool->Bool}{a b:LI}(ia:Xk a)(ib:Xk b)(x:Int):x∈mrg keep a b↔(x∈a\/x∈b)/\keep (decide (x∈a)) (decide (x∈b))=true :=
 Qkr keep _ a b (Lv _) ia ib x
def setK (m k:Nat):LI:=((oQ 0 k).filter λi=>decide (((m / 2 ^ i) &&& 1)=1)).map λi:Nat=>(i:Int)
theorem yQ (m k:Nat):setK m (k+1)=if(m / 2 ^ k) &&& 1=1 then setK m k++[(k:Int)]else setK m k:=by
 unfold setK;rw[Mr,L6,Lt,LQ];by_cases h:(m / 2 ^ k) &&& 1=1
 ·rw[OQ h,Mh,OQ (OT h)];rfl
 rw[OP h,Mh,OP (by rw[OV h];simp),Nc,Nn,LK]
theorem VY (m:Nat):∀k,(setK m k).length<=k
 | 0=>by simp[setK]
 | k+1=>by
  have:=VY m k;rw[yQ];split
  ·simp;omega
  omega
section
variable {pS:String}
theorem qk {e bys:Nat}[h:Sl P t e sz bys z]{base:Nat}{v:OY}(E:w.ownsRow base e sz v n cs):
  (Builtin.append_ #[t,t] ty #[v,nS]).run P w=.ok v w:=by
 obtain⟨i,hi,_,H,_⟩:=Sl.info h;rcases E.2 with⟨rfl,rfl⟩|⟨g,cap,cur,rfl,I,J,G,O,S,T⟩
 ·simp[Builtin.append_,run_underlying h.u,sizeOf,typeInfo,hi,Builtin.lenOf,Builtin.firstCells]
 simp[Builtin.append_,run_underlying h.u,sizeOf,typeInfo,hi,Builtin.lenOf,Builtin.firstCells,G,storeCells]
theorem Qcn {e bys:Nat}[h:Sl P t e sz bys z]{s:OZ}{base:Nat}{v:OY}(E:w.ownsRow base e sz v n cs)(I:ev f s=v)
  {v2:OY} {m:Nat}   (G:Zm L w.heap v2 m sz news) (J:ev f y=v2) (O:∀u∈news,u.oneCell'=true)
  (H:n+m<=1099511627776) (S:base<=w.heap.size)
  (hK:∀v' w',w'.ownsRow base e sz v' (n+m) (cs++news)->O1 (ob v) w w'->(∀b∈ob v',b∈ob v\/w.heap.size<=b)->K (QT f d v') w') (T:bys<=128:=by decide):
  XO P ⟨d,.call ⟨.builtin .append,#[s,y],#[t,t]⟩,ty,pS,af,gd⟩ f w K:=by
 rcases G.2.2 with⟨e1,e2⟩|⟨a,c,e1,_,e3⟩
 ·subst e2;have V:news=[]:=Ls (by have:=G.1;simpa using this);subst V;have Y:(execOp (ev f) ⟨d,.call ⟨.builtin .append,#[s,y],#[t,t]⟩,ty,pS,af,gd⟩).run P w=.ok (.value v) w:=by
   simp[execOp,resolve,invoke,builtin,I,J,e1,qk (ty:=ty) E]
  exact xv Y (hK v w (oy E) (O1.Z _ _) (λb H=>.inl H))
 exact Zb E I (J.D e1) G.1 e3 O H S hK T
end
theorem QdQ {v:OY}(h:QP L w.heap v l)(x:Int):
  Q3 prog 217 [v,oE oF x] w λr w'=>r=.bool (decide (x∈l))/\w'=w:=by
 have S:=h.le;refine Zq func217 ?_;refine Qc<|Lg.Qb<|Qd<|Qc<|Lg.Qb<|Qg<|QD (α:=Nat) [(4,17)] (λk=>[(5,oE oF k)]) (λk w'=>w'=w/\k<=l.length/\(x∈l↔x∈l.drop k)) (λk=>l.length - k) ol 0 La ⟨U,Lo _,oe⟩ ?_;rintro k g w' ⟨rfl,T,G⟩;refine Qd<|Qc<|Lg.Qa<|Lg.Qa<|Lg.x (Yv h U)<|Lg.Q0 U U<|xe<|QH rfl (λJ=>?_) (λJ=>?_)
 ·refine Qz<|Qc<|Lg.Qb<|Qk ⟨[.bool false],La,?_,U⟩;rw[Lp oa]at G;simp[tup,G]
 have I:k<l.length:=oa
 have hd:=Zd I;refine Qh<|Qd<|Qg<|Qc<|Lg.Qa<|Lg.Qa<|xii h U U I λV O=>Lg.x (QA O U)<|Lg.Qa<|Lg.x (QY U U)<|xe<|QX rfl (λH=>?_) (λH=>?_)
 ·refine Qc<|Lg.Qb<|Qk ⟨[.bool true],La,?_,U⟩;have:x∈l:=by rw[G,hd,H];exact Lq
  simp[tup,this]
 refine Qh<|Qw<|Lg.Qa<|Lg.QS U U<|Lg.Qb<|⟨k+1,oa,La,U,oa,?_⟩;rw[G,hd,Li];exact⟨λh=>h.resolve_left (λe=>H e.symm),.inr⟩
theorem QaK (h:qB L w.heap ve a.ed)(s e:Int)(st:Int):
  Q3 prog 218 [.agg #[va,oE oF st,vm,ve],oE oF s,oE oF e] w λr w'=>r=oE oF (O8 a.ed s e)/\O1 [] w w':=by
 have he:=h.le;refine Zq func218 ?_;refine Qc<|Qe<|QW (us:=[va,oE oF st,vm,ve]) U λb3 T J hf G=>Lg.Qb ?_
 replace h:=h.I J;refine Qd<|Qc<|Lg.Qb<|Qg<|QD (α:=Nat) [(6,38)] (λk=>[(7,oE oF k)]) (λk w'=>w'=T/\k<=a.ed.length/\O8 (a.ed.drop k) s e=O8 a.ed s e) (λk=>a.ed.length - k) ol 0 La ⟨U,Lo _,U⟩ ?_;rintro k g V ⟨rfl,hk,H⟩;refine Qd<|Qc<|Lg.Qa<|Lg.Q7 U<|Lg.x (Qr G U U)<|Lg.x (Yv h U)<|Lg.Q0 U U<|xe<|QH rfl (λY=>?_) (λY=>?_)
 ·refine Qz<|Qc<|Lg.Qb<|Qk ⟨[oE oF (-1)],La,?_,J⟩;rw[Lp oa]at H;rw[<-H];rfl
 have I:k<a.ed.length:=oa
 have hd:=Zd I;refine Qh<|Qd<|Qg<|Za (α:=Bool) [(15,32)] (λz=>[(32,.bool z)]) (λz w'=>w'=V/\z=decide (a.ed[k].1=s/\a.ed[k].2.1=e)) ol ?_ ?_
 ·refine Qw<|Lg.Q7 U<|Lg.x (Qr G U U)<|Lg.Qa<|xie h U U I λhg ha=>Lg.x (Zt U)<|Lg.x (QA (ha.fld 0 _ U) U) <|
   Lg.Qa<|xb (QY U U) (λO=>?_) (λO=>?_)
  ·refine Lg.Qa<|Lg.Q7 U<|Lg.x (Qr G U U)<|Lg.Qa<|xie h U U I λhh hb=>Lg.x (Zt U)<|Lg.x (QA (hb.fld 1 _ U) U) <|
    Lg.Qa<|Lg.x (QY U U)<|Lg.QG U<|xe ?_
   exact⟨_,La,U,by simp[O]⟩
  refine Lg.Qa<|Qp<|Qp<|Qp<|Qp<|Qp<|Qp<|Qp<|Qp<|Lg.QG U<|xe ?_;exact⟨_,La,U,by simp[O]⟩
 rintro z g w3 ⟨rfl,rfl⟩;refine QX rfl (λS=>?_) (λS=>?_)
 ·refine Qc<|Lg.Q7 U<|Lg.x (Qr G U U)<|Lg.Qa<|xie h U U I λhi hc=>Lg.x (Zt U)<|Lg.x (QA (hc.fld 2 _ U) U) <|
   Lg.Qb<|Qk ⟨[oE oF a.ed[k].2.2],La,?_,J⟩
  rw[<-H,hd,O8,OQ S];rfl
 refine Qh<|Qw<|Lg.Qa<|Lg.QS U U<|Lg.Qb<|⟨k+1,oa,La,U,oa,?_⟩;rw[<-H,hd,O8,OP S]
def zG (l:LI)(n:Int):Int:=if n∈l then(l.idxOf n:Int)else -1
theorem QhA {n:Int}{k:Nat}(h:n∉l.take k)(G:k<l.length)(H:O2 l k=n):zG l n=k:=by
 have I:n∈l:=by rw[<-H,<-ZG G];exact Lk G
 unfold zG;rw[OQ I];have J:l=l.take k++l.drop k:=(MS k l).symm;have:l.idxOf n=k:=by
  rw[J,Mu,OP h,LD G,List.idxOf_cons,show l[k]=n by rw[ZG G];exact H];simp;omega
 rw[this]
theorem Qfc {v:OY}(h:QP L w.heap v l)(n:Int):
  Q3 prog 219 [v,oE oF n] w λr w'=>r=oE oF (zG l n)/\w'=w:=by
 have S:=h.le;refine Zq func219 ?_;refine Qc<|Qb<|Qd<|Qc<|Qb<|Qg<|QD (α:=Nat) [(4,18)] (λz=>[(5,oE oF z)]) (λz w'=>w'=w/\z<=l.length/\n∉l.take z) (λz=>l.length - z) ol 0 La ⟨U,Lo _,oe⟩ ?_;rintro k g T ⟨rfl,V,H⟩;refine Qd<|Qm<|Qa<|QI h U<|Q0 U U<|xe<|QH rfl (λJ=>?_) (λJ=>?_)
 ·refine Qz<|Qc<|Qb ?_;rw[Lr oa]at H;exact Qk ⟨[oE oF (-1)],La,by unfold zG;rw[OP H];rfl,U⟩
 have G:k<l.length:=oa
 refine Qh<|Qd<|Qg<|Qm<|Qa<|xic (i:=k) h U U G λY O=>x (QA O U)<|Qa<|x (QY U U)<|xe<|QX rfl (λI=>?_) (λI=>?_)
 ·refine Qm<|Qb<|Qk ⟨[oE oF k],La,by rw[QhA H G I];rfl,U⟩
 refine Qh<|Qw<|Qa<|QS U U<|Qb<|⟨k+1,oa,La,U,G,?_⟩;rw[Lm G,ZG G];simp only[oS,oH,not_or];exact⟨H,λe=>I e.symm⟩
theorem Qfq {v:OY}(h:QP L w.heap v l)(hl:l.length<=1000000):
  Q3 prog 140 [v] w λr w'=>O1 [] w w'/\∃va,r=.agg #[va,oE oF 0,nS,nS]/\Qv 3 w.heap.size w' va l:=by
 refine Zq func140 ?_;refine Qc<|Qe<|Qo (us:=[nS,oE oF 0,nS,nS]) U λb2 G T he V=>xe ?_;have hf:=T.size;have hg:=V.lt;refine Qc<|Qe<|Xw λb3 w2 H hh hi=>Qa<|?_;have Y:=T.D H;have hp:=H.size;have I:w2.ownsRow G.heap.size 3 1 (.slice (some ⟨b3,0,none⟩) 0 0) 0 []:=hi.own (n:=0) (sz:=1) U oa hh;refine Qe<|Qcn I U (h.I Y) U (zn l) oa oa λva J hj ha hq=>?_;have O:Qv 3 G.heap.size J va l:=by
  have:J.ownsRow G.heap.size 3 1 va (0+l.length) ([]++l.map (.int .i64)):=hj;rw[LQ,L8]at this;exact this
 have hA:=Qv.ints (L:=[]) O oa oe;have hk:=(V.I H).J ha (Zh I hg);have hm:O1 [] w J:=Y.then ha (λb S=>.inr (ot (Qi I b S).1));refine x (Qy ⟨hA.cells,Z⟩)<|Qe<|Qj (us:=[va,oE oF 0,nS,nS]) hk U U U U ⟨hA.one,U,U,U,Z⟩ λw4 hc hn=>xe ?_;have ho:=Qf O hc (λb S=>by have:=(Qi O b S).1;simp;omega);exact Qk ⟨[.agg #[va,oE oF 0,nS,nS]],⟨⟨_,U,Qn U (hn.at (L:=[]) oe).cells⟩,Z⟩,hm.O hc he,va,rfl,Zy ho hf⟩
theorem xC:∀(n:Nat) (l:LI),l.Nodup->(∀x∈l,0<=x/\x<n)->l.length<=n
 | 0,l,_,h=>by
  cases l with
  | nil=>simp
  | cons a l=>have:=h a Lq;omega
 | n+1,l,hd,h=>by
  by_cases G:(n:Int)∈l
  ·have I:=xC n (l.erase (n:Int)) (hd.erase _) (λx hx=>by
    have H:=(List.Nodup.mem_erase_iff hd).1 hx;have J:=h x H.2;have O:x≠(n:Int):=H.1;omega)
   rw[List.length_erase_of_mem G]at I;omega
  have:=xC n l hd (λx hx=>by
   have J:=h x hx;have O:x≠(n:Int):=λe=>G (by rw[<-e];exact hx);omega)
  omega
def VU (a:Q2)(s:Int)(out:LI)(v:Int):LI:=if 0<=O8 a.ed s v/\O8 a.ed s v∉out then out++[O8 a.ed s v]else out
def fdR (a:Q2)(out:LI)(s:Int):LI:=a.al.foldl (VU a s) out
def ji (a:Q2):Nat->Nat->LI->LI
 | 0,_,out=>out
 | f+1,i,out=>if i<out.length then ji a f (i+1) (fdR a out (O2 out i))else out
def fd0 (a:Q2):LI:=if 0<a.st then[0]else[]
def xh (a:Q2):LI:=ji a a.st.toNat 0 (fd0 a)
structure qA (a:Q2)(out:LI):Prop where
 b:∀x∈out,0<=x/\x<a.st
 d:out.Nodup
theorem qA.len (h:qA a out)(G:0<=a.st):out.length<=a.st.toNat:=xC _ _ h.d (λx hx=>ot (h.b x hx))
theorem j1 {v:Int}(h:0<=O8 es s v):(s,v,O8 es s v)∈es:=by
 induction es with
 | nil=>simp[O8]at h
 | cons e es ih =>
  rw[O8]at h ⊢;split at h
  ·rename_i G;rw[OQ G];obtain⟨p,q,r⟩:=e;obtain⟨H,I⟩:=G;simp only[]at H I;subst H I;exact Lq
  rename_i G;rw[OP G];exact Lj _ (ih h)
theorem QhV (I:ZD a)(h:qA a out)(s v:Int):qA a (VU a s out v):=by
 unfold VU;split
 ·rename_i G;have J:=I.ed _ (j1 G.1);refine⟨λx hx=>?_,?_⟩
  ·rcases Lc.1 hx with hx|hx
   ·exact h.b x hx
   simp only[oH]at hx;subst hx;exact⟨G.1,J.2.2.2.2⟩
  rw[MK];refine⟨h.d,oe,λx hx y H=>?_⟩;simp only[oH]at H;subst H;exact λe=>G.2 (by rw[<-e];exact hx)
 exact h
theorem QkT {v:Int}:∀x∈out,x∈VU a s out v:=λx hx=>by unfold VU;split;exact Mn _ hx;exact hx
theorem Qne {v:Int}(h:0<=O8 a.ed s v):O8 a.ed s v∈VU a s out v:=by
 unfold VU;by_cases G:O8 a.ed s v∈out
 ·rw[OP (λe=>e.2 G)];exact G
 rw[OQ ⟨h,G⟩];simp
theorem QhT {a:Q2}(G:ZD a)(s:Int):∀(vs:LI) (out:LI),qA a out->qA a (vs.foldl (VU a s) out)
 | [],_,h=>h
 | v::vs,_,h=>QhT G s vs _ (QhV G h s v)
theorem Qah {a:Q2}{s:Int}:∀(vs:LI) (out:LI),∀x∈out,x∈vs.foldl (VU a s) out
 | [],_,_,hx=>hx
 | _::vs,_,x,hx=>Qah vs _ x (QkT x hx)
theorem QhU {a:Q2}{s:Int}:∀(vs:LI) (out:LI),∀v∈vs,0<=O8 a.ed s v->O8 a.ed s v∈vs.foldl (VU a s) out
 | v::vs,out,u,G,h=>by
  rcases Li.1 G with rfl|G
  ·exact Qah vs _ _ (Qne h)
  exact QhU vs _ u G h
theorem QdT {a:Q2}{s:Int}:∀(vs:LI) (out:LI),∃r,vs.foldl (VU a s) out=out++r
 | [],out=>⟨[],oe⟩
 | v::vs,out=>by
  obtain⟨r,G⟩:=QdT (a:=a) (s:=s) vs (VU a s out v);rw[L3,G];unfold VU;split
  ·exact⟨[O8 a.ed s v]++r,oe⟩
  exact⟨r,U⟩
theorem yb {r:LI}(h:i<l.length):O2 (l++r) i=O2 l i:=by
 rw[<-ZG h,<-ZG (by simp;omega),MT h]
def Cl (a:Q2)(out:LI)(i:Nat):Prop:=∀j,j<i->j<out.length->∀v∈a.al,0<=O8 a.ed (O2 out j) v->O8 a.ed (O2 out j) v∈out
theorem Cl.next (h:Cl a out i)(hi:i<out.length):Cl a (fdR a out (O2 out i)) (i+1):=by
 intro j S T v H G;obtain⟨r,O⟩:=QdT (a:=a) (s:=O2 out i) a.al out;have I:fdR a out (O2 out i)=out++r:=O;have J:j<out.length:=oa
 rw[I,yb J]at G ⊢;by_cases e:j=i
 ·subst e;have:=QhU a.al out v H G;rw[<-I];exact this
 exact Mn _ (h j oa J v H G)
theorem QhS {a:Q2}(H:ZD a):∀(f i:Nat) (out:LI),qA a out->Cl a out i->i+f=a.st.toNat->qA a (ji a f i out)/\Cl a (ji a f i out) (ji a f i out).length
 | 0,i,out,h,G,O=>by
  have:=h.len H.st0;exact⟨h,λj J I=>G j (by rw[ji]at J;omega) I⟩
 | f+1,i,out,h,G,O=>by
  rw[ji];split
  ·rename_i hi;exact QhS H f (i+1) _ (QhT H _ _ _ h) (G.next hi) oa
  rename_i hi;exact⟨h,λj J I=>G j oa I⟩
theorem QhW (a:Q2):qA a (fd0 a):=by
 unfold fd0;split
 ·rename_i h;exact⟨λx hx=>by simp only[oH]at hx;subst hx;exact⟨oa,h⟩,oe⟩
 exact⟨oe,oe⟩
theorem zK (I:ZD a):qA a (xh a)/\∀s∈xh a,∀v∈a.al,0<=O8 a.ed s v->O8 a.ed s v∈xh a:=by
 obtain⟨J,O⟩:=QhS I a.st.toNat 0 (fd0 a) (QhW a) (λj G=>oa) oa;refine⟨J,λs S v T H=>?_⟩;obtain⟨j,G,rfl⟩:=LP S;have:=O j G G v T;unfold xh at G H ⊢;rw[ZG G]at H ⊢;exact this H
def Kq (a:Q2)(fd:LI)(i:Nat)(v:Int):Option Ed:=if 0<=O8 a.ed (O2 fd i) v then some ((i:Int),v,zG fd (O8 a.ed (O2 fd i) v))else none
def Y3 (a:Q2)(fd:LI)(n:Nat):LI:=((oQ 0 n).filter λi=>decide (O2 fd i∈a.mr)).map λi:Nat=>(i:Int)
def Xi (a:Q2)(fd:LI)(n:Nat):List Ed:=(oQ 0 n).flatMap λi=>a.al.filterMap (Kq a fd i)
def Xp (a:Q2):Q2:=⟨a.al,(xh a).length,Y3 a (xh a) (xh a).length,Xi a (xh a) (xh a).length⟩
theorem Jb {β:Type}{r:Int->Int->Prop}{q:β->β->Prop}{g:Int->Option β}(G:∀x y u v,r x y->g x=some u->g y=some v->q u v):∀{l:LI},l.Pairwise r->(l.filterMap g).Pairwise q
 | [],_=>oe
 | x::l,h=>by
  obtain⟨I,H⟩:=L7.1 h;rw[Mq];split
  ·exact Jb G H
  rename_i u J;refine L7.2 ⟨λv O=>?_,Jb G H⟩;obtain⟨y,S,T⟩:=MM.1 O;exact G x y u v (I y S) J T
theorem Qly (H:ZD a):ZD (Xp a)/\(Xp a).al=a.al/\(Xp a).st<=a.st:=by
 obtain⟨Y,h2⟩:=zK H;have hl:=Y.len H.st0;have h0:=H.st0;have h4:=H.st1;refine⟨⟨H.al,H.ali,by simp[Xp],by simp only[Xp];omega,λs S=>?_,?_,λe J=>?_,?_⟩,U,by simp only[Xp];omega⟩
 ·simp only[Xp,Y3,OE,List.mem_filter,Oz]at S;obtain⟨i,⟨hi,_⟩,rfl⟩:=S;simp only[Xp];omega
 ·simp only[Xp,Y3];unfold Xk;rw[MF];refine List.Pairwise.sublist MZ ?_;exact(Nx (s:=0) (n:=(xh a).length)).imp (λh=>oa)
 ·simp only[Xp,Xi,List.mem_flatMap,List.mem_filterMap,Oz]at J;obtain⟨i,⟨_,hi⟩,v,I,G⟩:=J;unfold Kq at G;split at G
  ·rename_i hn;cases G
   have T:i<(xh a).length:=oa
   have V:=h2 (O2 (xh a) i) (by rw[<-ZG T];exact Lk T) v I hn;have hx:=MC V;simp only[Xp];unfold zG;rw[OQ V];exact⟨oa,oa,I,oa,oa⟩
  cases G
 simp only[Xp,Xi];have key:∀(is:LN),is.Pairwise (·<·)->(is.flatMap λi=>a.al.filterMap (Kq a (xh a) i)).Pairwise λx y:Ed=>x.1<y.1\/(x.1=y.1/\x.2.1<y.2.1):=by
  intro is;induction is with
  | nil=>intro _;simp
  | cons i is ih =>
   intro hp;obtain⟨p1,p2⟩:=L7.1 hp;rw[LG,List.pairwise_append];have from_i:∀(i:Nat) (e:Ed),e∈a.al.filterMap (Kq a (xh a) i)->e.1=i:=by
    intro i e J;obtain⟨v,_,G⟩:=MM.1 J;unfold Kq at G;split at G
    ·cases G;rfl
    cases G
   refine⟨?_,ih p2,λe J e' ha=>?_⟩
   ·refine Jb (r:=(·<·)) (λx y u v hb O I=>?_) H.ali;unfold Kq at O I;split at O
    ·cases O;split at I
     ·cases I;exact .inr ⟨U,hb⟩
     cases I
    cases O
   obtain⟨j,hj,hc⟩:=Ma.1 ha;have e1:=from_i i e J;have e2:=from_i j e' hc;have:=p1 j hj;left;omega
 exact key _ (Nx (s:=0) (n:=(xh a).length))
theorem Qfe (h:ZH L w.heap va vm ve a)(ho:ZD a):
  Q3 prog 216 [.agg #[va,oE oF a.st,vm,ve]] w λr w'=>O1 [] w w'/\Qv 3 w.heap.size w' r (xh a):=by
 have h0:=ho.st0;have h1:=ho.st1;have hU:=ho.al_le;refine Zq func216 ?_;refine Qc<|Qe<|QW (us:=[va,oE oF a.st,vm,ve]) U λb1 O hh hV hs=>Qb<|Qc<|Qb ?_;have h8:=hh.size;refine Za (α:=OY) [(3,3),(7,12)] (λz=>[(3,z)]) (λz w'=>O1 [] O w'/\Qv 3 O.heap.size w' z (fd0 a)) ol ?_ ?_
 ·refine Qc<|Qs U hs U U<|x (Yg U U)<|xe<|QH U (λh9=>?_) (λh9=>?_)
  ·refine Qh ?_;exact⟨nS,La,O1.Z _ _,by unfold fd0;rw[OP h9];exact QJ _ _ _ _⟩
  refine Qw<|Qa<|Qe<|QB (us:=[[oE oF 0]]) U U og oe ⟨rfl,rfl,Z⟩ λhW w2 hv hX hA=>?_;have hn:w2.ownsRow O.heap.size 3 1 (nS) 0 []:=QJ _ _ _ _;have hY:=hv.size;refine Qe<|Zb (news:=[oE oF 0]) (L:=[]) hn U U U (hA.at oe) (by simp[Value.oneCell']) oa oa λv3 w3 hB hC hZ =>
   Qb<|⟨v3,La,hv.then hC (λb hb=>by simp[ob]at hb),?_⟩
  unfold fd0;rw[OQ h9];exact hB
 rintro v0 g4 w4 ⟨hD,hE⟩;refine Zo (xh a) λT hT=>?_;have hF:ji a a.st.toNat 0 (fd0 a)=T:=hT;refine Qd<|Qc<|Qb<|Qg<|QD (α:=Nat×LI×OY) [(3,6),(13,48)] (λz=>[(3,z.2.2),(4,oE oF z.1)])
  (λz w'=>O1 [] O w'/\Qv 3 O.heap.size w' z.2.2 z.2.1/\qA a z.2.1/\z.1<=z.2.1.length/\ji a (a.st.toNat - z.1) z.1 z.2.1=T) (λz=>a.st.toNat - z.1) ol (0,fd0 a,v0) oz
  ⟨hD,hE,QhW a,Lo _,hF⟩ ?_
 rintro⟨i,out,v⟩ g5 w5 ⟨hj,V,G,hi,Y⟩;simp only[]at V G hi Y;have hw:=G.len h0;have hy:=Qv.ints (L:=[]) V oa oe;refine Qd<|Qm<|Qa<|QI hy U<|Q0 U U<|xe<|QH rfl (λhz=>?_) (λhz=>?_)
 ·have e:out=T:=by
   rw[<-Y];generalize a.st.toNat - i=f;cases f with
   | zero=>rfl
   | succ f=>rw[ji,OP oa]
  refine Qz<|Qm<|Qb ?_;rw[e]at V;exact Qk ⟨[v],La,hh.D hj,by rw[hT];exact Zy V h8⟩
 have I:i<out.length:=oa
 have hG:a.st.toNat - i=(a.st.toNat - (i+1))+1:=oa
 rw[hG,ji,OQ I]at Y;refine Zo (O2 out i) λs J=>?_;rw[J]at Y;refine Zo (fdR a out s) λR hR=>?_;rw[hR]at Y;unfold fdR at hR;refine Qh<|Qd<|Qg<|Qc<|Qb<|Qg<|QD (α:=Nat×LI×OY) [(3,3),(5,6),(19,48)] (λz=>[(3,z.2.2),(5,oE oF z.1)])
  (λz w'=>O1 [] O w'/\Qv 3 O.heap.size w' z.2.2 z.2.1/\qA a z.2.1/\z.1<=a.al.length/\i<z.2.1.length/\O2 z.2.1 i=s/\(a.al.drop z.1).foldl (VU a s) z.2.1=R) (λz=>a.al.length - z.1) ol (0,out,v) oz
  ⟨hj,V,G,Lo _,I,J,hR⟩ ?_
 clear hj V G hi hw hy I J hR hz;rintro⟨k,out,v⟩ g6 w6 ⟨ha,he,G,hk,I,J,H⟩;simp only[]at he G hk I J H;have hw:=G.len h0;have h2:=(h.al.I hh).I ha;have hl:=hs.I ha;have h3:=Qv.ints (L:=[]) he oa oe;refine Qd<|Qm<|Qs U hl U U<|QI h2 U<|Q0 U U<|xe<|QH rfl (λhH=>?_) (λhH=>?_)
 ·refine Qz<|Qw<|Qa<|QS U U<|Qb ?_;rw[Lp oa]at H;have hI:out=R:=H;exact⟨(i+1,out,v),oh,oz,ha,he,G,I,by simp only[];rw[hI];exact Y⟩
 have hf:k<a.al.length:=oa
 rw[LD hf,L3,ZG hf]at H;refine Zo (O2 a.al k) λu hu=>?_;rw[hu]at H;have hJ:=(h.ed.I hh).I ha;refine Zo (O8 a.ed s u) λt ht=>?_;have hK:VU a s out u=if 0<=t/\t∉out then out++[t]else out:=by unfold VU;rw[ht]
 have hm:=QhV ho G s u;rw[hK]at H hm;refine Qh<|Qd<|Qg<|Qd<|ZI [] (Xx 0 12 [10])<|pq (λ_ S=>ZT (hl.I S) U U)<|p QF<|p QF<|pic (i:=i) U h3 U U I λga h4=>?_;rw[J]at h4;refine pq (λ_ S=>QA (h4.I S) U)<|p (QR U)<|pq (λ_ S=>Qr (hl.I S) U U)<|p QF <|
  pic (i:=k) U h2 U U hf λgb h5=>?_
 rw[hu]at h5;have hsr:=QaK (va:=va) (vm:=vm) (a:=a) (hJ.I (O1.C [] w6)) s u a.st;rw[ht]at hsr;refine pq (λ_ S=>QA (h5.I S) U)<|pk<|xg<|hsr.mono ?_;rintro r7 w7 ⟨rfl,hL⟩;have hg:=(O1.C [] w6).D hL;refine⟨hg,p ZM<|pe ?_⟩;have h6:=Qq he hg;have hM:=h3.I hg;refine Za (α:=Unit) [(37,44)] (λz=>[(44,.bool (decide (0<=t/\t∉out)))]) (λz w'=>w'=w7) ol ?_ ?_
 ·refine Qw<|Qa<|xb (Yw U U) (λhp=>?_) (λhp=>?_)
  ·refine Qa<|Qa<|Qa<|QM<|(QdQ hM t).mono ?_;rintro r8 w8 ⟨rfl,rfl⟩;refine x (ZC U)<|QG U<|xe<|⟨(),⟨OR Value.bool ?_,Z⟩,U⟩;show(!decide (t∈out))=_;rw[Bool.eq_iff_iff];simp[hp]
  refine Qa<|Qp<|Qp<|Qp<|Qp<|QG U<|xe ?_;exact⟨(),⟨OR Value.bool (OV (λe=>hp e.1)).symm,Z⟩,U⟩
 rintro _ g9 w9 rfl;refine QH rfl (λhq=>?_) (λhq=>?_)
 ·rw[OP hq]at H;refine Qh<|Qw<|Qa<|QS U U<|Qb<|⟨(k+1,out,v),oh,oz,ha.D hg,h6,G,hf,I,J,H⟩
 rw[OQ hq]at H hm;have h7:=ha.D hg;have gc:=h7.size;refine Qw<|Qa<|Qa<|Qe<|QB (us:=[[oE oF t]]) U U og oe ⟨rfl,rfl,Z⟩ λgg gh hr gi hN=>?_;have hO:=Qq h6 hr;have gj:=hr.size;refine Qe<|Zb (news:=[oE oF t]) (L:=[]) hO U U U (hN.at oe) (by simp[Value.oneCell']) oa oa λhP gk hQ hS gl =>
  Qb ?_
 have hge:=Qi he;refine Qw<|Qa<|QS U U<|Qb<|⟨(k+1,out++[t],hP),oh,oz,(h7.D hr).then hS (λb hb=>.inr (hge b hb).1),Qv.snoc hQ,hm,hf,by simp;omega,?_,H⟩;simp only[];rw[yb I];exact J
structure CrI (w7:OX)(b4:Nat)(vcl:OY)(n:Int)(vm vd:OY)(M:LI)(E:List Ed)(w:OX):Prop where
 st:O1 [b4] w7 w
 B:Q9 w.heap b4 59 [vcl,oE oF n,vm,vd]
 m:Qv 3 w7.heap.size w vm M
 e:YT 167 w7.heap.size w vd E
 dj:Dj vm vd
section
variable {w7 w'':OX}{b4:Nat}{vcl:OY}{n:Int}{vd:OY}{M:LI}{E:List Ed}
theorem CrI.I (h:CrI w7 b4 vcl n vm vd M E w)(G:O1 [] w w'):CrI w7 b4 vcl n vm vd M E w':=⟨h.st.D G,h.B.I G,Qq h.m G,Qq h.e G,h.dj⟩
theorem CrI.setM (h:CrI w7 b4 vcl n vm vd M E w)(J:b4<w7.heap.size){G:OY}{M':LI}(O:O1 (ob vm) w w')(S:Qv 3 w7.heap.size w' G M')(T:∀b∈ob G,b∈ob vm\/w.heap.size<=b)(H:O1 [b4] w' w'')
  (V:Q9 w''.heap b4 59 [vcl,oE oF n,G,vd]):CrI w7 b4 vcl n G vd M' E w'' :=
 ⟨(h.st.then O (λb J=>.inr (Qi h.m b J).1)).Q H,V,Qf S H (λb I=>by have:=(Qi S b I).1;simp;omega),
  Qf (Qf h.e O h.dj.symm) H (λb I=>by have:=(Qi h.e b I).1;simp;omega),(h.dj.symm.grow T (Zf h.e)).symm⟩
theorem CrI.setE (h:CrI w7 b4 vcl n vm vd M E w)(J:b4<w7.heap.size){G:OY}{E':List Ed}(O:O1 (ob vd) w w')(S:YT 167 w7.heap.size w' G E')(T:∀b∈ob G,b∈ob vd\/w.heap.size<=b)(H:O1 [b4] w' w'')
  (V:Q9 w''.heap b4 59 [vcl,oE oF n,vm,G]):CrI w7 b4 vcl n vm G M E' w'' :=
 ⟨(h.st.then O (λb J=>.inr (Qi h.e b J).1)).Q H,V,Qf (Qf h.m O h.dj) H (λb I=>by have:=(Qi h.m b I).1;simp;omega),
  Qf S H (λb I=>by have:=(Qi S b I).1;simp;omega),h.dj.grow T (Zf h.m)⟩
end
theorem jv (a:Q2)(fd:LI)(k:Nat):Y3 a fd (k+1)=if O2 fd k∈a.mr then Y3 a fd k++[(k:Int)]else Y3 a fd k:=by
 unfold Y3;rw[Mr,L6,Lt,LQ];by_cases h:O2 fd k∈a.mr
 ·rw[OQ h,Mh,OQ (OT h)];rfl
 rw[OP h,Mh,OP (by rw[OV h];simp),Nc,Nn,LK]
theorem QbO (a:Q2)(fd:LI):∀k,(Y3 a fd k).length<=k
 | 0=>by simp[Y3]
 | k+1=>by
  have:=QbO a fd k;rw[jv];split
  ·simp;omega
  omega
theorem QfD (a:Q2)(fd:LI)(k:Nat):Xi a fd (k+1)=Xi a fd k++a.al.filterMap (Kq a fd k):=by
 unfold Xi;rw[Mr,LB,LQ];simp
theorem QjA (h:ZH L w.heap va vm ve a)(V:ZD a):
  Q3 prog 141 [.agg #[va,oE oF a.st,vm,ve]] w λr w'=>O1 [] w w'/\Kg w.heap.size w'.heap r (Xp a):=by
 have h0:=V.st0;have h1:=V.st1;have kw:=V.al_le;have gc:=(zK V).1;have gg:=gc.len h0;refine Zq func141 ?_;refine Zo (xh a) λfd hv=>?_;rw[hv]at gg;have gh:Xp a=⟨a.al,fd.length,Y3 a fd fd.length,Xi a fd fd.length⟩:=by unfold Xp;rw[hv]
 refine Qc<|Qe<|QW (us:=[va,oE oF a.st,vm,ve]) U λb1 w1 gi kx hw=>Qe<|Qo (us:=[nS,oE oF 0,nS,nS]) U λb2 w2 hz kz hF=>xe ?_;have Y:=gi.D hz;have hfr:=Qfe (h.I Y) V;rw[hv]at hfr;refine Qc<|Q6 (hw.I hz) U U<|QM<|hfr.mono ?_;rintro vf w3 ⟨hp,gj⟩;refine Qb ?_;have hG:=Y.D hp;have hH:=(hw.I hz).I hp;refine Qc<|Qs U hH U U<|QM<|(Qfq (h.al.I hG) oa).mono ?_;rintro r4 w4 ⟨hJ,vcl,rfl,ha⟩;have hK:=Qv.ints (L:=[]) ha oa oe;refine Qe<|Qo (us:=[nS,oE oF 0,nS,nS]) U λb4 w5 gk gl gm =>
  Qe<|Qj (us:=[vcl,oE oF 0,nS,nS]) gm U U U U ⟨hK.one,U,U,U,Z⟩ λw6 gn hL=>xe ?_
 have h2:O1 [] w4 w6:=gk.O gn gl;have he:=hJ.D h2;have hM:=Qv.ints (L:=[]) gj oa oe;have k0:=hp.size;have k4:=hJ.size;have k5:=h2.size;have k6:=hw.lt;have k7:=hF.lt;have k8:=hL.lt;refine Qm<|QI hM U<|Q7 U<|Qe<|QE (u:=oE oF fd.length) hL U U oe rfl λw7 S go=>xe ?_;have k9:=S.size;have ma:O1 [b4] w3 w7:=(he.any (L:=[b4])).Q S;have hN:O1 [] w w7:=(hG.D he).O S oa;have hO:QP [b4] w7.heap vf fd:=((hM.up (L':=[b4]) (λb G=>.inr (by simp at G;omega))).I he).st S;have h3:ZH [b4] w7.heap va vm ve a:=(h.up (λb G=>.inr (by simp at G;omega))).I hN;have gp:Qv 3 w3.heap.size w7 vcl a.al:=Qf (Qq ha h2) S (λb G=>by have:=Zf ha b G;simp;omega);have hP:=(hH.I he).J S (by simp;omega);have gq:=((hF.I hp).I he).J S (by simp;omega);have hf:b4<w7.heap.size:=oa
 have n1:b1∉[b4]:=by simp;omega
 have n2:b2∉[b4]:=by simp;omega
 refine Qd<|Qc<|Qb<|Qg<|QD (α:=Nat×OY×OY) [(5,7),(16,69)] (λz=>[(5,oE oF z.1)])
  (λz w'=>z.1<=fd.length/\CrI w7 b4 vcl fd.length z.2.1 z.2.2 (Y3 a fd z.1) (Xi a fd z.1) w'/\(Xi a fd z.1).length<=z.1*32) (λz=>fd.length - z.1) ol (0,nS,nS) La
  ⟨Lo _,⟨O1.Z _ _,go,QJ _ _ _ _,QJ _ _ _ _,Dj.nil' _⟩,Lo _⟩ ?_
 rintro⟨i,v1,v2⟩ g8 w8 ⟨hi,I,h4⟩;simp only[]at hi I h4;have gr:=QbO a fd i;have hQ:=hO.st I.st;refine Qd<|Qm<|Qa<|QI hQ U<|Q0 U U<|xe<|QH rfl (λgs=>?_) (λgs=>?_)
 ·have gt:i=fd.length:=oa
  rw[gt]at I h4 gr;refine Qz ?_;have gu:=Qv.ints (L:=[]) I.m oa oe;have gv:=YT.eds (L:=[]) I.e oa oe;refine Qc<|Q6 I.B U U<|Qe<|Qj (us:=[vcl,oE oF fd.length,v1,v2]) (gq.J I.st n2) U U U U ⟨hK.one,U,gu.one,gv.one,Z⟩ λw9 hq gw=>xe ?_;refine Qk ⟨[.agg #[vcl,oE oF fd.length,v1,v2]],⟨⟨_,U,Qn U (gw.at (L:=[]) oe).cells⟩,Z⟩,(hN.O I.st oa).O hq oa,?_⟩;rw[gh];have k1:=Qf (Qf gp I.st (λb G=>by have:=Zf ha b G;simp;omega)) hq (λb G=>by have:=(Qi ha b G).1;simp;omega);have k2:=Qf I.m hq (λb G=>by have:=(Qi I.m b G).1;simp;omega);have k3:=Qf I.e hq (λb G=>by have:=(Qi I.e b G).1;simp;omega);refine⟨vcl,v1,v2,U,λL' h5=>⟨?_,?_,?_⟩⟩
  ·exact Qv.ints k1 (by show a.al.length<=_;omega) (λb G=>ot (h5 b G))
  ·exact Qv.ints k2 (by show(Y3 a fd fd.length).length<=_;omega) (λb G=>ot (h5 b G))
  exact YT.eds k3 (by show(Xi a fd fd.length).length<=_;omega) (λb G=>ot (h5 b G))
 have h6:i<fd.length:=oa
 refine Zo (O2 fd i) λs hr=>?_;have hg:=jv a fd i;rw[hr]at hg;refine Qh<|Qd<|Qg<|Za (α:=OY) [(22,34)] (λz=>[]) (λz w'=>CrI w7 b4 vcl fd.length z v2 (Y3 a fd (i+1)) (Xi a fd i) w') ol ?_ ?_
 ·have gx:=h3.st I.st;have gy:=hP.J I.st n1;refine Qd<|ZI [] (Xx 0 7 [6])<|p (QR U)<|pq (λ_ H=>Qr (gy.I H) U U)<|p QF<|p QF<|pic (i:=i) U hQ U U h6 λmf hR=>?_;rw[hr]at hR;refine pq (λ_ H=>QA (hR.I H) U)<|pk<|xg<|(QdQ (gx.mr.I (O1.C [] w8)) s).mono ?_;rintro mg mh ⟨rfl,rfl⟩;have h7:=I.I (O1.C [] w8);refine⟨O1.C _ _,pe ?_⟩;refine QH U (λh8=>?_) (λh8=>?_)
  ·rw[OP h8]at hg;refine Qh ?_;exact⟨v1,Z,by rw[hg];exact h7⟩
  rw[OQ h8]at hg;refine Qw<|Qs U h7.B U U<|Qa<|Qe<|QB (us:=[[oE oF i]]) U U og oe ⟨rfl,rfl,Z⟩ λmi mj gz mn g0=>?_;have hh:=h7.I gz;refine Qe<|Zb (news:=[oE oF i]) (L:=[]) hh.m U U U (g0.at oe) (by simp[Value.oneCell']) oa hh.st.size λhS g2 g3 Y g4=>?_;have hT:Qv 3 w7.heap.size g2 hS (Y3 a fd i++[(i:Int)]):=Qv.snoc g3;refine Q7 U<|Qe<|QE (hh.B.J Y (Zh hh.m hf)) U U oe (Qv.ints (L:=[]) hT (by simp;omega) oe).one λmo g5 g6 =>
   xe ?_
  exact⟨hS,Z,by rw[hg];exact hh.setM hf Y hT g4 g5 g6⟩
 rintro v3 mq ms g7;refine Zo (Xi a fd (i+1)) λE1 h9=>?_;have hU:=QfD a fd i;rw[h9]at hU;refine Qc<|Qb<|Qg<|QD (α:=Nat×List Ed×OY) [(6,7),(35,69)] (λz=>[(6,oE oF z.1)])
  (λz w'=>z.1<=a.al.length/\CrI w7 b4 vcl fd.length v3 z.2.2 (Y3 a fd (i+1)) z.2.1 w'/\z.2.1.length<=i*32+z.1/\z.2.1++(a.al.drop z.1).filterMap (Kq a fd i)=E1) (λz=>a.al.length - z.1) ol (0,Xi a fd i,v2) La
  ⟨Lo _,g7,h4,hU.symm⟩ ?_
 rintro⟨k,E,vd⟩ mt hV ⟨hk,O,g9,J⟩;simp only[]at hk O g9 J;have hA:=h3.st O.st;have hs:=hP.J O.st n1;have hW:=hO.st O.st;refine Qd<|Qm<|Qs U hs U U<|QI hA.al U<|Q0 U U<|xe<|QH rfl (λka=>?_) (λka=>?_)
 ·refine Qz<|Qw<|Qa<|QS U U<|Qb ?_;rw[Lp oa,List.filterMap_nil,LK]at J;refine⟨(i+1,v3,vd),oh,La,h6,?_,?_⟩
  ·simp only[];rw[h9,<-J];exact O
  simp only[];rw[h9,<-J];omega
 have T:k<a.al.length:=oa
 refine Zo (O2 a.al k) λu hu=>?_;rw[LD T,ZG T,hu,Mq]at J;refine Zo (O8 a.ed s u) λt ht=>?_;have kb:Kq a fd i u=if 0<=t then some ((i:Int),u,zG fd t)else none:=by unfold Kq;rw[hr,ht]
 rw[kb]at J;have hsr:=QaK (va:=va) (vm:=vm) (a:=a) (hA.ed.I (O1.C [] hV)) s u a.st;rw[ht]at hsr;refine Qh<|Qd<|Qg<|Qd<|ZI [] (Xx 0 12 [10])<|pq (λ_ H=>ZT (hs.I H) U U)<|p QF<|p QF<|pic (i:=i) U hW U U h6 λmu hX=>?_;rw[hr]at hX;refine pq (λ_ H=>QA (hX.I H) U)<|p (QR U)<|pq (λ_ H=>Qr (hs.I H) U U)<|p QF <|
  pic (i:=k) U hA.al U U T λmv hY=>?_
 rw[hu]at hY;refine pq (λ_ H=>QA (hY.I H) U)<|pk<|xg<|hsr.mono ?_;rintro mw hB ⟨rfl,kc⟩;have hj:=(O1.C [] hV).D kc;refine⟨hj,p ZM<|pe ?_⟩;have hm:=O.I hj;have ke:=hs.I hj;have kf:=hW.I hj;refine Qm<|x (Yw U U)<|xe<|QH rfl (λhC=>?_) (λhC=>?_)
 ·rw[OP hC]at J;refine Qh<|Qw<|Qa<|QS U U<|Qb<|⟨(k+1,E,vd),oh,La,T,hm,oh,J⟩
 rw[OQ hC]at J;have kg:=Qi O.e;have kh:QP (b4::ob vd) hB.heap va a.al:=(((h3.al.up (L':=b4::ob vd) (λb G=>by
  rcases Li.1 G with rfl|G
  ·exact .inl oe
  exact .inr (kg b G).1)).J O.st oe).I hj)
 have ki:=Zh hm.e hf;have kj:b1∉ob vd:=Zh hm.e oa;refine ZI (ob vd) (Xx 0 16 [10,12,13,15])<|p (QR U)<|pq (λ_ H=>Qr (hm.B.J H ki) U U)<|p QF<|p (QR U)<|pq (λ_ H=>Qr (ke.J H kj) U U) <|
  p QF<|pic (i:=k) U kh U U T λmy hZ=>?_
 rw[hu]at hZ;refine pq (λ_ H=>QA (hZ.J H (λb G=>Lj _ G)) U)<|p QF<|p QF <|
  pk<|xg<|(Qfc (kf.I (O1.C [] hB)) t).mono ?_
 rintro mz m2 ⟨rfl,rfl⟩;refine⟨O1.C _ _,p (λ_=>Qy ⟨U,U,U,Z⟩)<|pk<|QB (us:=[QC ((i:Int),u,zG fd t)]) U U og (by exact(by decide:1*3<=1000000)) oz λm3 m4 kk m5 kn=>?_⟩;have hD:=(O1.C [] hB).D kk;have hn:=hm.I hD;refine⟨hD.any,?_⟩;refine pk<|Zb (news:=QC ((i:Int),u,zG fd t)) (L:=[]) hn.e U U U (kn.at oe) (λy hy=>by simp only[QC,oK,oI,or_false]at hy;rcases hy with rfl|rfl|rfl <;> rfl) oa hn.st.size λga ko kq hE kr=>⟨(hD.any (L:=ob vd)).Q hE,?_⟩
 have gb:YT 167 w7.heap.size ko ga (E++[((i:Int),u,zG fd t)]):=YT.snoc kq;refine p (QR U)<|pkl (hl:=by kernel_rfl)<|QE (hn.B.J hE (Zh hn.e hf)) U U oe (YT.eds (L:=[]) gb (by simp;omega) oe).one λm6 kt ku =>
  pe ?_
 have kv:=hn.setE hf hE gb kr kt ku;refine Qw<|Qa<|QS U U<|Qb<|⟨(k+1,E++[((i:Int),u,zG fd t)],ga),oh,La,T,kv,by simp;omega,?_⟩;simp only[oT,On];exact J
section
variable {pS:String}
theorem U7 {x:OZ}{k:IntKind}{a b:Int}(hx:ev f x=.int k a)(H:ev f y=.int k b)(I:0<=a)(O:0<b):
  (execOp (ev f) ⟨d,.binOp .rem t x y G,ty,pS,af,gd⟩).run P w=.ok (.value (.int k (a % b))) w:=by
 refine JO hx H ?_;have J:¬b=0:=oa
 simp[binOp,Op.intDiv,J,Int.tmod_eq_emod_of_nonneg I]
end
abbrev bys (ns:LN):LV:=ns.map λn:Nat=>.int .u8 (n:Int)
section
variable {pS:String}
end
theorem Qdz (keep:Bool->Bool->Bool):∀(n:Nat) (a b:LI),a.length+b.length<=n->Xk a->Xk b->Xk (mrg keep a b):=by
 intro n;induction n with
 | zero =>
  intro a b h _ _;have O:a=[]:=Ls oa;have S:b=[]:=Ls oa;subst O S;rw[Km];exact List.Pairwise.nil
 | succ n ih =>
  intro a b T ia ib;by_cases h:a=[]/\b=[]
  ·obtain⟨rfl,rfl⟩:=h;rw[Km];exact List.Pairwise.nil
  have V:=zH h;have itl:∀(c:Bool) (l:LI),Xk l->Xk (tl c l):=λc l hl=>by
   cases c
   ·exact hl
   cases l with
   | nil=>exact hl
   | cons y l=>exact hl.tail
  have I:=ih (tl (Jd a b) a) (tl (Jd b a) b) oa (itl _ _ ia) (itl _ _ ib);rw[J5 keep h];cases keep (Jd a b) (Jd b a)with
  | false=>simpa using I
  | true =>
   simp only[cond_true,On];refine L7.2 ⟨λx hx=>?_,I⟩;have H:=(qJ (itl _ _ ia) (itl _ _ ib) x).1 hx;cases a with
   | nil =>
    cases b with
    | nil=>exact OS ⟨U,U⟩ h
    | cons y b =>
     simp only[Jd,tl,cond_true,cond_false,Oh,oI,false_or,Lg.hx,Oe]at H ⊢;exact ib.lt_of H.1
   | cons u a =>
    cases b with
    | nil =>
     simp only[Jd,tl,cond_true,cond_false,Oh,oI,or_false,Lg.hx,Oe]at H ⊢;exact ia.lt_of H.1
    | cons y b =>
     rcases Int.lt_trichotomy u y with J|J|J
     ·have e1:decide (u<=y)=true:=OT oa;have e2:decide (y<=u)=false:=OV oa;simp only[Jd,tl,e1,e2,cond_true,cond_false,Oh,Lg.hx,Oe]at H ⊢;rcases H.1 with G|G
      ·exact ia.lt_of G
      rcases Li.1 G with G|G
      ·omega
      have:=ib.lt_of G;omega
     ·have e1:decide (u<=y)=true:=OT oa;have e2:decide (y<=u)=true:=OT oa;simp only[Jd,tl,e1,e2,cond_true,Oh,Lg.hx,Oe]at H ⊢;rcases H.1 with G|G
      ·have:=ia.lt_of G;omega
      have:=ib.lt_of G;omega
     have e1:decide (u<=y)=false:=OV oa;have e2:decide (y<=u)=true:=OT oa;simp only[Jd,tl,e1,e2,cond_true,cond_false,Oh,Lg.hx,Oe]at H ⊢;rcases H.1 with G|G
     ·rcases Li.1 G with G|G
      ·omega
      have:=ia.lt_of G;omega
     exact ib.lt_of G
section
variable {pS:String}{all:xx}{C:xt}
end
section
variable {pS:String}
end
section
variable {w4 w'':OX}{m q:Bool}{vd:OY}{E D:LI}
end
section
variable {pS:String}
end
def grid (g:Nat->Int->Option Ed)(vs:LI)(n:Nat):List Ed:=(oQ 0 n).flatMap λj=>vs.filterMap (g j)
theorem UR (g:Nat->Int->Option Ed)(vs:LI)(n:Nat):grid g vs (n+1)=grid g vs n++vs.filterMap (g n):=by
 unfold grid;rw[Mr,LB];simp
theorem Qbs (l m:List Ed)(s v:Int):O9 (l++m) s v=match O9 l s v with|some u=>some u|none=>O9 m s v:=by
 induction l with
 | nil=>rfl
 | cons e l ih =>
  rw[L5,O9,O9];split
  ·rfl
  exact ih
def yl (g:Nat->Int->Option Ed):Prop:=∀j v e,g j v=some e->e.1=(j:Int)/\e.2.1=v
theorem Qbq {g:Nat->Int->Option Ed}(G:yl g)(j:Nat)(v:Int):∀(vs:LI),O9 (vs.filterMap (g j)) j v=if v∈vs then(g j v).map (·.2.2)else none
 | []=>by simp[O9]
 | u::vs=>by
  have ih:=Qbq G j v vs;rw[Mq];cases E:g j u with
  | none =>
   simp only[];rw[ih];by_cases e:v=u
   ·subst e;simp[E]
   simp[e]
  | some e =>
   have H:=G j u e E;simp only[];rw[O9];by_cases e2:u=v
   ·subst e2;rw[OQ H,OQ Lq,E];rfl
   rw[OP (λh=>e2 (H.2.symm.D h.2)),ih];simp[Ne.symm e2]
theorem Qbp {g:Nat->Int->Option Ed}(E:yl g)(h:j≠i)(v:Int)(vs:LI):O9 (vs.filterMap (g j)) i v=none:=by
 refine jj λe G I=>?_;obtain⟨u,_,H⟩:=MM.1 G;have:=E j u e H;omega
theorem Qfr {g:Nat->Int->Option Ed}(E:yl g)(vs:LI)(j:Nat)(v:Int):∀n,O9 (grid g vs n) j v=if j<n/\v∈vs then(g j v).map (·.2.2)else none
 | 0=>by simp[grid,O9]
 | n+1=>by
  rw[UR,Qbs,Qfr E vs j v n];by_cases e:j=n
  ·subst e;rw[OP oa,Qbq E];simp
  rw[Qbp E (Ne.symm e)];by_cases h:j<n/\v∈vs
  ·rw[OQ h,OQ ⟨oa,h.2⟩];cases(g j v).map (·.2.2) <;> rfl
  rw[OP h,OP (λG=>h ⟨oa,G.2⟩)]
theorem Qbh {g:Nat->Int->Option Ed}{vs:LI}{e:Ed}(h:e∈grid g vs n):∃j v,j<n/\v∈vs/\g j v=some e:=by
 unfold grid at h;obtain⟨j,E,G⟩:=Ma.1 h;obtain⟨v,H,I⟩:=MM.1 G;rw[MA]at E;exact⟨j,v,oa,H,I⟩
theorem QdR {g:Nat->Int->Option Ed}(E:yl g){vs:LI}(hi:Xk vs):∀n,(grid g vs n).Pairwise λx y:Ed=>x.1<y.1\/(x.1=y.1/\x.2.1<y.2.1)
 | 0=>by simp[grid]
 | n+1=>by
  rw[UR,List.pairwise_append];refine⟨QdR E hi n,Jb (r:=(·<·)) (λx y u v V I J=>?_) hi,λe O S T=>?_⟩
  ·have G:=E n x u I;have H:=E n y v J;right;omega
  obtain⟨j,v,Y,_,G⟩:=Qbh O;obtain⟨v',_,H⟩:=MM.1 T;have h3:=E j v e G;have h4:=E n v' S H;left;omega
theorem QoF (l:List Q2):∀(acc:LI),(∀a∈l,Xk a.al)->Xk acc->Xk (l.foldl (λacc a=>mrg (· || ·) acc a.al) acc)/\∀x,x∈l.foldl (λacc a=>mrg (· || ·) acc a.al) acc↔x∈acc\/∃a∈l,x∈a.al:=by
 induction l with
 | nil=>intro acc _ h;exact⟨h,λx=>oe⟩
 | cons a l ih =>
  intro acc hl h;have G:=hl a Lq;obtain⟨H,I⟩:=ih (mrg (· || ·) acc a.al) (λb J=>hl b (Lj _ J)) (Qdz _ _ _ _ (Lv _) h G);rw[L3];refine⟨H,λx=>?_⟩;rw[I x,qJ h G];simp only[oK,exists_eq_or_imp];constructor
  ·rintro(⟨E|E,_⟩|E)
   ·exact .inl E
   ·exact .inr (.inl E)
   exact .inr (.inr E)
  rintro(E|E|E)
  ·exact .inl ⟨.inl E,by simp[E]⟩
  ·exact .inl ⟨.inr E,by simp[E]⟩
  exact .inr E
theorem QdY {l:List Q2}(h:∀a∈l,ZD a):Xk (evs l):=(QoF l [] (λa E=>(h a E).ali) oe).1
theorem QdX {l:List Q2}(h:∀a∈l,ZD a)(x:Int):x∈evs l↔∃a∈l,x∈a.al:=by
 have:=(QoF l [] (λa E=>(h a E).ali) oe).2 x;unfold evs;rw[this];simp
def syF (aa:List Q2)(tup:List (LI))(j:Nat)(v:Int):Option Ed:=(YO v aa (tup.getD j [])).map λu=>((j:Int),v,(tup.idxOf u:Int))
theorem Qmm (aa:List Q2)(tup:List (LI)):yl (syF aa tup):=by
 intro j v e h;unfold syF at h;obtain⟨u,_,rfl⟩:=Mb.1 h;exact⟨U,U⟩
theorem Qbl {α β:Type}{f g:α->Option β}:∀{l:List α},(∀x∈l,f x=g x)->l.filterMap f=l.filterMap g
 | [],_=>rfl
 | x::l,h=>by rw[Mq,Mq,h x Lq,Qbl (λy E=>h y (Lj _ E))]
theorem QhM {f:α->Option β}{v:α}{e:β}(h:f v=some e):[v].filterMap f=[e]:=by rw[Mq,h];rfl
theorem QkQ {f:α->Option β}{v:α}(h:f v=none):[v].filterMap f=[]:=by rw[Mq,h];rfl
theorem Qgm {tup:List (LI)}{v:Int}(h:YO v aa (tup.getD j [])=none):syF aa tup j v=none:=by unfold syF;rw[h];rfl
theorem QaI {tup:List (LI)}{v:Int}(h:YO v aa (tup.getD j [])=some u):syF aa tup j v=some ((j:Int),v,(tup.idxOf u:Int)):=by unfold syF;rw[h];rfl
def Clo (aa:List Q2)(tup:List (LI))(j:Nat)(vs:LI):Prop:=∀v∈vs,∀u,YO v aa (tup.getD j [])=some u->u∈tup
theorem KT {tup r:List (LI)}(h:j<tup.length):(tup++r).getD j []=tup.getD j []:=by simp[oP,List.getElem?_append_left h]
theorem Qde {tup r:List (LI)}{vs:LI}(E:j<tup.length)(G:Clo aa tup j vs):vs.filterMap (syF aa (tup++r) j)=vs.filterMap (syF aa tup j):=by
 refine Qbl λv H=>?_;unfold syF;rw[KT E];cases I:YO v aa (tup.getD j [])with
 | none=>rfl
 | some u =>
  have J:=G v H u I;simp only[Ot,Option.some.injEq,Prod.mk.injEq,true_and];rw[Mu,OQ J]
theorem Clo.pre {tup r:List (LI)}{vs:LI}(G:j<tup.length)(H:Clo aa tup j vs):Clo aa (tup++r) j vs:=by
 intro v I u E;rw[KT G]at E;exact Mn _ (H v I u E)
theorem zq {l:List α}{u:α}(h:l.Nodup)(G:u∉l):(l++[u]).Nodup:=by
 rw[MK];exact⟨h,oe,λa H b E=>by simp only[oH]at E;subst E;exact λe=>G (by rw[<-e];exact H)⟩
theorem yI {aa:List Q2}{i:Nat}:∀(vs:LI) (s I:Sy),i<s.tup.length->s.tup.Nodup->qW aa i (yG s i) vs s=some I ->
  ∃r,I.tup=s.tup++r/\I.mk'=s.mk'/\I.ed=s.ed++vs.filterMap (syF aa I.tup i)/\Clo aa I.tup i vs/\I.tup.Nodup
 | [],s,I,_,hd,e=>by cases e;exact⟨[],oe,rfl,oe,λv hv=>(by cases hv),hd⟩
 | v::vs,s,I,hi,hd,e=>by
  rw[qW]at e;obtain⟨J,E,Y⟩:=M9.1 e;have key:∃T,J.tup=s.tup++T/\J.mk'=s.mk'/\J.ed=s.ed++[v].filterMap (syF aa J.tup i)/\Clo aa J.tup i [v]/\J.tup.Nodup:=by
   unfold syE at E;have eT:yG s i=s.tup.getD i []:=rfl;rw[eT]at E;cases O:YO v aa (s.tup.getD i [])with
   | none =>
    rw[O]at E;cases E
    refine⟨[],oe,rfl,by rw[QkQ (Qgm O),Oq],λv' G u H=>?_,hd⟩;simp only[oH]at G;subst G;rw[O]at H;cases H
   | some u =>
    rw[O]at E;simp only[]at E;by_cases H:u∈s.tup
    ·rw[OQ H]at E;cases E
     refine⟨[],oe,rfl,by rw[QhM (QaI O)],λv' G u' S=>?_,hd⟩;simp only[oH]at G;subst G;simp only[]at S ⊢;rw[O]at S;cases S;exact H
    rw[OP H]at E;split at E
    ·cases E
    cases E
    have e2:(s.tup++[u]).getD i []=s.tup.getD i []:=KT hi;have e3:(s.tup++[u]).idxOf u=s.tup.length:=by rw[Mu,OP H];simp
    refine⟨[u],U,U,?_,λv' G u' S=>?_,zq hd H⟩
    ·rw[QhM (QaI (tup:=s.tup++[u]) (u:=u) (by rw[e2];exact O)),e3]
    simp only[oH]at G;subst G;simp only[]at S ⊢;rw[e2,O]at S;cases S;simp
  obtain⟨T,k1,k2,k3,k4,k5⟩:=key;have V:i<J.tup.length:=by rw[k1];simp;omega
  have eT:yG J i=yG s i:=by unfold yG;rw[k1];exact KT hi
  rw[<-eT]at Y;obtain⟨r2,g1,g2,g3,g4,g5⟩:=yI vs J I V k5 Y;refine⟨T++r2,by rw[g1,k1,LA],g2.D k2,?_,?_,g5⟩
  ·rw[g3,k3,LA];congr 1;rw[show v::vs=[v]++vs from rfl,List.filterMap_append];congr 1;rw[g1];exact(Qde V k4).symm
  intro v' G u H;rcases Li.1 G with rfl|G
  ·have:=k4.pre (r:=r2) V;rw[<-g1]at this;exact this v' Lq u H
  exact g4 v' G u H
structure SyG (aa:List Q2)(i:Nat)(s:Sy):Prop where
 nd:s.tup.Nodup
 le:i<=s.tup.length
 hd:s.tup.getD 0 []=oM aa.length 0/\0<s.tup.length
 mk2:s.mk'=((oQ 0 i).filter λj=>Jr aa (s.tup.getD j [])).map λj:Nat=>(j:Int)
 ed:s.ed=grid (syF aa s.tup) (evs aa) i
 cl:∀j,j<i->Clo aa s.tup j (evs aa)
theorem Jv {α β:Type}{f g:α->List β}:∀{l:List α},(∀x∈l,f x=g x)->l.flatMap f=l.flatMap g
 | [],_=>rfl
 | x::l,h=>by rw[LG,LG,h x Lq,Jv (λy E=>h y (Lj _ E))]
theorem SyG.next {s E:Sy}(h:SyG aa i s)(hi:i<s.tup.length)(e:qW aa i (yG s i) (evs aa) (Ye aa i (yG s i) s)=some E):SyG aa (i+1) E:=by
 have H:(Ye aa i (yG s i) s).tup=s.tup:=by unfold Ye;split <;> rfl
 have T:(Ye aa i (yG s i) s).ed=s.ed:=by unfold Ye;split <;> rfl
 have O:yG (Ye aa i (yG s i) s) i=yG s i:=by show(Ye aa i (yG s i) s).tup.getD i []=s.tup.getD i [];rw[H]
 rw[<-O]at e;obtain⟨r,g1,V,S,Y,g5⟩:=yI (evs aa) _ E (by rw[H];exact hi) (by rw[H];exact h.nd) (by rw[O]at e ⊢;exact e);rw[H]at g1;rw[T]at S;have pre:∀j,j<=i->E.tup.getD j []=s.tup.getD j []:=λj G=>by rw[g1];exact KT oa
 refine⟨g5,by rw[g1];simp;omega,⟨by rw[pre 0 oa];exact h.hd.1,by rw[g1];simp;omega⟩,?_,?_,λj G=>?_⟩
 ·rw[V,Mr,L6,Lt,LQ];have e1:((oQ 0 i).filter λj=>Jr aa (E.tup.getD j []))=(oQ 0 i).filter λj=>Jr aa (s.tup.getD j []):=by
   refine List.filter_congr λj G=>?_;rw[MA]at G;rw[pre j oa]
  rw[e1];unfold Ye;by_cases I:Jr aa (yG s i)=true
  ·rw[OQ I];have J:Jr aa (E.tup.getD i [])=true:=by rw[pre i (Lv _)];exact I
   simp only[List.filter_cons,J,if_true,List.filter_nil,oZ,OM];rw[h.mk2]
  rw[OP I];have J:Jr aa (E.tup.getD i [])=false:=by rw[pre i (Lv _)];exact eq_false_of_ne_true I
  rw[Mh,OP (by rw[J];simp),Nc,h.mk2];simp
 ·rw[S,UR,h.ed];congr 1;unfold grid;refine Jv λj G=>?_;rw[MA]at G;rw[g1];exact(Qde oa (h.cl j oa)).symm
 by_cases e2:j=i
 ·subst e2;exact Y
 have:=(h.cl j oa).pre (r:=r) oa;rw[<-g1]at this;exact this
theorem QaH {aa:List Q2}:∀(f i:Nat) (s E:Sy),SyG aa i s->syL aa f i s=some E->∃G,SyG aa G E/\(E.tup.length=G\/G=i+f)
 | 0,i,s,E,h,e=>by cases e;exact⟨i,h,.inr U⟩
 | f+1,i,s,E,h,e=>by
  rw[syL]at e;split at e
  ·rename_i hi;obtain⟨H,I,J⟩:=M9.1 e;obtain⟨G,O,S⟩:=QaH f (i+1) H E (h.next hi I) J;exact⟨G,O,oa⟩
  cases e;exact⟨i,h,.inl (ot h.le)⟩
structure SyP (aa:List Q2)(A:Q2)(Q:List (LI)):Prop where
 al:A.al=evs aa
 st:A.st=(Q.length:Int)
 nd:Q.Nodup
 v:∀t∈Q,Vt aa t
 le:Q.length<=4096
 hd:0<Q.length->Q.getD 0 []=oM aa.length 0
 mk2:A.mr=((oQ 0 Q.length).filter λj=>Jr aa (Q.getD j [])).map λj:Nat=>(j:Int)
 ed:A.ed=grid (syF aa Q) (evs aa) Q.length
 cl:∀j,j<Q.length->Clo aa Q j (evs aa)
theorem Jh (J:∀a∈aa,ZD a){A:Q2}{Q:List (LI)}(h:xd aa=some (A,Q)):SyP aa A Q/\(Q.length=0↔∃a∈aa,a.st=0):=by
 have G:=qD J h;unfold xd at h;split at h
 ·rename_i H;cases h
  exact⟨⟨U,U,oe,oe,oe,λh=>by simp at h,oe,by simp[grid],λj I=>by simp at I⟩,oy H⟩
 rename_i H;obtain⟨s,O,S⟩:=Mb.1 h;have T:SyG aa 0 (yJ aa):=⟨by simp[yJ],oe,⟨by simp[yJ],by simp[yJ]⟩,by simp[yJ],by simp[yJ,grid],λj I=>oa⟩;obtain⟨V,E,h4⟩:=QaH 4096 0 (yJ aa) s T O;cases S
 have hl:V=s.tup.length:=by
  have h5:=E.le;have Y:=G.2;simp only[]at Y;omega
 subst hl;refine⟨⟨rfl,U,E.nd,G.1,G.2,λ_=>E.hd.1,E.mk2,E.ed,E.cl⟩,?_⟩;have:=E.hd.2;constructor
 ·intro h;have h7:s.tup.length=0:=h;omega
 intro h;exact OS h H
theorem SyP.to {A:Q2}{Q:List (LI)}(h:SyP aa A Q)(E:j<Q.length){v:Int}(G:v∈evs aa)(H:YO v aa (Q.getD j [])=some u):Q.idxOf u<Q.length/\Q.getD (Q.idxOf u) []=u:=by
 have I:=h.cl j E v G u H;have hl:=MC I;refine⟨hl,?_⟩;simp[oP,hl]
theorem SyP.okay (G:∀a∈aa,ZD a){A:Q2}{Q:List (LI)}(h:SyP aa A Q):ZD A:=by
 have V:=h.le;refine⟨λe E=>?_,by rw[h.al];exact QdY G,by rw[h.st];omega,by rw[h.st];omega,λs H=>?_,?_,λe E=>?_,by rw[h.ed];exact QdR (Qmm aa Q) (QdY G) _⟩
 ·rw[h.al]at E;obtain⟨a,O,hx⟩:=(QdX G e).1 E;exact(G a O).al e hx
 ·rw[h.mk2]at H;simp only[OE,List.mem_filter,Oz]at H;obtain⟨i,⟨hi,_⟩,rfl⟩:=H;rw[h.st];omega
 ·rw[h.mk2];unfold Xk;rw[MF];refine List.Pairwise.sublist MZ ?_;exact(Nx (s:=0) (n:=Q.length)).imp (λh=>oa)
 rw[h.ed]at E;obtain⟨j,v,S,I,J⟩:=Qbh E;unfold syF at J;obtain⟨u,T,rfl⟩:=Mb.1 J;have:=(h.to S I T).1;rw[h.st,h.al];exact⟨oh,oh,I,oh,oh⟩
open Go.RowKit
instance:LawfulBEq ByteArray where
 eq_of_beq h:=(MapKept.bytes_beq _ _).1 h;rfl:=(MapKept.bytes_beq _ _).2 U
def chr (s:ByteArray)(i:Nat):Nat:=(s.get! i).toNat
theorem Qny {s:ByteArray}(h:i<s.size):(s[i]'h).toNat=chr s i:=by
 unfold chr;obtain⟨d⟩:=s;have hd:i<d.size:=h;simp[ByteArray.get!,hd,ByteArray.getElem_eq_getElem_data]
theorem QfG {a b:ByteArray}(h:a.data.toList=b.data.toList):a=b:=by
 obtain⟨⟨x⟩⟩:=a;obtain⟨⟨y⟩⟩:=b;have E:x=y:=h;rw[E]
theorem bytes_beq (a b:ByteArray):(a.toList == b.toList)=decide (a=b):=by
 rw[ByteArray.toList_eq,ByteArray.toList_eq];by_cases h:a=b
 ·subst h;simp
 rw[OV h];have:a.data.toList≠b.data.toList:=λe=>h (QfG e);simpa using this
section
variable {pS:String}{t':Nat}{x:OZ}
theorem QgR [h:St P t]{s:ByteArray}{k:IntKind}(hx:ev f x=.string s)(G:ev f y=.int k i)(hi:i<s.size):
  (execOp (ev f) ⟨d,.index t x y,ty,pS,af,gd⟩).run P w=.ok (.value (.int .u8 (chr s i))) w:=by
 have E:=run_index_string (P:=P) w t s k i h.u;rw[dif_pos ⟨oa,oa⟩]at E;have e:(s[(i:Int).toNat]'(oy hi)).toNat=chr s i:=Qny hi;simp only[execOp,hx,G,Sem.run_bind,E,Result.andThen_ok,Sem.run_pure,e]
theorem Qcl [h:St P t]{s:ByteArray}(hx:ev f x=.string s):
  (execOp (ev f) ⟨d,.call ⟨.builtin .len,#[x],#[t]⟩,ty,pS,af,gd⟩).run P w=.ok (.value (oE oF s.size)) w:=QgQ h.u hx
theorem Xt {a b:ByteArray}(hx:ev f x=.string a)(E:ev f y=.string b):
  (execOp (ev f) ⟨d,.binOp .eql t x y t',ty,pS,af,gd⟩).run P w=.ok (.value (.bool (decide (a=b)))) w:=by
 have G:(eqGuard .eql t x y (.string a) (.string b)).run P w=.ok () w:=by simp[eqGuard]
 simp only[execOp,hx,E,Sem.run_bind,G,Result.andThen_ok,binOp_string_eql,Sem.run_pure,bytes_beq]
theorem Ja {a b:ByteArray}(hx:ev f x=.string a)(E:ev f y=.string b)(hl:a.size+b.size<=1000000000):
  (execOp (ev f) ⟨d,.binOp .add t x y t',ty,pS,af,gd⟩).run P w=.ok (.value (.string (a++b))) w:=by
 have G:(eqGuard .add t x y (.string a) (.string b)).run P w=.ok () w:=by simp[eqGuard]
 have I:¬(((a.size+b.size:Nat):Int) > IntKind.i64.max):=by
  rw[show IntKind.i64.max=9223372036854775807 from rfl];omega
 simp only[execOp,hx,E,Sem.run_bind,G,Result.andThen_ok,binOp_string_add,Op.stringOp,OP I,Sem.run_pure]
theorem Qka {a:Nat}(hx:ev f x=.int .u16 a)(E:ev f y=.int .u16 b)(G:a<65536)(I:b<65536):
  (execOp (ev f) ⟨d,.binOp .and t x y t',ty,pS,af,gd⟩).run P w=.ok (.value (.int .u16 ((a &&& b:Nat):Int))) w:=by
 refine JO hx E ?_;have hi:inK .u16 ((a &&& b:Nat):Int):=by
  have:a &&& b<=a:=Nat.and_le_left;exact⟨oa,oa⟩
 simp only[binOp,Op.intBits,BitVec.ofInt_natCast,ne_eq,not_true_eq_false,if_false,Sem.run_pure];rw[BitVec.toNat_and,BitVec.toNat_ofNat,BitVec.toNat_ofNat,Nw (show a<2 ^ IntKind.u16.bits from G),Nw (show b<2 ^ IntKind.u16.bits from I),YM hi]
theorem Qdr {a:Nat}(E:a<65536)(G:b<65536):a ||| b<65536:=Nat.or_lt_two_pow (n:=16) E G
theorem Qck {a:Nat}(hx:ev f x=.int .u16 a)(I:ev f y=.int .u16 b)(E:a<65536)(G:b<65536):
  (execOp (ev f) ⟨d,.binOp .or t x y t',ty,pS,af,gd⟩).run P w=.ok (.value (.int .u16 ((a ||| b:Nat):Int))) w:=by
 refine JO hx I ?_;have hi:inK .u16 ((a ||| b:Nat):Int):=by
  have:=Qdr E G;exact⟨oa,oa⟩
 simp only[binOp,Op.intBits,BitVec.ofInt_natCast,ne_eq,not_true_eq_false,if_false,Sem.run_pure];rw[BitVec.toNat_or,BitVec.toNat_ofNat,BitVec.toNat_ofNat,Nw (show a<2 ^ IntKind.u16.bits from E),Nw (show b<2 ^ IntKind.u16.bits from G),YM hi]
theorem QgM {k:IntKind}{a:Int}(hx:ev f x=.int k a)(E:ev f y=.int k' n)(G:n<=k.bits)(hi:inK k (a*2 ^ n)):
  (execOp (ev f) ⟨d,.binOp .shl t x y t',ty,pS,af,gd⟩).run P w=.ok (.value (.int k (a*2 ^ n))) w:=by
 refine JO hx E ?_;have I:¬((n:Int)<0):=oa
 simp only[binOp,Op.shift,I,if_false,Ou,Nat.min_eq_left G,Sem.run_pure];rw[YM hi]
end
section
variable {P:O0}{ops:xx}{K:xr}{f:Fr}{w:OX}{d:xz}{ty:Nat}{pS:String}{af:xw}{gd:xj}{l:xx}
 {t e sz bys:Nat} {z:OY} {x y1 y2:OZ} {L:LN} {v:OY} {n:Nat} {cs:LV} {H:xu} {k k':IntKind} {hi:Nat}
theorem QgL [h:Sl P t e sz bys z](G:Zm L H v n sz cs)(hx:ev f x=v)(I:ev f y1=.int k hi)(J:ev f y2=.int k' hi)(V:hi<=n):
  ∃v',Zm L H v' hi sz (cs.take (hi*sz))/\∀w,(execOp (ev f) ⟨d,.slice t x none (some y1) (some y2),ty,pS,af,gd⟩).run P w=.ok (.value v') w:=by
 obtain⟨ii,O,_,Y,_⟩:=Sl.info h;rcases G.2.2 with⟨rfl,rfl⟩|⟨a,cap,rfl,hc,S⟩
 ·have T:hi=0:=oa
  subst T;refine⟨nS,?_,λw=>?_⟩
  ·rw[OK,List.take_zero];exact Zm.nil _ _ _
  simp[execOp,hx,I,J,Instr.sliceAt,Instr.slice,Instr.sliceBounds,Instr.sliceBound,asIntOf,run_underlying h.u,sizeOf,typeInfo,O]
 refine⟨.slice (some a) hi hi,⟨?_,ot G.2.1,.inr ⟨a,hi,U,Lv _,λu E=>S.out u (LZ E),λu E=>S.lt u (LZ E),λj u E=>?_⟩⟩,λw=>?_⟩
 ·rw[Ly,G.1,Ml (LY _ V)]
 ·rw[LX]at E;split at E
  ·exact S.cell j u E
  cases E
 by_cases T:hi=0
 ·subst T;simp[execOp,hx,I,J,Instr.sliceAt,Instr.slice,Instr.sliceBounds,Instr.sliceBound,asIntOf,run_underlying h.u,sizeOf,typeInfo,O]
 simp[execOp,hx,I,J,Instr.sliceAt,Instr.slice,Instr.sliceBounds,Instr.sliceBound,asIntOf,run_underlying h.u,sizeOf,typeInfo,O,Addr.add];intro h9;omega
end
section
variable {l:xx}{C:xt}
theorem xB {b:Bool}(E:(execOp (ev f) o).run P w=.ok (.value (.bool b)) w)(J:b=true->XL P ops K l (QT f o.dst (.bool true)) w)(O:b=false->XL P ops K l (QT f o.dst (.bool false)) w)
  (I:Ya ops f o=true:=by rfl):XL P ops K (o::l) f w:=by
 cases G:b with
 | true=>rw[G]at E;exact x E (J G) I
 | false=>rw[G]at E;exact x E (O G) I
theorem pB {b:Bool}(E:∀w',(execOp (ev f) (QV ops i)).run P w'=.ok (.value (.bool b)) w')(J:b=true->XP P ops C K pl (QT f (QV ops i).dst (.bool true)) w)(O:b=false->XP P ops C K pl (QT f (QV ops i).dst (.bool false)) w)
  (I:Ya ops f (QV ops i)=true:=by rfl):XP P ops C K ((i,true)::pl) f w:=by
 cases G:b with
 | true=>rw[G]at E;exact p E (J G) I
 | false=>rw[G]at E;exact p E (O G) I
theorem Qh2 {G:Prop}(b:Bool)(E:b=true->G)(I:b=false->G):G:=by cases h:b with|true=>exact E h|false=>exact I h
theorem bT {q:Prop}[Decidable q](h:q):true=decide q:=(OT h).symm
theorem bF {q:Prop}[Decidable q](h:¬q):false=decide q:=(OV h).symm
theorem bD {q r:Prop}[Decidable q][Decidable r](h:q↔r):decide q=decide r:=decide_eq_decide.2 h
end
section
variable {pS:String}{x:OZ}
theorem zi {q:Prop}[Decidable q](hx:ev f x=.bool (decide q)):(execOp (ev f) ⟨d,.unOp .not t x,ty,pS,af,gd⟩).run P w=.ok (.value (.bool (decide (¬q)))) w:=by
 rw[ZC hx];simp
end
structure J1 where
 nm:ByteArray
 co:Bool
 ob:Bool
 fo:Bool
 fl:Int
structure YU where
 nm:ByteArray
 a:Q2
structure UA where
 nm:ByteArray
 ls:xq
structure xG where
 nm:ByteArray
 ts:xq
 bd:Int
structure Zx where
 ev:List J1
 co:List YU
 rq:List YU
 ex:List UA
 cs:List xG
def Vl (n:Nat):LI:=(oW n).map λi:Nat=>(i:Int)
def nmP (i c:Nat):Prop:=((97<=c/\c<=122)\/(65<=c/\c<=90)\/c=95)\/(i≠0/\48<=c/\c<=57)
instance (i c:Nat):Decidable (nmP i c):=by unfold nmP;infer_instance
def nmQ (s:ByteArray)(i:Nat):Bool:=decide (nmP i (chr s i))
def JE (s:ByteArray):Bool:=(oQ 0 s.size).all (nmQ s) && decide (0<s.size/\s.size<=32)
def JT (seen:List ByteArray)(e:J1):Int:=if JE e.nm=false then 7 else if e.nm∈seen then 8 else if e.fl<0\/4<e.fl then 2 else if e.fl≠0/\(e.co || e.ob)=true then 13 else 0
def ya:List ByteArray->List J1->Int
 | _,[]=>0
 | seen,e::l=>if JT seen e≠0 then JT seen e else ya (seen++[e.nm]) l
def KC (l:List J1):Int:=if 32<l.length then 3 else ya [] l
def ixs {α:Type}(q:α->Bool):Nat->List α->LI
 | _,[]=>[]
 | i,e::l=>if q e=true then(i:Int)::ixs q (i+1) l else ixs q (i+1) l
def unc (l:List J1):LI:=ixs (λe=>!e.co) 0 l
def Up (sz:LI):Option Int->List (Int×Int)->Int
 | _,[]=>0
 | pr,l::ls=>if l.1<0\/(sz.length:Int)<=l.1 then 2 else if leO pr l.1=true then 5 else if l.2<0\/O2 sz l.1.toNat<=l.2 then 2 else Up sz (some l.1) ls
def JA (sz:LI)(ls:xq):Int:=if ls.length=0 then 12 else Up sz none ls
def grt (n:Int):Bool:=decide (n < -65536) || decide (65536<n)
def Kv (sz:LI):Option Int->List (Int×Int)->Int
 | _,[]=>0
 | pr,l::ls=>if l.1<0\/(sz.length:Int)<=l.1 then 2 else if leO pr l.1=true then 5 else if l.2=0\/grt l.2=true then 2 else Kv sz (some l.1) ls
def JU (sz:LI)(k:xG):Int:=if k.ts.length=0 then 12 else if Kv sz none k.ts≠0 then Kv sz none k.ts else if grt k.bd=true then 2 else 0
def KY (seen:List ByteArray)(s:ByteArray):Int:=if JE s=false then 7 else if s∈seen then 8 else 0
def YA (sz:LI):List ByteArray->List UA->Int
 | _,[]=>0
 | seen,x::l=>if KY seen x.nm≠0 then KY seen x.nm else if JA sz x.ls≠0 then JA sz x.ls else YA sz (seen++[x.nm]) l
def Y8 (sz:LI):List ByteArray->List xG->Int
 | _,[]=>0
 | seen,x::l=>if KY seen x.nm≠0 then KY seen x.nm else if JU sz x≠0 then JU sz x else Y8 sz (seen++[x.nm]) l
def K2 (n:Int):Bool:=decide (n<1) || decide (4096<n)
def YB (sz:LI)(ex:List UA)(cs:List xG):Int:=if 8<sz.length then 3 else if sz.any K2=true then 2 else if 32<ex.length\/32<cs.length then 3 else if YA sz [] ex≠0 then YA sz [] ex else Y8 sz [] cs
def mns (a b:LI):LI:=mrg (λp q=>p && !q) a b
def KS (a:Q2):Bool:=decide (X9 a=0) && decide ((Yc a).st=a.st/\(Yc a).al=a.al/\(Yc a).mr=a.mr/\(Yc a).ed=a.ed)
def Yb (nev:Nat)(amg:LI)(seen:List ByteArray)(x:YU):Int :=
 if JE x.nm=false then 7 else if x.nm∈seen then 8 else if X9 x.a≠0 then X9 x.a else if KS x.a=false then 6 else if x.a.st=0 then 12 else
 if(x.a.al.any λe=>decide ((nev:Int)<=e))=true then 2 else if(mns x.a.al amg).length≠0 then 9 else 0
def Yn (nev:Nat)(al:LI):List ByteArray->LI->List YU->Int×List ByteArray×LI
 | s,u,[]=>(0,s,u)
 | s,u,x::l=>if Yb nev al s x≠0 then(Yb nev al s x,s,u)else Yn nev al (s++[x.nm]) (mrg (· || ·) u x.a.al) l
def Jz (nev:Nat)(u:LI):List ByteArray->List YU->Int
 | _,[]=>0
 | s,x::l=>if Yb nev u s x≠0 then Yb nev u s x else Jz nev u (s++[x.nm]) l
def szs (l:List YU):LI:=l.map (·.a.st)
def O3 (l:List YU):List Q2:=l.map (·.a)
def Zi (c:Zx):Int :=
 if KC c.ev≠0 then KC c.ev else if c.co.length=0 then 12 else if 8<c.co.length\/12<c.co.length+c.rq.length then 3 else
 if(Yn c.ev.length (Vl c.ev.length) [] [] c.co).1≠0 then(Yn c.ev.length (Vl c.ev.length) [] [] c.co).1 else
 if Jz c.ev.length (Yn c.ev.length (Vl c.ev.length) [] [] c.co).2.2 (Yn c.ev.length (Vl c.ev.length) [] [] c.co).2.1 c.rq≠0 then Jz c.ev.length (Yn c.ev.length (Vl c.ev.length) [] [] c.co).2.2 (Yn c.ev.length (Vl c.ev.length) [] [] c.co).2.1 c.rq else
 YB (szs c.co) c.ex c.cs
def Vy (t:LI)(x:UA):Bool:=x.ls.all λl=>decide (t.getD l.1.toNat 0=l.2)
def Qoa (t:LI)(k:xG):Int:=k.ts.foldl (λs p=>s+p.2*t.getD p.1.toNat 0) 0
def UD (t:LI)(k:xG):Bool:=decide (k.bd<Qoa t k)
def fix {α:Type}(q:α->Bool):Nat->List α->Int
 | _,[]=>-1
 | i,e::l=>if q e=true then(i:Int)else fix q (i+1) l
def vio (c:Zx)(t:LI):Option (Int×Int):=
 if 0<=fix (Vy t) 0 c.ex then some (1,fix (Vy t) 0 c.ex)else if 0<=fix (UD t) 0 c.cs then some (2,fix (UD t) 0 c.cs)else none
def rfr (v:Int):Nat->List YU->LI->Int
 | i,x::l,s::ss=>if v∈x.a.al/\(O9 x.a.ed s v).isSome=false then(i:Int)else rfr v (i+1) l ss
 | _,_,_=>-1
structure Rsn where
 st:Int
 kd:Int
 ix:Int
 ev:Int
def rfd (c:Zx)(rs:LI):LI->Option (Int×Int)
 | []=>none
 | v::l=>if 0<=rfr v 0 c.rq rs/\(c.ev.getD v.toNat ⟨.empty,false,false,false,0⟩).co=false then some (rfr v 0 c.rq rs,v)else rfd c rs l
def Qfl (a:Q2)(s:Int):LI:=(Z2 a.ed s).map (·.2.1)
def rsn (c:Zx)(pl:Q2)(plc:Int)(i:Nat)(t:LI):Option Rsn :=
 match vio c (t.take c.co.length)with
 | some (k,j)=>some ⟨i,k,j,-1⟩
 | none=>match rfd c (t.drop c.co.length) (Qfl pl plc)with
  | some (j,v)=>some ⟨i,3,j,v⟩
  | none=>none
structure Spc where
 a:Q2
 co:List (LI)
 rq:List (LI)
 pl:LI
 fb:List Rsn
def plx (ps:List (LI))(t:LI):Int:=if t∈ps then(ps.idxOf t:Int)else 0
def Qmq (c:Zx)(pl:Q2)(ps:List (LI))(s:Spc)(p:LI×Nat):Spc :=
 ⟨s.a,s.co++[p.1.take c.co.length],s.rq++[p.1.drop c.co.length],s.pl++[plx ps (p.1.take c.co.length)],
  match rsn c pl (plx ps (p.1.take c.co.length)) p.2 p.1 with|some r=>s.fb++[r]|none=>s.fb⟩
def YS (c:Zx):Int:=if Zi c≠0 then Zi c else if Uz (O3 c.co)≠0 then Uz (O3 c.co)else match xd (O3 c.co)with
 | none=>3
 | some _=>if Uz (O3 c.co++O3 c.rq)≠0 then Uz (O3 c.co++O3 c.rq)else match xd (O3 c.co++O3 c.rq)with
  | none=>3
  | some _=>0
def syA (l:List Q2):Q2:=match xd l with|none=>⟨[],0,[],[]⟩|some z=>z.1
def syQ (l:List Q2):List (LI):=match xd l with|none=>[]|some z=>z.2
def spc (c:Zx):Spc:=(syQ (O3 c.co++O3 c.rq)).zipIdx.foldl (Qmq c (syA (O3 c.co)) (syQ (O3 c.co))) ⟨syA (O3 c.co++O3 c.rq),[],[],[],[]⟩
section
variable {pS:String}
end
inductive Pu where
 | pl (l:xo)
 | f2 (pre:xo) (i j:Nat) (t1 t2:Pu)
 | f3 (pre:xo) (i j k:Nat) (t1 t2 t3:Pu)
def Pu.len:Pu->Nat
 | .pl l=>l.length
 | .f2 pre _ _ t1 _=>pre.length+(1+t1.len)
 | .f3 pre _ _ _ t1 _ _=>pre.length+(1+t1.len)
def jY (all:Array Oper):Pu->Array Bool->Bool
 | .pl l,ls=>Y6 all l ls
 | .f2 pre i j t1 t2,ls=>Ki all pre ls && Region.ready .any all (Z6 pre ls) == [i,j] && t1.len == t2.len && jY all t1 ((Z6 pre ls).setIfInBounds i true) && jY all t2 ((Z6 pre ls).setIfInBounds j true)
 | .f3 pre i j k t1 t2 t3,ls=>Ki all pre ls && Region.ready .any all (Z6 pre ls) == [i,j,k] && t1.len == t2.len && t1.len == t3.len && jY all t1 ((Z6 pre ls).setIfInBounds i true) && jY all t2 ((Z6 pre ls).setIfInBounds j true) && jY all t3 ((Z6 pre ls).setIfInBounds k true)
def Qoh (all:xx)(t:Pu):Bool:=Region.noSelect all.toArray && t.len == all.length && jY all.toArray t (oV all.length false)
def XE (P:O0)(all:xx)(C:xt)(i:Nat)(N:xr)(f:Fr)(w:OX):Prop:=Ya all f (QV all i)=true/\XO P (QV all i) f w λE w'=>C w'/\N E w'
def XU (P:O0)(all:xx)(C:xt)(K:xr):Pu->Fr->OX->Prop
 | .pl l=>XP P all C K l
 | .f2 pre i j t1 t2=>XP P all C (λf w=>XE P all C i (XU P all C K t1) f w/\XE P all C j (XU P all C K t2) f w) pre
 | .f3 pre i j k t1 t2 t3=>XP P all C (λf w=>XE P all C i (XU P all C K t1) f w/\XE P all C j (XU P all C K t2) f w/\XE P all C k (XU P all C K t3) f w) pre
section
variable {all:xx}{C:xt}{B:xr}
theorem Ka (E:Region.noSelect all.toArray=true):∀(t:Pu) (ls:Array Bool) (f:Fr) (w:OX),ls.size=all.length->C w->jY all.toArray t ls=true->XU P all C K t f w->XA P all C K t.len ls f w
 | .pl l,ls,f,w,S,T,G,h=>ZN E l ls f w S (.inl T) G h
 | .f2 pre i j t1 t2,ls,f,w,S,T,G,h=>by
  simp only[jY,oJ,beq_iff_eq]at G;obtain⟨⟨⟨⟨Y,H⟩,hl⟩,h1⟩,h2⟩:=G;rw[Pu.len];refine YD (B:=λf w=>XE P all C i (XU P all C K t1) f w/\XE P all C j (XU P all C K t2) f w) E pre ls f w T Y (λf I=>?_) h;have J:∀k,((Z6 pre ls).setIfInBounds k true).size=all.length:=λk=>by simp[YF,S]
  rw[M4 1];refine XC (λh0=>(by rw[h0]at H;cases H)) ?_;rw[H];intro k V o O;simp only[oK,oI,or_false]at V;rcases V with rfl|rfl
  ·have:=I.1;unfold XE at this;rw[Zj O]at this;rw[this.1,cond_true];exact this.2.mono λv w' hx=>⟨.inr (.inr hx.1),Ka E t1 _ _ _ (J _) hx.1 h1 hx.2⟩
  have:=I.2;unfold XE at this;rw[Zj O]at this;rw[this.1,cond_true,hl];exact this.2.mono λv w' hx=>⟨.inr (.inr hx.1),Ka E t2 _ _ _ (J _) hx.1 h2 hx.2⟩
 | .f3 pre i j k t1 t2 t3,ls,f,w,S,T,G,h=>by
  simp only[jY,oJ,beq_iff_eq]at G;obtain⟨⟨⟨⟨⟨⟨Y,H⟩,hl⟩,ha⟩,h1⟩,h2⟩,h3⟩:=G;rw[Pu.len];refine YD (B:=λf w=>XE P all C i (XU P all C K t1) f w/\XE P all C j (XU P all C K t2) f w/\XE P all C k (XU P all C K t3) f w) E pre ls f w T Y (λf I=>?_) h;have J:∀k,((Z6 pre ls).setIfInBounds k true).size=all.length:=λk=>by simp[YF,S]
  rw[M4 1];refine XC (λh0=>(by rw[h0]at H;cases H)) ?_;rw[H];intro q V o O;simp only[oK,oI,or_false]at V;rcases V with rfl|rfl|rfl
  ·have:=I.1;unfold XE at this;rw[Zj O]at this;rw[this.1,cond_true];exact this.2.mono λv w' hx=>⟨.inr (.inr hx.1),Ka E t1 _ _ _ (J _) hx.1 h1 hx.2⟩
  ·have:=I.2.1;unfold XE at this;rw[Zj O]at this;rw[this.1,cond_true,hl];exact this.2.mono λv w' hx=>⟨.inr (.inr hx.1),Ka E t2 _ _ _ (J _) hx.1 h2 hx.2⟩
  have:=I.2.2;unfold XE at this;rw[Zj O]at this;rw[this.1,cond_true,ha];exact this.2.mono λv w' hx=>⟨.inr (.inr hx.1),Ka E t3 _ _ _ (J _) hx.1 h3 hx.2⟩
theorem QlF {Q:Exit->Fr->OX->Prop}(C:xt)(t:Pu)(H:P.follows .mixedOrders=true)(I:XI n all=true)(E:Qoh all t=true)
  (J:C { w with drawn:=w.drawn+1 }) (h:XU P all C (λf w=>Q .normal f w) t f { w with drawn:=w.drawn+1 }):W P n (.region id all.toArray true) Q f w:=by
 simp only[Qoh,oJ,beq_iff_eq]at E;obtain⟨⟨O,hl⟩,E⟩:=E;refine JB C H I ?_;have G:=Ka O t _ _ _ oe J E h;rw[hl]at G;exact G
theorem uP {l:xo}(h:XP P all C K l f w):XU P all C K (.pl l) f w:=h
theorem u2 {pre:xo}{E G:Pu}(h:XP P all C (λf w=>XE P all C i (XU P all C K E) f w/\XE P all C j (XU P all C K G) f w) pre f w):XU P all C K (.f2 pre i j E G) f w:=h
theorem u3 {pre:xo}{k:Nat}{E G H:Pu}(h:XP P all C (λf w=>XE P all C i (XU P all C K E) f w/\XE P all C j (XU P all C K G) f w/\XE P all C k (XU P all C K H) f w) pre f w):XU P all C K (.f3 pre i j k E G H) f w:=h
theorem ue {N:xr}(h:XO P (QV all i) f w λE w'=>C w'/\N E w')(G:Ya all f (QV all i)=true:=by rfl):XE P all C i N f w:=⟨G,h⟩
end
attribute [irreducible] XU XE
open Go.RowKit
abbrev fen (ro:xz):Fence:={ Fence.wide with round:=ro }
def coll (ds:LN):List Deferred:=ds.map λD=>{ target:=.collected D,args:=#[] }
structure Y5 (n:Nat)(ds:LN)(a:Act)(f:Fr):Prop where
 size:a.tmps.size=n
 defers:a.defers=coll ds
 get:∀t,a.tmps.getD t undef=f t
theorem Y5.rel {a:Act}(h:Y5 n ds a f):Rel n { a with defers:=[] } f:=⟨h.size,U,h.get⟩
theorem Y5.eval {n:Nat}{ds:LN}{a:Act}{f:Fr}(h:Y5 n ds a f):a.eval=ev f:=by
 have:=h.rel.eval;rw[<-this];funext x;cases x <;> rfl
theorem Y5.put {n:Nat}{ds:LN}{a:Act}{f:Fr}(h:Y5 n ds a f){dst:xz}(hd:∀d,dst=some d->d<n)(v:OY):Y5 n ds (a.put dst v) (QT f dst v):=by
 have:=h.rel.put hd v;cases dst with
 | none=>exact h
 | some d=>exact⟨this.size,h.defers,this.get⟩
def X3:Code->Nat->Bool
 | .region _ ops _,t=>Yd ops.toList t
 | .seq a b,t=>X3 a t || X3 b t
 | .cond _ a b,t=>X3 a t || X3 b t
 | .block _ a,t=>X3 a t
 | .loop a,t=>X3 a t
 | .skip,_| .exit _,_| .label _,_| .goto _,_| .ret,_| .rangeFunc ..,_=>false
 | _,_=>true
def wrG (D:xp):Code->Bool
 | .region _ ops _=>Qdc D ops.toList
 | .seq a b=>wrG D a && wrG D b
 | .cond _ a b=>wrG D a && wrG D b
 | .block _ a=>wrG D a
 | .loop a=>wrG D a
 | .skip| .exit _| .label _| .goto _| .ret| .rangeFunc ..=>true
 | _=>false
theorem JJ {D:xp}{t:Nat}(E:Xa D t=false):∀c:Code,wrG D c=true->X3 c t=false
 | .region _ ops _,h=>yF h E
 | .seq a b,h=>by simp only[wrG,oJ]at h;simp[X3,JJ E a h.1,JJ E b h.2]
 | .cond _ a b,h=>by simp only[wrG,oJ]at h;simp[X3,JJ E a h.1,JJ E b h.2]
 | .block _ a,h=>JJ E a (by simpa[wrG]using h)
 | .loop a,h=>JJ E a (by simpa[wrG]using h)
 | .skip,_=>rfl
 | .exit _,_=>rfl
 | .label _,_=>rfl
 | .goto _,_=>rfl
 | .ret,_=>rfl
 | .rangeFunc ..,_=>rfl
 | .scope _,h=>by simp[wrG]at h
 | .refuse _,h=>by simp[wrG]at h
def WG (ro:xz)(m:Nat)(P:O0)(n:Nat)(c:Code)(Q:Exit->LN->Fr->OX->Prop)(ds:LN)(f:Fr)(w:OX):Prop :=
 ∀a,Y5 n ds a f->c.wpIn (fen ro) m P (λe E w'=>∃ds' f',Y5 n ds' E f'/\(∀t,X3 c t=false->f' t=f t)/\Q e ds' f' w') a w
def Qb6 (K:LN->Fr->OX->Prop)(Q:Exit->LN->Fr->OX->Prop):Exit->LN->Fr->OX->Prop
 | .normal,ds,f,w=>K ds f w
 | e,ds,f,w=>Q e ds f w
def QoT (id:Nat)(Q:Exit->LN->Fr->OX->Prop):Exit->LN->Fr->OX->Prop
 | .exit i,ds,f,w=>bif OO i id then Q .normal ds f w else Q (.exit i) ds f w
 | e,ds,f,w=>Q e ds f w
section
variable {ro:xz}{m:Nat}{Q:Exit->LN->Fr->OX->Prop}
theorem WG.mono {c:Code}{Q':Exit->LN->Fr->OX->Prop}(h:WG ro m P n c Q ds f w)(E:∀e ds f w,Q e ds f w->Q' e ds f w):WG ro m P n c Q' ds f w :=
 λa G=>wpIn_mono (h a G) λ_ _ _ ⟨H,I,J,O,S⟩=>⟨H,I,J,O,E _ _ _ _ S⟩
theorem WG.keeps {c:Code}(h:WG ro m P n c Q ds f w):WG ro m P n c (λe G E w'=>(∀t,X3 c t=false->E t=f t)/\Q e G E w') ds f w :=
 λa I=>wpIn_mono (h a I) λ_ _ _ ⟨G,E,J,H,O⟩=>⟨G,E,J,H,H,O⟩
theorem YG (h:Q .normal ds f w):WG ro m P n .skip Q ds f w:=λ_ E=>wpIn_skip ⟨ds,f,E,λ_ _=>U,h⟩
theorem K6 (h:Q (.exit i) ds f w):WG ro m P n (.exit i) Q ds f w:=λ_ E=>wpIn_exit ⟨ds,f,E,λ_ _=>U,h⟩
theorem K5 (h:Q .ret ds f w):WG ro m P n .ret Q ds f w:=λ_ E=>wpIn_ret ⟨ds,f,E,λ_ _=>U,h⟩
theorem Zg {x y:Code}(h:WG ro m P n x (Qb6 (λds f w=>WG ro m P n y Q ds f w) Q) ds f w):WG ro m P n (.seq x y) Q ds f w:=by
 intro a O;refine wpIn_seq (wpIn_mono (h a O) ?_);rintro e S w' ⟨J,E,G,T,H⟩;have k1:∀t,X3 (.seq x y) t=false->E t=f t:=λt I=>T t (by simp only[X3,Oc]at I;exact I.1);cases e with
 | normal =>
  refine wpIn_mono (H S G) λ_ _ _ ⟨V,Y,g1,g2,g3⟩=>⟨V,Y,g1,λt I=>(g2 t ?_).D (k1 t I),g3⟩;simp only[X3,Oc]at I;exact I.2
 | exit id=>exact⟨J,E,G,k1,H⟩
 | goto l=>exact⟨J,E,G,k1,H⟩
 | ret=>exact⟨J,E,G,k1,H⟩
 | panic ch=>exact⟨J,E,G,k1,H⟩
 | outgrown=>exact⟨J,E,G,k1,H⟩
theorem Qew {x y:Code}(D:xp)(S:α->List (Nat×OY))(I:α->LN->OX->Prop)(O:wrG D x=true)
  (T:WG ro m P n x (Qb6 (λE H w'=>∃z,Xn H (S z)/\I z E w') Q) ds f w)
  (V:∀z g E w',I z E w'->WG ro m P n y Q E (qh (S z) (mix D f g)) w'):WG ro m P n (.seq x y) Q ds f w:=by
 refine Zg (T.keeps.mono ?_);rintro e E H w' ⟨Y,G⟩;cases e with
 | normal =>
  obtain⟨z,hs,hi⟩:=G;have J:=V z H E w' hi;rw[X5 (λt ht=>Y t (JJ ht x O)),Y0 hs]at J;exact J
 | exit id=>exact G
 | goto l=>exact G
 | ret=>exact G
 | panic ch=>exact G
 | outgrown=>exact G
theorem VR {c:OZ}{x y:Code}{t:Bool}(H:ev f c=.bool t)(E:t=true->WG ro m P n x Q ds f w)(I:t=false->WG ro m P n y Q ds f w):
  WG ro m P n (.cond c x y) Q ds f w:=by
 intro a G;have J:a.eval c=.bool t:=by rw[G.eval];exact H
 refine wpIn_cond_split J (λe=>wpIn_mono (E e a G) ?_) (λe=>wpIn_mono (I e a G) ?_) <;>
  (rintro e a' w' ⟨O,S,T,V,Y⟩
   refine⟨O,S,T,λt E=>V t ?_,Y⟩;simp only[X3,Oc]at E
   first|exact E.1|exact E.2)
theorem QlM {c:OZ}{x y:Code}{p:Prop}[Decidable p](E:ev f c=.bool (decide p))(G:p->WG ro m P n x Q ds f w)(H:¬p->WG ro m P n y Q ds f w):
  WG ro m P n (.cond c x y) Q ds f w :=
 VR E (λe=>G (OU e)) (λe=>H (OW e))
theorem jH {c:OZ}{x y:Code}{p:Prop}[Decidable p](E:ev f c=.bool (decide p))(G:¬p->WG ro m P n y Q ds f w)(H:p->WG ro m P n x Q ds f w):
  WG ro m P n (.cond c x y) Q ds f w:=QlM E H G
theorem Qar {c:OZ}{x y:Code}(E:ev f c=.bool true)(h:WG ro m P n x Q ds f w):WG ro m P n (.cond c x y) Q ds f w:=VR E (λ_=>h) (λe=>by cases e)
theorem Vk {c:OZ}{x y:Code}(E:ev f c=.bool false)(h:WG ro m P n y Q ds f w):WG ro m P n (.cond c x y) Q ds f w:=VR E (λe=>by cases e) (λ_=>h)
theorem Z7 {c:Code}(h:WG ro m P n c (QoT id Q) ds f w):WG ro m P n (.block id c) Q ds f w:=by
 intro a J;refine wpIn_block (wpIn_mono (h a J) ?_);rintro e V w' ⟨H,G,I,O,E⟩;have k1:∀t,X3 (.block id c) t=false->G t=f t:=λt S=>O t (by simpa[X3]using S);cases e with
 | exit i =>
  simp only[Exit.inBlock];simp only[QoT]at E;by_cases hi:i=id
  ·subst hi;simp only[Nat.beq_refl,cond_true]at E;simp only[if_true];exact⟨H,G,I,k1,E⟩
  have T:OO i id=false:=by
   cases e:OO i id with
   | false=>rfl
   | true=>exact OS (Nat.eq_of_beq_eq_true e) hi
  rw[T]at E;rw[OP hi];exact⟨H,G,I,k1,E⟩
 | normal=>exact⟨H,G,I,k1,E⟩
 | goto l=>exact⟨H,G,I,k1,E⟩
 | ret=>exact⟨H,G,I,k1,E⟩
 | panic ch=>exact⟨H,G,I,k1,E⟩
 | outgrown=>exact⟨H,G,I,k1,E⟩
end
def Qa6 (l:xx):Bool:=l.all λo=>match o.op with| .defer _=>false|_=>true
theorem VC {l:xx}(h:Qa6 l=true):∀o∈l,∀c,o.op≠.defer c:=λo E c e=>by
 have:=Mg.1 h o E;rw[e]at this;cases this
section
variable {ro:xz}{m:Nat}
theorem Qer {a:Act}{K':Act->OX->Prop}{Q:Exit->Act->OX->Prop}(h:Y5 n ds a f)(G:∀c,o.op≠.defer c)
  (hK:∀v w',K (QT f o.dst v) w'->K' (a.put o.dst v) w') (hx:XO P o f w K):o.wpIn (fen ro) m P a w K' Q:=by
 unfold XO at hx;refine⟨λ_ _=>trivial,?_⟩;have e:Oper.semAt (fen ro).round a.eval o=execOp (ev f) o:=by
  rw[h.eval];cases ro with
  | none=>rfl
  | some l=>exact Oper.semAt_some l _ _ G
 rw[e];generalize (execOp (ev f) o).run P w=r at hx;cases r with
 | ok nx w' =>
  cases nx <;> simp only[upF]at hx <;> simp only[Oper.uponIn]
  case value v=>exact hK v w' hx
  case skip=>exact hK _ w' hx
  case enter g args =>
   refine⟨λh=>by simp[Fence.wide]at h,?_⟩;refine(callsIn_wide (n:=m - 1)).2 (Calls.mono hx λe H E=>?_);cases e with
   | returned v=>exact hK v H E
   | panicked c=>exact E.elim
   | outgrown=>exact E.elim
 | halt x w'=>exact hx.elim
theorem Vx {l:xx}{a:Act}(h:Y5 n ds a f)(E:∀o∈l,∀d,o.dst=some d->d<n)(o:Oper):Region.wanted o (yielded l.toArray a.tmps)=Ya l f o:=UC h.rel E o
theorem Qes {Q:Exit->LN->Fr->OX->Prop}{all:xx}(G:∀o∈all,∀d,o.dst=some d->d<n)(hd:∀o∈all,∀c,o.op≠.defer c)(H:Fr):
  ∀(l:xx) (k:Nat) (a:Act) (f:Fr) (w:OX),(∀j,l[j]?=all[k+j]?)->Y5 n ds a f->(∀t,Yd all t=false->f t=H t) ->
   XL P all (λf w=>Q .normal ds f w) l f w ->
   wpOpsIn (fen ro) m P all.toArray (λe V w'=>∃ds' f',Y5 n ds' V f'/\(∀t,Yd all t=false->f' t=H t)/\Q e ds' f' w') (oQ k l.length) a w
 | [],_,a,f,w,_,E,J,h=>⟨ds,f,E,J,by unfold XL at h;exact h⟩
 | o::l,k,a,f,w,hl,E,J,h=>by
  have O:all[k]?=some o:=by simpa using(hl 0).symm
  have I:o∈all:=Ms O;have ih:=λa f w=>Qes (Q:=Q) G hd H l (k+1) a f w (λj=>by have:=hl (j+1);simpa[OG,Nat.add_comm 1 j]using this);have next:∀v,(∀t,Yd all t=false->QT f o.dst v t=H t):=λv t S=>(Y1 (Jn I S) v).D (J t S);simp only[oU,Ov,wpOpsIn,oY,O];rw[Vx E G o];unfold XL at h;cases T:Ya all f o with
  | false =>
   rw[T]at h;exact⟨λ_ _=>trivial,ih _ _ _ (E.put (G o I) _) (next _) h⟩
  | true =>
   rw[T]at h;exact Qer E (hd o I) (λv w' hx=>ih _ _ _ (E.put (G o I) v) (next v) hx) h
theorem QL {Q:Exit->LN->Fr->OX->Prop}{l:xx}(E:XI n l=true)(hd:Qa6 l=true)(h:XL P l (λf w=>Q .normal ds f w) l f w):WG ro m P n (.region id l.toArray false) Q ds f w:=by
 intro a G;refine wpIn_region ?_;have:=Qes (ro:=ro) (m:=m) (Xh E) (VC hd) f l 0 a f w oe G (λ_ _=>rfl) h;simpa[List.range_eq_range',X3]using this
attribute [local semireducible] XA in
theorem qT {Q:Exit->Act->OX->Prop}{all:xx}{C:xt}{K:xr}(G:∀o∈all,∀d,o.dst=some d->d<n)(hd:∀o∈all,∀c,o.op≠.defer c)(H:Fr)
  (I:∀a f w,Y5 n ds a f->(∀t,Yd all t=false->f t=H t)->K f w->Q .normal a w):
  ∀(k:Nat) (ls:Array Bool) (a:Act) (f:Fr) (w:OX),Y5 n ds a f->(∀t,Yd all t=false->f t=H t)->XA P all C K k ls f w->wpAnyIn (fen ro) m P .any all.toArray Q k ls a w
 | 0,_,a,f,w,E,J,h=>⟨h.1,I a f w E J h.2⟩
 | k+1,ls,a,f,w,E,J,h=>by
  refine⟨λh0=>I a f w E J (h.1 h0),λi hi=>?_⟩;unfold wpOpIn;simp only[oY];cases T:all[i]? with
  | none =>
   exfalso;obtain⟨_,o,ha,_⟩:=mem_ready.1 hi;simp[T]at ha
  | some o =>
   have O:o∈all:=Ms T;have S:=h.2 i hi o T;have next:∀v,(∀t,Yd all t=false->QT f o.dst v t=H t):=λv t V=>(Y1 (Jn O V) v).D (J t V);simp only[];rw[Vx E G o];cases Y:Ya all f o with
   | false =>
    rw[Y]at S;exact⟨λ_ _=>trivial,qT G hd H I k _ _ _ _ (E.put (G o O) _) (next _) S⟩
   | true =>
    rw[Y]at S;exact Qer E (hd o O) (λv w' hx=>qT G hd H I k _ _ _ _ (E.put (G o O) v) (next v) hx.2) S
theorem ym {Q:Exit->LN->Fr->OX->Prop}{all:xx}(C:xt)(pl:xo)(I:P.follows .mixedOrders=true)(J:XI n all=true)(hd:Qa6 all=true)(G:zk all pl=true)
  (O:C { w with drawn:=w.drawn+1 }) (h:XP P all C (λf w=>Q .normal ds f w) pl f { w with drawn:=w.drawn+1 }):WG ro m P n (.region id all.toArray true) Q ds f w:=by
 intro a S;simp only[zk,oJ,beq_iff_eq]at G;obtain⟨⟨T,hl⟩,G⟩:=G;refine wpIn_region_any I ?_;have H:=ZN T pl _ _ _ oe (.inl O) G h;rw[hl]at H;have V:=qT (ro:=ro) (m:=m) (n:=n) (ds:=ds) (Q:=λe Y w'=>∃ds' E,Y5 n ds' Y E/\(∀t,Yd all t=false->E t=f t)/\Q e ds' E w') (Xh J) (VC hd) f
  (λa E w hr hk hq=>⟨ds,E,hr,hk,hq⟩) _ _ a f _ S (λ_ _=>U) H
 simpa[X3]using V
end
section
variable {ro:xz}{m:Nat}{Q:Exit->LN->Fr->OX->Prop}
theorem qg {F:Fence}{c:Code}{Q:Exit->Act->OX->Prop}{a:Act}(J:α->Act->OX->Prop)(μ:α->Nat)(z:α)(h₀:J z a w)
  (round:∀x a w,J x a w->c.wpIn F m P (Exit.then (λH w'=>∃I,μ I<μ x/\J I H w') Q) a w):(Code.loop c).wpIn F m P Q a w:=by
 intro b k cs T O S;have key:∀j x a w,μ x=j->J x a w ->
   ∃e H w',Q e H w'/\ArrivesIn (Machine.fenced P F) P (lone (b.atR a (.code c::.inLoop c::k)) cs w) b k cs e H w':=by
  intro j;induction j using Nat.strongRecOn with
  | _ j ih =>
   intro x a w V Y;obtain⟨e,a₁,w₁,E,G⟩:=round x a w Y b (.inLoop c::k) cs T O S;cases e with
   | normal =>
    obtain⟨I,ha,hc⟩:=E;obtain⟨e₂,a₂,w₂,hq₂,harr₂⟩:=ih (μ I) (V ▸ ha) I a₁ w₁ U hc;exact⟨e₂,a₂,w₂,hq₂,.of_steps (StepsIn.trans G (.one (fenced_calm O S U) stepR_inLoop)) harr₂⟩
   | exit id=>exact⟨_,a₁,w₁,E,.pass (x:=.inLoop c) U (λ_ _=>.inl oe) G⟩
   | goto l=>exact⟨_,a₁,w₁,E,.pass (x:=.inLoop c) U (λ_ _=>.inl oe) G⟩
   | ret=>exact⟨_,a₁,w₁,E,.pass (x:=.inLoop c) U (λ_ _=>.inl oe) G⟩
   | panic ch=>exact⟨_,a₁,w₁,E,.pass (x:=.inLoop c) U (λ_ _=>.inl oe) G⟩
   | outgrown=>exact⟨_,a₁,w₁,E,.pass (x:=.inLoop c) U (λ_ _=>.inl oe) G⟩
 obtain⟨e,H,w',E,G⟩:=key _ z a w U h₀;exact⟨e,H,w',E,.of_steps (.one (fenced_calm O S U) stepR_loop) G⟩
theorem U4 {c:Code}(D:xp)(S:α->List (Nat×OY))(I:α->LN->OX->Prop)(μ:α->Nat)(hD:wrG D c=true)(z:α)
  (h0:Xn f (S z)) (hI:I z ds w)
  (round:∀x g H w',I x H w'->WG ro m P n c (Qb6 (λE J hb=>∃V,μ V<μ x/\Xn J (S V)/\I V E hb) Q) H (qh (S x) (mix D f g)) w'):WG ro m P n (.loop c) Q ds f w:=by
 intro a ha;refine qg (λ(x:α) Y w'=>∃H J,Y5 n H Y J/\(∀t,X3 c t=false->J t=f t)/\Xn J (S x)/\I x H w') μ z ⟨ds,f,ha,λ_ _=>U,h0,hI⟩ ?_;rintro x Y w' ⟨H,J,h1,h2,h3,h4⟩;have h5:=round x J H w' h4;rw[X5 (λt O=>h2 t (JJ O c hD)),Y0 h3]at h5;refine wpIn_mono (h5 Y h1) ?_;rintro e hc hb ⟨E,G,g1,g2,T⟩;have k1:∀t,X3 c t=false->G t=f t:=λt O=>(g2 t O).D (h2 t O);have k2:∀t,X3 (.loop c) t=false->G t=f t:=λt O=>k1 t (by simpa[X3]using O);cases e with
 | normal=>obtain⟨V,hm,hs,hi⟩:=T;exact⟨V,hm,E,G,g1,k1,hs,hi⟩
 | exit id=>exact⟨E,G,g1,k2,T⟩
 | goto l=>exact⟨E,G,g1,k2,T⟩
 | ret=>exact⟨E,G,g1,k2,T⟩
 | panic ch=>exact⟨E,G,g1,k2,T⟩
 | outgrown=>exact⟨E,G,g1,k2,T⟩
end
def rqG (P:O0)(rs:List ResultVar)(R:OY->OX->Prop):Exit->LN->Fr->OX->Prop
 | .normal,ds,f,w=>(∀D∈ds,w.heap[D]?=some (.deferred (some [])))/\ds.Nodup/\∃vs,∀w',O1 ds w w'->Uw P f w' rs vs/\R (tup vs) w'
 | .ret,ds,f,w=>(∀D∈ds,w.heap[D]?=some (.deferred (some [])))/\ds.Nodup/\∃vs,∀w',O1 ds w w'->Uw P f w' rs vs/\R (tup vs) w'
 | _,_,_,_=>False
theorem O1.putObj (w:OX)(D:Nat)(o:Obj):O1 [D] w (w.putObj D o):=⟨U,U,U,oe,λk _ E=>World.putObj_heap_other (λe=>E (by simp[e]))⟩
theorem zz {F:Fence}{m:Nat}{P:O0}{fn:Func}{tmps:Array OY}{R:Ending->OX->Prop}:∀(ds:LN) (w:OX),(∀D∈ds,w.heap[D]?=some (.deferred (some [])))->ds.Nodup ->
  (∀w',O1 ds w w'->∃v,(results fn tmps).run P w'=.ok v w'/\R (.returned v) w')->LeavesInM F m P fn tmps R (coll ds) .returning w
 | [],w,_,_,h=>h w (O1.Z _ _)
 | D::ds,w,H,J,h=>by
  refine⟨oe,.inl ⟨D,_,rfl,run_takeDeferred (H D Lq),?_⟩⟩;have O:=O1.putObj w D (.deferred none);have I:=M0.1 J;refine zz ds _ (λE hE=>?_) I.2 (λw' S=>h w' ?_)
  ·rw[World.putObj_heap_other (λe=>I.1 (by rw[<-e];exact hE))];exact H E (Lj _ hE)
  exact(O.mono (λb G=>by simp at G;simp[G])).Q (S.mono (λb G=>Lj _ G))
theorem Q3.of_G {c:Code}{args:LV}{R:OY->OX->Prop}{rs:List ResultVar}(m:Nat)
  (V:P.funcs[g]?=some fn) (Y:fn.body=some c) (hn:fn.ntmps=n) (ha:fn.results=rs.toArray) (hl:args.length<=n)
  (h:WG none m P n c (rqG P rs R) [] (ent args) w):Q3 P g args w R:=by
 unfold Q3;refine(callsIn_wide (n:=m)).1 (callsIn_of_wp_marks V Y Z (wpIn_mono (h _ ?_) ?_))
 ·refine⟨by simp[hn];omega,U,λt=>?_⟩;have key:∀(l:LV) (t:Nat),l[t]?.getD undef=ent l t:=by
   intro l;induction l with
   | nil=>intro t;rfl
   | cons v l ih=>intro t;cases t with|zero=>rfl|succ t=>simpa[ent]using ih t
  rw[<-key];simp only[Array.getD_eq_getD_getElem?,Array.getElem?_append,o9,oY];by_cases J:t<args.length
  ·simp[J]
  simp[J,Array.getElem?_replicate];split <;> rfl
 rintro e I w' ⟨H,f',O,_,E⟩;have fin:((∀D∈H,w'.heap[D]?=some (.deferred (some [])))/\H.Nodup/\∃vs,∀G,O1 H w' G->Uw P f' G rs vs/\R (tup vs) G) ->
   LeavesInM Fence.wide m P fn I.tmps (λe w'=>match e with| .returned v=>R v w'|_=>False) I.defers .returning w':=by
  rintro⟨hd,hc,vs,S⟩;rw[O.defers];refine zz H w' hd hc λG T=>⟨tup vs,?_,(S G T).2⟩;simp only[results,ha,List.mapM_toArray,Sem.run_bind,Sem.run_map];rw[JL (a:={ I with defers:=[] }) O.rel _ (λ_=>rfl) (λ_ _=>rfl) rs vs (S G T).1]
  cases vs with
  | nil=>rfl
  | cons v vs=>cases vs with|nil=>rfl|cons u us=>rfl
 cases e with
 | normal=>exact fin E
 | ret=>exact fin E
 | exit id=>exact E.elim
 | goto l=>exact E.elim
 | panic c=>exact E.elim
 | outgrown=>exact E.elim
attribute [irreducible] WG
def IxQ {α:Type}(q:α->Bool)(es:List α)(r:OY):Prop:=(r=oE oF (-1)/\∀m (E:m<es.length),q (es[m]'E)=false)\/∃(i:Nat) (hi:i<es.length),r=oE oF i/\q (es[i]'hi)=true/\∀m (E:m<i),q (es[m]'oa)=false
theorem QkL [Fu prog g fn]{cap:LV}{q:Ed->Bool}{v:OY}(h:qB L w.heap v es)
  (T:∀(e:Ed) (G:OX),O1 [] w G->Q3 prog g ([.agg (QC e).toArray]++cap) G λr w'=>r=.bool (q e)/\O1 [] G w'):
  Q3 prog 333 [v,.func (.func g) #[] cap.toArray] w λr w'=>O1 [] w w'/\IxQ q es r:=by
 have hb:=h.le;refine Zq func333 ?_;refine Qc<|Qb<|Qd<|Qm<|QI h U<|Qa<|xe<|Qg<|QD (α:=Nat) [(4,5),(8,18)] (λz=>[(8,oE oF z)]) (λz w'=>z<=es.length/\O1 [] w w'/\∀m (E:m<es.length),m<z->q (es[m]'E)=false) (λz=>es.length - z) ol 0 La ⟨Lo _,O1.Z _ _,λm _ V=>OS V (Na m)⟩ ?_;rintro k g1 G ⟨hk1,H,J⟩;refine Qc<|Q0 U U<|xe<|Qd<|QH U (λY=>?_) (λY=>?_)
 ·refine Qz<|Qc<|Qb<|Qk ⟨[oE oF (-1)],La,H,.inl ⟨U,λm E=>J m E oa⟩⟩
 have I:k<es.length:=oa
 refine Qh<|Qd<|Qg<|Qm<|Qb<|Qm<|Qa<|Qa<|xie (h.I H) U U I λhc ha=>x (Qx ha U U)<|Qe<|xc (first:=[]) (capt:=cap) U<|(T (es[k]'I) G H).mono ?_;rintro r2 w2 ⟨rfl,S⟩;refine xe<|QQ rfl (λO=>?_) (λO=>?_)
 ·refine Qm<|Qb<|Qk ⟨[oE oF k],La,H.D S,.inr ⟨k,I,U,O,λm E=>J m oa E⟩⟩
 refine Qh<|Qw<|QS U U<|Qa<|xe<|⟨k+1,oa,La,I,H.D S,λm E he=>?_⟩;by_cases e:m=k
 ·subst e;exact O
 exact J m E oa
theorem QkK [Fu prog g fn]{cap:LV}{q:Int->Bool}{v:OY}{es:LI}(h:QP L w.heap v es)
  (T:∀(e:Int) (G:OX),O1 [] w G->Q3 prog g ([oE oF e]++cap) G λr w'=>r=.bool (q e)/\O1 [] G w'):
  Q3 prog 74 [v,.func (.func g) #[] cap.toArray] w λr w'=>O1 [] w w'/\IxQ q es r:=by
 have hb:=h.le;refine Zq func74 ?_;refine Qc<|Qb<|Qd<|Qm<|QI h U<|Qa<|xe<|Qg<|QD (α:=Nat) [(4,5),(8,18)] (λz=>[(8,oE oF z)]) (λz w'=>z<=es.length/\O1 [] w w'/\∀m (E:m<es.length),m<z->q (es[m]'E)=false) (λz=>es.length - z) ol 0 La ⟨Lo _,O1.Z _ _,λm _ V=>OS V (Na m)⟩ ?_;rintro k g1 G ⟨hk1,H,J⟩;refine Qc<|Q0 U U<|xe<|Qd<|QH U (λY=>?_) (λY=>?_)
 ·refine Qz<|Qc<|Qb<|Qk ⟨[oE oF (-1)],La,H,.inl ⟨U,λm E=>J m E oa⟩⟩
 have I:k<es.length:=oa
 refine Qh<|Qd<|Qg<|Qm<|Qb<|Qm<|Qa<|Qa<|xii (h.I H) U U I λhc ha=>x (QA ha U)<|Qe<|xc (first:=[]) (capt:=cap) U<|(T (es[k]'I) G H).mono ?_;rintro r2 w2 ⟨rfl,S⟩;refine xe<|QQ rfl (λO=>?_) (λO=>?_)
 ·refine Qm<|Qb<|Qk ⟨[oE oF k],La,H.D S,.inr ⟨k,I,U,O,λm E=>J m oa E⟩⟩
 refine Qh<|Qw<|QS U U<|Qa<|xe<|⟨k+1,oa,La,I,H.D S,λm E he=>?_⟩;by_cases e:m=k
 ·subst e;exact O
 exact J m E oa
theorem Qeg [Fu prog g fn]{cap:LV}{q:Int->Bool}{v:OY}{es:LI}(h:QP L w.heap v es)
  (I:∀(e:Int) (G:OX),O1 [] w G->Q3 prog g ([oE oF e]++cap) G λr w'=>r=.bool (q e)/\O1 [] G w'):
  Q3 prog 150 [v,.func (.func g) #[] cap.toArray] w λr w'=>r=.bool (es.any q)/\O1 [] w w':=by
 refine Zq func150 ?_;refine Qc<|Qb<|Qm<|Qa<|ZO<|(QkK h I).mono ?_;rintro T G ⟨H,E⟩;refine Or.elim E (λE=>?_) (λE=>?_)
 ·obtain⟨rfl,J⟩:=E;have e:es.any q=false:=by
   rw[Np];intro z O;obtain⟨i,hi,rfl⟩:=LP O;rw[J i hi];simp
  refine x (Yw U U)<|Qb<|Qk ⟨[.bool false],La,by rw[e];rfl,H⟩
 obtain⟨i,hi,rfl,S,_⟩:=E;have e:es.any q=true:=List.any_eq_true.2 ⟨_,Lk hi,S⟩;have e2:decide ((0:Int)<=(i:Int))=true:=oe
 refine x (Yw U U)<|Qb<|Qk ⟨[.bool (decide ((0:Int)<=(i:Int)))],La,by rw[e,e2];rfl,H⟩
theorem Qdu (es:List Ed)(s v:Int):O8 es s v=O8 (Z2 es s) s v:=by
 induction es with
 | nil=>rfl
 | cons e es ih =>
  unfold Z2 at *;rw[Mh];by_cases h:e.1=s
  ·rw[OQ (oy h),O8,O8,ih]
  rw[OP (oy h),O8,OP (λc=>h c.1),ih]
theorem Qco:∀(l:List Ed) (s v:Int) (i:Nat) (hi:i<l.length),(∀e∈l,e.1=s)->(l[i]'hi).2.1=v->(∀m (E:m<i),(l[m]'oa).2.1≠v)->O8 l s v=(l[i]'hi).2.2
 | e::l,s,v,0,_,G,H,_=>by rw[O8,OQ ⟨G e Lq,H⟩];rfl
 | e::l,s,v,i+1,hi,G,H,E=>by
  rw[O8,OP (λc=>E 0 oa c.2)];exact Qco l s v i (oy hi) (λe I=>G e (Lj _ I)) H (λm J=>E (m+1) oa)
theorem Qg7:∀(l:List Ed) (s v:Int),(∀e∈l,e.2.1≠v)->O8 l s v=-1
 | [],_,_,_=>rfl
 | e::l,s,v,h=>by rw[O8,OP (λc=>h e Lq c.2)];exact Qg7 l s v (λe E=>h e (Lj _ E))
theorem Qhc {n:Int}(e:Ed)(w:OX)(G:Q9 w.heap b T [oE oF n]):
  Q3 prog 334 ([.agg (QC e).toArray]++[.pointer (some ⟨b,0,none⟩)]) w λr w'=>r=.bool (decide (e.2.1=n))/\O1 [] w w':=by
 refine Zq func334 ?_;refine Qc<|Qe<|QW (us:=QC e) U λb2 I E J H=>Qb<|Qc<|Qs U H U U<|X2 (G.I E) U U<|x (QY U U)<|Qb<|Qk ⟨[_],La,U,E⟩
theorem QbS {st:Int}(h:qB L w.heap ve a.ed)(H:ZD a)(s v:Int)(ha:0<=s)(J:s<a.st):
  Q3 prog 300 [.agg #[va,oE oF st,vm,ve],oE oF s,oE oF v] w λr w'=>r=oE oF (O8 a.ed s v)/\O1 [] w w':=by
 have hh:=H.st1;refine Zq func300 ?_;refine Qc<|Qe<|QW (us:=[va,oE oF st,vm,ve]) U λb3 w1 J hj hb=>Qe<|QW (us:=[oE oF v]) U λb5 w2 O hk hc=>Qb<|Qc<|Q6 (hb.I O) U U<|Qa<|ZO<|(j0 ((h.I J).I O) H.eds (λe E=>⟨(H.ed e E).1,ot (H.ed e E).2.1⟩) s ha oa).mono ?_;rintro vo w3 ⟨S,hE⟩;refine Qb ?_;have hf:∀e∈Z2 a.ed s,e.1=s:=λe E=>(ZU E).2;rw[Qdu];refine Qm<|x (Zz (l:=[]) (l':=[.tmp 5]))<|ZO<|(QkL (q:=λe=>decide (e.2.1=v)) (cap:=[.pointer (some ⟨b5,0,none⟩)]) hE (λe T I=>Qhc e T ((hc.I S).I I))).mono ?_;rintro r4 T ⟨I,G⟩;have V:=((J.D O).D S).D I;refine Or.elim G (λG=>?_) (λG=>?_)
 ·obtain⟨rfl,hq⟩:=G;have e1:O8 (Z2 a.ed s) s v=-1:=Qg7 _ _ _ λe E=>by
   obtain⟨i,hi,rfl⟩:=LP E;simpa using hq i hi
  rw[e1];refine Qb<|Qd<|Qm<|Q0 U U<|xe<|yi U ?_;refine Qc<|Qb<|Qk ⟨[oE oF (-1)],La,U,V⟩
 obtain⟨i,hi,rfl,h1,h2⟩:=G;have e1:O8 (Z2 a.ed s) s v=((Z2 a.ed s)[i]'hi).2.2:=Qco _ s v i hi hf (oy h1) (λm hm=>oy (h2 m hm));rw[e1];refine Qb<|Qd<|Qm<|Q0 U U<|xe<|QX U (λY=>OS Y oa) (λY=>?_);refine Qh<|Qm<|Qa<|xie (hE.I I) U U hi λhl hg=>x (Zt U)<|x (QA (hg.fld 2 _ U) U)<|Qb<|Qk ⟨[_],La,U,V⟩
def flw (a:Q2):Int->LI->Int×Nat
 | s,[]=>(s,0)
 | s,v::u=>if O8 a.ed s v<0 then(s,0)else((flw a (O8 a.ed s v) u).1,(flw a (O8 a.ed s v) u).2+1)
theorem QmD (E:ZD a){v:Int}(h:¬O8 a.ed s v<0):O8 a.ed s v<a.st:=(E.ed _ (j1 oa)).2.2.2.2
theorem Qff {vw:OY}{st:Int}(h:qB L w.heap ve a.ed)(H:QP L' w.heap vw u)(S:ZD a)(s:Int)(hc:0<=s)(T:s<a.st):
  Q3 prog 263 [.agg #[va,oE oF st,vm,ve],oE oF s,vw] w λr w'=>r=.tuple #[oE oF (flw a s u).1,oE oF (flw a s u).2]/\O1 [] w w':=by
 have hi:=H.le;refine Zq func263 ?_;refine Qc<|Qe<|QW (us:=[va,oE oF st,vm,ve]) U λb3 w1 T hj he=>x Ql<|Qb<|Qd<|Qm<|QI H U<|Qa<|xe<|Qg<|QD (α:=Nat×Int) [(1,1),(6,10),(13,27)] (λz=>[(1,oE oF z.2),(13,oE oF z.1)]) (λz w'=>z.1<=u.length/\0<=z.2/\z.2<a.st/\O1 [] w1 w'/\flw a s u=((flw a z.2 (u.drop z.1)).1,(flw a z.2 (u.drop z.1)).2+z.1)) (λz=>u.length - z.1) ol (0,s) oz ⟨Lo _,hc,by assumption,O1.Z _ _,oe⟩ ?_;rintro⟨k,t⟩ g w2 ⟨hk,V,Y,O,E⟩;simp only[]at hk V Y E;have I:=T.D O;refine Qc<|Q0 U U<|xe<|Qd<|QH U (λha=>?_) (λha=>?_)
 ·refine Qz<|Qm<|Qa<|QI H U<|x Ql<|Qb ?_;rw[Lp oa]at E;have hg:k=u.length:=by have hl:¬(k:Int)<(u.length:Int):=ha;omega
  refine Qk ⟨[oE oF t,oE oF u.length],oz,?_,I⟩;rw[E,hg];simp[flw,tup]
 have G:k<u.length:=oa
 rw[Zd G,flw]at E;refine Qh<|Qd<|Qg<|Qm<|xii (H.I I) U U G λhm hh=>x (QA hh U)<|x Ql<|Qb<|Qc<|Q6 (he.I O) U U<|Qa<|Qa<|QM<|(QbS (h.I I) S t (u[k]'G) V Y).mono ?_;rintro r3 w3 ⟨rfl,hb⟩;refine Qb<|Qd<|Qm<|Q0 U U<|xe<|QX rfl (λJ=>?_) (λJ=>?_)
 ·rw[OQ J]at E;refine Qm<|Qa<|x Ql<|Qb<|Qk ⟨[oE oF t,oE oF k],oz,?_,I.D hb⟩;rw[E];simp[tup]
 rw[OP J]at E;have hn:=QmD S J;refine Qh<|Qw<|Qa<|Qb<|Qw<|QS U U<|Qa<|xe<|⟨(k+1,O8 a.ed t (u[k]'G)),oh,oz,G,oh,hn,O.D hb,?_⟩;simp only[];rw[E];simp;omega
def cks (a:Q2)(s:Int):Int:=if X9 a≠0 then X9 a else if s<0\/a.st<=s then 2 else 0
theorem JW (h:ZH L w.heap va vm ve a)(s:Int):
  Q3 prog 259 [.agg #[va,oE oF a.st,vm,ve],oE oF s] w λr w'=>r=oE oF (cks a s)/\O1 [] w w':=by
 refine Zq func259 ?_;refine Qc<|Qe<|QW (us:=[va,oE oF a.st,vm,ve]) U λb2 V J Y O=>Qb<|Qd<|Qc<|Q6 O U U<|QM<|(X1 (h.I J)).mono ?_;rintro r2 T ⟨rfl,S⟩;refine Qb ?_;unfold cks;have E:=J.D S;refine Qm<|ZB U U<|xe<|QX rfl (λG=>?_) (λG=>?_)
 ·refine Qm<|Qb<|Qk ⟨[_],La,by rw[OQ G];rfl,E⟩
 rw[OP G];refine Qh<|Qd<|Za (α:=Unit) [(11,18)] (λz=>[(18,.bool (decide (s<0\/a.st<=s)))]) (λz w'=>w'=T) ol ?_ ?_
 ·refine Qw<|Qa<|xb (YP U U) (λH=>?_) (λH=>?_)
  ·refine Qa<|Qp<|Qp<|Qp<|Qp<|QG U<|xe ?_;exact⟨(),⟨by rw[OT (Or.inl H)];rfl,Z⟩,U⟩
  refine Qa<|Qa<|Qs U (O.I S) U U<|x (Yw U U)<|QG U<|xe ?_;exact⟨(),⟨by show Value.bool (decide (a.st<=s))=_;simp[H],Z⟩,rfl⟩
 rintro z g w3 rfl;refine QX rfl (λI=>?_) (λI=>?_)
 ·refine Qc<|Qb<|Qk ⟨[_],La,by rw[OQ I];rfl,E⟩
 refine Qh<|Qc<|Qb<|Qk ⟨[_],La,by rw[OP I];rfl,E⟩
theorem QbD (h:cks a s=0):ZD a/\0<=s/\s<a.st:=by
 unfold cks at h;split at h
 ·rename_i E;exact OS h E
 rename_i E;split at h
 ·cases h
 rename_i G;exact⟨(Z0 a).1 (Ln.1 E),oa,oa⟩
theorem Qj2 (e:Int)(w:OX)(E:Q9 w.heap b T (va::us))(G:QP L w.heap va al):
  Q3 prog 262 ([oE oF e]++[.pointer (some ⟨b,0,none⟩)]) w λr w'=>r=.bool (decide (e∉al))/\O1 [] w w':=by
 refine Zq func262 ?_;refine Qc<|Qb<|Qc<|Qs U E U U<|Qa<|QM<|(Yr G e).mono ?_;rintro H I ⟨rfl,rfl⟩;refine x (ZC U)<|Qb<|Qk ⟨[_],La,?_,O1.Z _ _⟩;show Value.bool (!decide (e∈al))=_;rw[decide_not]
def Qj1 (a:Q2)(s:Int)(u:LI):Int:=if cks a s≠0 then cks a s else if(u.any λe=>decide (e∉a.al))=true then 9 else 0
theorem QnM {vw:OY}(h:ZH L w.heap va vm ve a)(T:QP L' w.heap vw u)(s:Int):
  Q3 prog 201 [.agg #[va,oE oF a.st,vm,ve],oE oF s,vw] w λr w'=>O1 [] w w'/\r=if Qj1 a s u≠0 then .tuple #[oE oF 0,oE oF 0,oE oF (Qj1 a s u)]else .tuple #[oE oF (flw a s u).1,oE oF (flw a s u).2,oE oF 0]:=by
 refine Zq func201 ?_;refine Qc<|Qe<|QW (us:=[va,oE oF a.st,vm,ve]) U λb3 w1 V hb J=>x Ql<|x Ql<|Qb<|Qd<|Qc<|Q6 J U U<|Qa<|ZO<|(JW (h.I V) s).mono ?_;rintro r2 w2 ⟨rfl,O⟩;refine Qb ?_;have G:=V.D O;unfold Qj1;refine Qm<|ZB U U<|xe<|QX rfl (λE=>?_) (λE=>?_)
 ·refine Qm<|x Ql<|x Ql<|Qb<|Qk ⟨[_,_,_],oA,G,by rw[OQ E,OQ E];rfl⟩
 have hc:cks a s=0:=Ln.1 E;obtain⟨ho,h0,h1⟩:=QbD hc;rw[OP E];refine Qh<|Qd<|Qm<|x (Zz (l:=[]) (l':=[.tmp 3]))<|ZO<|(Qeg (q:=λe=>decide (e∉a.al)) (cap:=[.pointer (some ⟨b3,0,none⟩)]) (T.I G) (λe Y H=>Qj2 e Y ((J.I O).I H) ((h.al.I G).I H))).mono ?_;rintro r3 w3 ⟨rfl,ha⟩;refine xe ?_;have I:=G.D ha;refine QQ rfl (λS=>?_) (λS=>?_)
 ·rw[OQ S];refine Qc<|x Ql<|x Ql<|Qb<|Qk ⟨[_,_,_],oA,I,by rw[OQ og];rfl⟩
 rw[OP (by rw[S];simp)];refine Qh<|Qc<|Q6 ((J.I O).I ha) U U<|Qa<|Qa<|ZO<|(Qff (h.ed.I I) (T.I I) ho s h0 h1).mono ?_;rintro r4 Y ⟨rfl,H⟩;refine Qa<|x (Zn U U) <|
  QZ rfl rfl<|x Ql<|Qb<|Qm<|Qa<|x Ql<|x Ql<|Qb<|Qk ⟨[_,_,_],oA,I.D H,U⟩
def enb (a:Q2)(s:Int):LI:=(Z2 a.ed s).map (·.2.1)
theorem Qh6 {l:List Ed}{k:Nat}(h:k<l.length):(l.take (k+1)).map (·.2.1)=(l.take k).map (·.2.1)++[(l[k]'h).2.1]:=by
 rw[List.take_add_one,LU h,Lt];rfl
theorem Qda (h:ZH L w.heap va vm ve a)(s:Int):
  Q3 prog 194 [.agg #[va,oE oF a.st,vm,ve],oE oF s] w λr w'=>O1 [] w w'/\∃v,r=.tuple #[v,oE oF (cks a s)]/\(cks a s≠0->v=Z8)/\(cks a s=0->Qv 3 w.heap.size w' v (enb a s)):=by
 refine Zq func194 ?_;refine Qc<|Qe<|QW (us:=[va,oE oF a.st,vm,ve]) U λb2 w1 ha hz hf=>x Ql<|Qb<|Qd<|Qc<|Q6 hf U U<|Qa<|QM<|(JW (h.I ha) s).mono ?_;rintro r2 w2 ⟨rfl,hg⟩;refine Qb ?_;have O:=ha.D hg;refine Qm<|ZB U U<|xe<|QX rfl (λS=>?_) (λS=>?_)
 ·refine Qm<|x Ql<|Qb<|Qk ⟨[Z8,_],oz,O,Z8,U,λ_=>U,λe=>OS e S⟩
 have hc:cks a s=0:=Ln.1 S;obtain⟨G,h0,h1⟩:=QbD hc;have h2:=G.st1;rw[hc];refine Qh<|Qc<|Qb<|Qd<|Qc<|Q6 (hf.I hg) U U<|Qa<|QM<|(j0 (h.ed.I O) G.eds (λe he=>⟨(G.ed e he).1,ot (G.ed e he).2.1⟩) s h0 oa).mono ?_;rintro vo w3 ⟨hi,hE⟩;refine QI hE U<|Qa<|xe ?_;have hh:=O.D hi;have hj:=hh.size;have hl:=KO a.ed s;have h3:=G.ed_le;refine Zo (Z2 a.ed s) λos H=>?_;rw[H]at hE hl;refine Qg<|QD (α:=Nat×OY) [(7,7),(9,9),(20,29)] (λz=>[(7,z.2),(20,oE oF z.1)]) (λz w'=>z.1<=os.length/\O1 [] w3 w'/\Qv 3 w3.heap.size w' z.2 ((os.take z.1).map (·.2.1))) (λz=>os.length - z.1) ol (0,nS) ⟨U,by rw[H];rfl,Z⟩ ⟨Lo _,O1.Z _ _,QJ _ _ _ _⟩ ?_;rintro⟨k,v⟩ g w4 ⟨hk,J,I⟩;simp only[]at hk I;have h4:=J.size;refine Qc<|Q0 U U<|xe<|Qd<|QH U (λT=>?_) (λT=>?_)
 ·refine Qz<|Qm<|x Ql<|Qb ?_;rw[Lr (by rw[H]at T;omega)]at I;refine Qk ⟨[v,_],oz,hh.D J,v,U,λe=>OS U e,λ_=>?_⟩;unfold enb;rw[H];exact Zy I hj
 have E:k<os.length:=by rw[H]at T;omega
 refine Qh<|Qd<|Qg<|Qc<|xie (hE.I J) U U E λh5 hm=>x (Qx hm U U)<|Qe<|Qo (us:=[oE oF 0,oE oF 0,oE oF 0]) U λb9 w5 hn hp hq=>Qe<|Qj (us:=QC (os[k]'E)) hq U U U U oA λw6 hr hs =>
  xe ?_
 have V:O1 [] w4 w6:=hn.O hr hp;have ht:=Qq I V;refine Qw<|Qa<|Qs U hs U U<|Qe<|QB (us:=[[oE oF (os[k]'E).2.1]]) U U og oe ⟨rfl,rfl,Z⟩ λh6 w7 Y h7 hu=>?_;have hv:=Qq ht Y;have h8:=(V.D Y).size;have h9:((os.take k).map (·.2.1)).length<=131072:=by simp;omega
 refine Qe<|Zb (news:=[oE oF (os[k]'E).2.1]) (L:=[]) hv U U U (hu.at oe) (by simp[Value.oneCell']) oa oa λv8 w8 hw hy hA=>Qb ?_;have hge:=Qi I;refine Qw<|QS U U<|Qa<|xe<|⟨(k+1,v8),oh,oz,E,((J.D V).D Y).then hy (λb hb=>.inr (hge b hb).1),?_⟩;simp only[];rw[Qh6 E];exact Qv.snoc hw
theorem Qb1 {v:OY}(h:QP L w.heap v l)(n:Int):
  Q3 prog 196 [v,oE oF n] w λr w'=>r=oE oF (J9 n none l)/\w'=w:=by
 have hc:=h.le;refine Zq func196 ?_;refine Qc<|Qb<|Qd<|Qm<|QI h U<|Qa<|xe<|Qg<|QD (α:=Nat) [(4,6),(9,32)] (λk=>[(9,oE oF k)]) (λk w'=>w'=w/\k<=l.length/\J9 n (pv l k) (l.drop k)=J9 n none l) (λk=>l.length - k) ol 0 La ⟨U,Lo _,U⟩ ?_;rintro k g S ⟨rfl,hk,E⟩;refine Qc<|Q0 U U<|xe<|Qd<|QH U (λT=>?_) (λT=>?_)
 ·refine Qz<|Qc<|Qb<|Qk ⟨[oE oF 0],La,?_,U⟩;rw[<-E,Lp oa];rfl
 have G:k<l.length:=oa
 have hd:=Zd G;rw[hd,J9]at E;refine Qh<|Qd<|Qg<|Qm<|xii h U U G λhe V=>x (QA V U)<|x Ql<|Qb<|Qd<|Za (α:=Bool) [(14,20)] (λz=>[(20,.bool z)]) (λz w'=>w'=S/\z=decide (l[k]<0\/n<=l[k])) ol ?_ ?_
 ·refine Qw<|Qa<|xb (YP U U) (λH=>?_) (λH=>?_)
  ·refine Qa<|Qp<|Qp<|Qp<|QG U<|xe ?_;exact⟨true,La,U,by simp[H]⟩
  refine Qa<|Qa<|Qa<|x (Yw U U)<|QG U<|xe ?_;exact⟨_,La,U,by simp[H]⟩
 rintro z g Y ⟨rfl,rfl⟩;refine QX rfl (λI=>?_) (λI=>?_)
 ·refine Qc<|Qb<|Qk ⟨[oE oF 2],La,?_,U⟩;rw[<-E,OQ I];rfl
 rw[OP I]at E;refine Qh<|Za (α:=Bool) [(21,31)] (λz=>[(31,.bool z)]) (λz w'=>w'=Y/\z=leO (pv l k) l[k]) ol ?_ ?_
 ·refine Qw<|Qa<|xb (Yg U U) (λha=>?_) (λha=>?_)
  ·have hk1:((k:Int) - 1)=((k - 1:Nat):Int):=oa
   refine Qa<|Qa<|Qa<|Qa<|x (Jo U U ⟨oa,oa⟩)<|xii (i:=k - 1) h U (by show Value.int _ ((k:Int) - 1)=_;rw[hk1]) oa λhf hb=>x (QA hb rfl)<|x (KN rfl rfl)<|QG rfl<|xe<|⟨_,La,U,?_⟩;have:pv l k=some l[k - 1]:=by
    have J:k≠0:=oa
    simp[pv,J,show k - 1<l.length by omega]
   rw[this];rfl
  refine Qa<|Qp<|Qp<|Qp<|Qp<|Qp<|Qp<|Qp<|QG U<|xe ?_;have J:k=0:=oa
  exact⟨false,La,U,by simp[pv,J,leO]⟩
 rintro z g w3 ⟨rfl,rfl⟩;refine QQ rfl (λO=>?_) (λO=>?_)
 ·refine Qc<|Qb<|Qk ⟨[oE oF 5],La,?_,U⟩;rw[<-E,OQ O];rfl
 rw[OP (by simp[O])]at E;refine Qh<|Qw<|QS U U<|Qa<|xe ?_;exact⟨k+1,oa,La,U,oa,by rw[K7 G];exact E⟩
open Go.RowKit
def upY (P:O0)(m:Nat)(dst:xz)(f:Fr)(K:xr):Result Next->Prop
 | .ok (.value v) w'=>K (QT f dst v) w'
 | .ok .skip w'=>K (QT f dst undef) w'
 | .ok (.enter g args) w'=>Calls P g args w' λe E=>match e with| .returned v=>K (QT f dst v) E|_=>False
 | .ok (.round l fn tmps assign body) w'=>RoundIn (fen none) (m - 1) P l fn tmps assign body w' λe E=>match e with| .returned v=>K (QT f dst v) E|_=>False
 | _=>False
def XOY (P:O0)(m:Nat)(o:Oper)(f:Fr)(w:OX)(K:xr):Prop:=upY P m o.dst f K ((execOp (ev f) o).run P w)
def JG (P:O0)(m:Nat)(ops:xx)(K:xr):xx->Fr->OX->Prop
 | [],f,w=>K f w
 | o::l,f,w=>bif Ya ops f o then XOY P m o f w (JG P m ops K l)else JG P m ops K l (QT f o.dst undef) w
section
variable {m:Nat}
theorem XOY.of_XO {K':xr}(hK:∀f w,K f w->K' f w)(h:XO P o f w K):XOY P m o f w K':=by
 unfold XO at h;unfold XOY;generalize (execOp (ev f) o).run P w=r at h;cases r with
 | ok nx w' =>
  cases nx <;> simp only[upF]at h <;> simp only[upY]
  case value v=>exact hK _ _ h
  case skip=>exact hK _ _ h
  case enter g args =>
   refine Calls.mono h λe G E=>?_;cases e with
   | returned v=>exact hK _ _ E
   | panicked c=>exact E.elim
   | outgrown=>exact E.elim
 | halt x w'=>exact h.elim
theorem JG.pre {ops:xx}{K:xr}{l2:xx}:∀(E:xx) (f:Fr) (w:OX),XL P ops (λf w=>JG P m ops K l2 f w) E f w->JG P m ops K (E++l2) f w
 | [],f,w,h=>by unfold XL at h;exact h
 | o::E,f,w,h=>by
  unfold XL at h;show(bif Ya ops f o then XOY P m o f w (JG P m ops K (E++l2))else JG P m ops K (E++l2) (QT f o.dst undef) w);cases G:Ya ops f o with
  | false=>rw[G]at h;exact JG.pre E _ _ h
  | true=>rw[G]at h;exact XOY.of_XO (λf w h=>JG.pre E f w h) h
theorem JG.pre2 {o1 o2:Oper}{l2:xx}(h:XL P ops (λf w=>JG P m ops K l2 f w) [o1,o2] f w):JG P m ops K (o1::o2::l2) f w:=JG.pre [o1,o2] f w h
theorem JG.of_XL {l:xx}(h:XL P ops K l f w):JG P m ops K l f w:=by
 have:=JG.pre (m:=m) (l2:=[]) l f w h
 rwa [LK]at this
theorem Qi3 {a:Act}{K':Act->OX->Prop}{Q:Exit->Act->OX->Prop}(h:Y5 n ds a f)
  (hK:∀v w',K (QT f o.dst v) w'->K' (a.put o.dst v) w') (hx:XOY P m o f w K):o.wpIn (fen none) m P a w K' Q:=by
 unfold XOY at hx;refine⟨λ_ _=>trivial,?_⟩;have e:Oper.semAt (fen none).round a.eval o=execOp (ev f) o:=by rw[h.eval];rfl
 rw[e];generalize (execOp (ev f) o).run P w=r at hx;cases r with
 | ok nx w' =>
  cases nx <;> simp only[upY]at hx <;> simp only[Oper.uponIn]
  case value v=>exact hK v w' hx
  case skip=>exact hK _ w' hx
  case enter g args =>
   refine⟨λh=>by simp[Fence.wide]at h,?_⟩;refine(callsIn_wide (n:=m - 1)).2 (Calls.mono hx λe G E=>?_);cases e with
   | returned v=>exact hK v G E
   | panicked c=>exact E.elim
   | outgrown=>exact E.elim
  case round l fn tmps assign body =>
   refine⟨λh=>by simp[Fence.wide]at h,?_⟩;refine RoundIn.mono hx λe G E=>?_;cases e with
   | returned v=>exact hK v G E
   | panicked c=>exact E.elim
   | outgrown=>exact E.elim
 | halt x w'=>exact hx.elim
theorem QbU {Q:Exit->LN->Fr->OX->Prop}{all:xx}(G:∀o∈all,∀d,o.dst=some d->d<n)(H:Fr):
  ∀(l:xx) (k:Nat) (a:Act) (f:Fr) (w:OX),(∀j,l[j]?=all[k+j]?)->Y5 n ds a f->(∀t,Yd all t=false->f t=H t) ->
   JG P m all (λf w=>Q .normal ds f w) l f w ->
   wpOpsIn (fen none) m P all.toArray (λe V w'=>∃ds' f',Y5 n ds' V f'/\(∀t,Yd all t=false->f' t=H t)/\Q e ds' f' w') (oQ k l.length) a w
 | [],_,a,f,w,_,E,I,h=>⟨ds,f,E,I,by unfold JG at h;exact h⟩
 | o::l,k,a,f,w,hl,E,I,h=>by
  have O:all[k]?=some o:=by simpa using(hl 0).symm
  have J:o∈all:=Ms O;have ih:=λa f w=>QbU (Q:=Q) G H l (k+1) a f w (λj=>by have:=hl (j+1);simpa[OG,Nat.add_comm 1 j]using this);have next:∀v,(∀t,Yd all t=false->QT f o.dst v t=H t):=λv t S=>(Y1 (Jn J S) v).D (I t S);simp only[oU,Ov,wpOpsIn,oY,O];rw[Vx E G o];unfold JG at h;cases T:Ya all f o with
  | false =>
   rw[T]at h;exact⟨λ_ _=>trivial,ih _ _ _ (E.put (G o J) _) (next _) h⟩
  | true =>
   rw[T]at h;exact Qi3 E (λv w' hx=>ih _ _ _ (E.put (G o J) v) (next v) hx) h
theorem Vj {Q:Exit->LN->Fr->OX->Prop}{l:xx}(E:XI n l=true)(h:JG P m l (λf w=>Q .normal ds f w) l f w):WG none m P n (.region id l.toArray false) Q ds f w:=by
 unfold WG;intro a G;refine wpIn_region ?_;have:=QbU (m:=m) (Xh E) f l 0 a f w oe G (λ_ _=>rfl) h;simpa[List.range_eq_range',X3]using this
theorem xy {rest:xx}{pS:String}{x:OZ}{l:Nat}{R:Ending->OX->Prop}
  (hx:ev f x=.func (.yield l) #[] #[]) (E:YieldAt (fen none) (m - 1) P l #[ev f y] w R) (hK:∀e w',R e w'->∃v,e=.returned v/\JG P m ops K rest (QT f d v) w')
  (G:Ya ops f ⟨d,.call ⟨.value x,#[y],at_⟩,ty,pS,af,gd⟩=true:=by rfl):
  JG P m ops K (⟨d,.call ⟨.value x,#[y],at_⟩,ty,pS,af,gd⟩::rest) f w:=by
 obtain⟨fn,tmps,assign,body,H,I⟩:=E;have J:(execOp (ev f) ⟨d,.call ⟨.value x,#[y],at_⟩,ty,pS,af,gd⟩).run P w=.ok (.round l fn tmps assign body) w:=by
  simp[execOp,resolve,hx,Deferred.ofValue,invoke,H]
 unfold JG;rw[G];simp only[XOY,J,upY,cond_true];exact I.mono λe w' h=>by obtain⟨v,rfl,O⟩:=hK e w' h;exact O
end
attribute [irreducible] JG
structure Lw (B:Nat)(L:LN)(w w':OX):Prop where
 os:w'.os=w.os
 tape:w'.tape=w.tape
 output:w'.output=w.output
 size:w.heap.size<=w'.heap.size
 low:∀k,k<B->k∉L->w'.heap[k]?=w.heap[k]?
theorem Lw.refl (B:Nat)(L:LN)(w:OX):Lw B L w w:=⟨U,U,U,Lv _,λ_ _ _=>U⟩
theorem Lw.D {B:Nat}{L:LN}{E w w':OX}(h:Lw B L E w)(k:Lw B L w w'):Lw B L E w' :=
 ⟨k.os.D h.os,k.tape.D h.tape,k.output.D h.output,LH h.size k.size,λi hi G=>(k.low i hi G).D (h.low i hi G)⟩
theorem O1.lw {E:OX}(h:O1 L w w')(k:Lw w.heap.size L w' E):O1 L w E :=
 ⟨k.os.D h.os,k.tape.D h.tape,k.output.D h.output,LH h.size k.size,λi hi G=>(k.low i hi G).D (h.block i hi G)⟩
structure Ks (B:Nat)(L:LN)(W W':OX):Prop where
 lw:Lw B L W W'
 other:∀(k:Nat) (o:Obj),W.heap[k]?=some o->o.isCells=false->W'.heap[k]?=some o
theorem Ks.refl (B:Nat)(L:LN)(w:OX):Ks B L w w:=⟨Lw.refl _ _ _,λ_ _ h _=>h⟩
theorem Ks.D {B:Nat}{L:LN}{E w w':OX}(h:Ks B L E w)(k:Ks B L w w'):Ks B L E w':=⟨h.lw.D k.lw,λi o hi G=>k.other i o (h.other i o hi G) G⟩
theorem Ks.J {W:OX}(h:O1 X W W')(S:B<=W.heap.size)(H:∀b∈X,(b∈L\/B<=b)/\∃o:Obj,W.heap[b]?=some o/\o.isCells=true):Ks B L W W':=by
 refine⟨⟨h.os,h.tape,h.output,h.size,λk G J=>h.block k oa (λhx=>?_)⟩,λk o G O=>?_⟩
 ·rcases(H k hx).1 with E|E
  ·exact J E
  omega
 refine(h.block k (LO.1 G).1 (λhx=>?_)).D G;obtain⟨T,E,I⟩:=(H k hx).2;rw[G]at E;cases E;rw[O]at I;cases I
theorem Ks.I {W:OX}(h:O1 [] W W')(E:B<=W.heap.size):Ks B L W W':=Ks.J h E (λ_ G=>by cases G)
theorem Q9.cells (h:Q9 H b T cs):∃o:Obj,H[b]?=some o/\o.isCells=true:=⟨_,h,U⟩
theorem Ks.blk {W:OX}(h:O1 [b] W W')(E:B<=W.heap.size)(G:Q9 W.heap b T cs)(H:b∈L\/B<=b):Ks B L W W' :=
 Ks.J h E (λc I=>by
  have e:c=b:=by simpa using I
  subst e;exact⟨H,G.cells⟩)
def Yt (B:Nat)(I:xt):Prop:=∀W W' X,I W->O1 X W W'->(∀r∈X,B<=r/\∃o:Obj,W.heap[r]?=some o/\o.isCells=false)->I W'
theorem Yt.own {I:β->OX->Prop}(h:∀s,Yt B (I s)):OwnFrom B I:=λs W W' row G H J =>
 h s W W' _ G (O1.of_grown H) (λr E=>J r (by cases row <;> simp at E ⊢;exact E.symm))
theorem Yt.blk :Yt B (λW=>Q9 W.heap b T cs):=λW W' X h G H=>h.J G (λI=>by
 obtain⟨_,o,E,J⟩:=H b I;unfold Q9 at h;rw[h]at E;cases E;cases J)
theorem Yt.and {I J:xt}(h:Yt B I)(k:Yt B J):Yt B (λW=>I W/\J W):=λW W' X hi E G=>⟨h W W' X hi.1 E G,k W W' X hi.2 E G⟩
theorem Yt.ex {I:β->OX->Prop}(h:∀z,Yt B (I z)):Yt B (λW=>∃z,I z W):=λW W' X ⟨z,hi⟩ E G=>⟨z,h z W W' X hi E G⟩
theorem Yt.pure (p:Prop):Yt B (λ_=>p):=λ_ _ _ h _ _=>h
theorem Yt.J (I:w.heap.size<=B):Yt B (λW=>O1 L w W):=λW W' X h E G=>h.then E (λb H=>.inr (ot (G b H).1))
theorem QU {base e:Nat}{v:OY}(h:w.ownsRow base e sz v n cs):∀b∈ob v,∃o:Obj,w.heap[b]?=some o/\o.isCells=true:=by
 intro b E;rcases h.2 with⟨G,_⟩|⟨g,cap,cur,G,I,H,_⟩
 ·subst G;simp[ob]at E
 subst G;simp[ob]at E;subst E;exact⟨_,H,U⟩
theorem Yt.row {base e:Nat}{v:OY}:Yt B (λW=>W.ownsRow base e sz v n cs):=λW W' X h H I=>Qf h H (λb J hx=>by
 obtain⟨_,o,O,S⟩:=I b hx;obtain⟨T,E,G⟩:=QU h b J;rw[O]at E;cases E;rw[S]at G;cases G)
theorem QlL {m:Nat}{Q:Exit->LN->Fr->OX->Prop}{g:OZ}{p:Nat}{assign body:Code}(L:LN)(V:1<=m)
    [hF:Fu P gf fn]  (hg:ev f g=.func (.func gf) #[] capt.toArray) {enc:α->OY} {S:List α->Prop}  (hp:p<n)
  (he:SeqStopsK (fen none) (m - 1) P gf capt.toArray (λx=>#[enc x]) (Lw w.heap.size L) S (λ_=>True) N w)
  (I:List α->OX->Prop) (hI:∀s,Yt w.heap.size (I s)) (h0:I [] w) (A:Fr->α->Fr->OX->Prop) (hA:∀x E,Yt w.heap.size (A f x E))
  (hb:∀l pre x W,I pre W->WG (some l) (m - 1 - 1) P n assign (Qb6 (λY E W'=>Y=[]/\Ks w.heap.size L W W'/\I pre W'/\A f x E W') (λ_ _ _ _=>False)) [] (upd f p (enc x)) W)
  (hc:∀l pre x E W,I pre W->A f x E W->pre.length<N->WG (some l) (m - 1 - 1) P n body (Qb6 (λ_ _ W'=>Ks w.heap.size L W W'/\I (pre++[x]) W') (λ_ _ _ _=>False)) [] E W)
  (hf:∀D xs W,w.heap.size<=D->S xs->I xs W->W.heap[D]?=some (.deferred (some []))->Q .normal (D::ds) f W):
  WG none m P n (.rangeFunc g #[p] assign body) Q ds f w:=by
 unfold WG at hb hc ⊢;intro a O;have eg:∀args w,(callFunc gf args).run P w=.ok (.enter gf args) w:=by
  intro args w;have V:¬fn.name = "runtime.NumGoroutine" := by simpa using hF.nm
  have J:¬fn.body=none:=by have:=hF.b;intro e;rw[e]at this;cases this
  simp[callFunc,hF.f,V,J]
 have keep:∀{W W':OX},Ks w.heap.size L W W'->KeepsFrom w.heap.size W W':=λh=>⟨h.lw.size,λk o _ hk ho=>h.other k o hk ho⟩;refine wpIn_rangeFunc_ownH (F:=fen none) U V (gf:=gf) (lb:=capt.toArray) (by rw[O.eval];exact hg) Z eg he (λh k=>h.D k)
  (λW l o o' hl ho _ _=>⟨U,U,U,oe,λk hk _=>World.putObj_heap_other oa⟩) (Below.refl _ _) (λ_=>rfl) I (λ_ _ _=>False) (Yt.own hI) (λ_ _ _ _ _ hs _ _=>hs) h0
  (λx T W=>∃E,Y5 n [] T E/\A f x E W) (λx T=>Yt.own λ_=>Yt.ex λE=>Yt.and (Yt.pure _) (hA x E)) ?_ ?_ ?_ ?_
 ·intro l pre x W K hi hK;have hr:Y5 n [] { tmps:=((#[p]:Array Nat).zip #[enc x]).foldl (λt (p,v)=>t.setIfInBounds p v) a.tmps,defers:=[] } (upd f p (enc x)):=by
   have J:Y5 n [] { a with defers:=[] } f:=⟨O.size,U,O.get⟩
   have G:=J.put (dst:=some p) (λd e=>by cases e;exact hp) (enc x);have e:((#[p]:Array Nat).zip #[enc x]).foldl (λt (p,v)=>t.setIfInBounds p v) a.tmps=a.tmps.setIfInBounds p (enc x):=oe
   rw[e];exact G
  refine wpIn_mono (hb l pre x W hi _ hr) ?_;rintro e T W' ⟨Y,E,J,_,G⟩;cases e with
  | normal=>obtain⟨rfl,h4,H,h6⟩:=G;exact hK T W' (keep h4) h4.lw H ⟨E,J,h6⟩
  | exit id=>exact G.elim
  | goto l=>exact G.elim
  | ret=>exact G.elim
  | panic ch=>exact G.elim
  | outgrown=>exact G.elim
 ·rintro l pre x T W _ _ hi ⟨E,J,G⟩ hh;refine wpIn_mono (hc l pre x E W hi G hh T J) ?_;rintro e hj W' ⟨Y,hm,h4,_,H⟩;cases e with
  | normal=>exact⟨keep H.1,H.1.lw,H.2⟩
  | exit id=>exact H.elim
  | goto l=>exact H.elim
  | ret=>exact H.elim
  | panic ch=>exact H.elim
  | outgrown=>exact H.elim
 ·intro D xs W hD hS hi hd;exact⟨D::ds,f,⟨O.size,by rw[show coll (D::ds)={ target:=.collected D,args:=#[] }::coll ds from rfl,O.defers],O.get⟩,λ_ _=>rfl,hf D xs W hD hS hi hd⟩
 intro D c pre W _ _ h _;exact h.elim
def QnC (P:O0)(t:Nat):Option (LV×xp):=match P.info? t,P.underlying t with
 | some it,some (.struct fs)=>match it.zero,fs.toList.mapM (λf=>(P.info? f.type).map λi=>(f.offset,i.size))with
  | some (.agg zs),some pl=>some (zs.toList,pl)
  | _,_=>none
 | _,_=>none
class Bw (P:O0)(t:Nat)(zs:outParam (LV))(pl:outParam xp):Prop where
 h:QnC P t=some (zs,pl)
 b:pl.all (λx=>x.1+x.2<=zs.length)=true
def QaQ:LV->Nat->LV->LV
 | zs,_,[]=>zs
 | zs,o,u::us=>QaQ (zs.set o u) (o+1) us
def QiX (pl:xp)(zs:LV):List (Nat×LV)->LV
 | []=>zs
 | (j,us)::ps=>QiX pl (QaQ zs (pl.getD j (0,0)).1 us) ps
def QlR:List (Nat×OY)->List (Nat×LV)->Prop
 | [],[]=>True
 | (j,v)::vs,(j',us)::uss=>v.cells=us.toArray/\j=j'/\QlR vs uss
 | _,_=>False
theorem QaP:∀(us zs:LV) (o:Nat),(QaQ zs o us).length=zs.length
 | [],_,_=>rfl
 | u::us,zs,o=>by rw[QaQ,QaP us,Me]
theorem yP (o:Nat):∀(us:LV) (k:Nat) (zs:LV),(us.zipIdx k).foldl (λ(cs:Array OY) (x:OY×Nat)=>cs.setIfInBounds (o+x.2) x.1) zs.toArray=(QaQ zs (o+k) us).toArray
 | [],_,_=>rfl
 | u::us,k,zs=>by
  rw[Nt,L3,QaQ];have:=yP o us (k+1) (zs.set (o+k) u);rw[<-List.setIfInBounds_toArray]at this;exact this
theorem QhO {pl:xp}:∀(vs:List (Nat×OY)) (uss:List (Nat×LV)) (zs:LV),QlR vs uss->uss.all (λp=>p.1<pl.length && (p.2.length == (pl.getD p.1 (0,0)).2))=true ->
  (∀x∈pl,x.1+x.2<=zs.length)->Instr.fill (pl.toArray[·]?) zs.toArray vs=some (QiX pl zs uss).toArray
 | [],[],zs,_,_,_=>rfl
 | [],_::_,_,h,_,_=>h.elim
 | _::_,[],_,h,_,_=>h.elim
 | (j,v)::vs,(j',us)::uss,zs,H,G,I=>by
  obtain⟨O,rfl,H⟩:=H;simp only[oR,oJ,decide_eq_true_eq,beq_iff_eq]at G;obtain⟨⟨E,hl⟩,G⟩:=G;have J:pl.getD j (0,0)=pl[j]'E:=by simp[oP,E]
  have T:=I _ (Lk E);unfold Instr.fill;simp only[oY,List.getElem?_eq_getElem E,O];rw[J]at hl;rw[OP (by simp only[o9,hl,ne_eq,not_true,decide_false,Bool.false_or,decide_eq_true_eq];omega)];have e:=yP (pl[j]'E).1 us 0 zs;rw[Nl]at e;have e2:(us.toArray.zipIdx).foldl (λ(cs:Array OY) (x:OY×Nat)=>cs.setIfInBounds ((pl[j]'E).1+x.2) x.1) zs.toArray=(QaQ zs (pl[j]'E).1 us).toArray:=by
   rw[<-e];simp
  rw[e2,QiX,J];have S:=QhO vs uss (QaQ zs (pl[j]'E).1 us) H G (λx hx=>by rw[QaP];exact I x hx);simpa only[oY]using S
theorem QcU {zs:LV}{pl:xp}(h:QnC P t=some (zs,pl))(I:pl.all (λx=>x.1+x.2<=zs.length)=true)(vs:List (Nat×OY))(uss:List (Nat×LV))(J:QlR vs uss)
  (O:uss.all (λp=>p.1<pl.length && (p.2.length == (pl.getD p.1 (0,0)).2))=true):P.built t vs=some (QiX pl zs uss).toArray:=by
 have S:∀x∈pl,x.1+x.2<=zs.length:=λo T=>oy (Mg.1 I o T)
 unfold QnC at h;unfold Program.built;cases hi:P.info? t with
 | none=>simp[hi]at h
 | some it =>
  cases H:P.underlying t with
  | none=>simp[hi,H]at h
  | some dd =>
   simp only[hi,H]at h;cases dd <;> simp only[]at h <;> try (cases h)
   case struct fs =>
    cases E:it.zero with
    | none=>simp[E]at h
    | some z =>
     cases z <;> simp only[E]at h <;> try (cases h)
     rename_i za;cases G:fs.toList.mapM (λf=>(P.info? f.type).map λi=>(f.offset,i.size))with
     | none=>simp[G]at h
     | some pl' =>
      simp only[G,Option.some.injEq,Prod.mk.injEq]at h;obtain⟨rfl,rfl⟩:=h;simp only[E,G,Value.cells];exact QhO vs uss za.toList J O S
theorem Zc {pS:String}{zs:LV}{pl:xp}[h:Bw P t zs pl]{parts:List (Nat×OZ)}(uss:List (Nat×LV))
  (E:QlR (parts.map λx=>(x.1,ev f x.2)) uss) (G:uss.all (λp=>p.1<pl.length && (p.2.length == (pl.getD p.1 (0,0)).2))=true:=by rfl):
  (execOp (ev f) ⟨d,.build t parts.toArray,ty,pS,af,gd⟩).run P w=.ok (.value (.agg (QiX pl zs uss).toArray)) w:=by
 have H:=QcU h.h h.b _ uss E G;have I:=run_build (P:=P) w t (parts.toArray.map λ(i,x)=>(i,ev f x)) _ (oy H);simp only[execOp,Sem.run_bind,I,Result.andThen_ok,Sem.run_pure]
def cnE (p:Ed->Bool)(es:List Ed):Int:=((es.filter p).length:Int)
def gA (n:Nat)(f:Nat->Int):LI:=(oW n).map f
theorem Qnd (n:Nat)(f:Nat->Int):(gA n f).length=n:=by simp[gA]
theorem QhJ {f:Nat->Int}(h:i<(gA n f).length):(gA n f)[i]'h=f i:=by simp[gA]
theorem Qnc {f g:Nat->Int}{u:Int}(G:u=g i)(h:∀j,j<n->j≠i->g j=f j):(gA n f).set i u=gA n g:=by
 apply Mt
 ·simp[gA]
 intro k H E;rw[M1,QhJ E];by_cases e:i=k
 ·rw[OQ e,G,e]
 rw[OP e,QhJ];exact(h k (by simpa[gA]using E) (Ne.symm e)).symm
def fS (es:List Ed)(s:Nat):Int:=cnE (λe=>decide (e.1<(s:Int))) es
section
variable {pS:String}
theorem Qg5 [h1:X7 P t]{x:OZ}{g E:Nat->Int}{u:Int}(G:Q9 w.heap b T ((gA n g).map (.int .i64)))(hx:ev f x=.pointer (some ⟨b,0+i*1,none⟩))(H:ev f y=oE oF u)(hi:i<n)(I:(gA n g).set i u=gA n E)
  (hK:∀w',O1 [b] w w'->Q9 w'.heap b T ((gA n E).map (.int .i64))->K (QT f d undef) w'):XO P ⟨d,.store t x y,ty,pS,af,gd⟩ f w K :=
 J4 G hx H (by rw[Qnd];exact hi) λw' J O=>hK w' J (by rw[<-I];exact O)
end
open Go.RowKit
section
variable {pS:String}{l:xx}
end
def Vz {α:Type}(f:Nat->α)(i:Nat)(x:α):Nat->α:=λj=>if j=i then x else f j
theorem Yo (f:Nat->α)(i:Nat)(x:α):Vz f i x i=x:=by simp[Vz]
theorem YN (f:Nat->α)(x:α)(h:j≠i):Vz f i x j=f j:=by simp[Vz,h]
theorem Qgf (k:α->β)(n:Nat)(f:Nat->α)(i:Nat)(x:α):((oW n).map λj=>k (f j)).set i (k x)=(oW n).map λj=>k (Vz f i x j):=by
 apply Mt
 ·simp
 intro j E G;rw[M1];by_cases e:i=j
 ·subst e;simp[Yo]
 rw[OP e];simp[YN _ _ (Ne.symm e)]
structure Vv (base:Nat)(w:OX)(n:Nat)(f:Nat->OY)(g:Nat->LI):Prop where
 own:∀i,i<n->Qv 3 base w (f i) (g i)
 dj:∀i j,i<n->j<n->i≠j->Dj (f i) (f j)
theorem Vv.app {base:Nat}{f:Nat->OY}{g:Nat->LI}(h:Vv base w n f g)(hi:i<n)(O:Qv 3 base w' v' l)(S:O1 (ob (f i)) w w')
  (T:∀b∈ob v',b∈ob (f i)\/w.heap.size<=b):Vv base w' n (Vz f i v') (Vz g i l):=by
 refine⟨λj E=>?_,λj k E H G=>?_⟩
 ·by_cases e:j=i
  ·subst e;rw[Yo,Yo];exact O
  rw[YN _ _ e,YN _ _ e];exact Qf (h.own j E) S (h.dj j i E hi e)
 have key:∀j,j<n->j≠i->Dj v' (f j):=λj E e b V I=>by
  rcases T b V with J|J
  ·exact h.dj i j hi E (Ne.symm e) b J I
  have:=Zf (h.own j E) b I;omega
 by_cases e1:j=i
 ·subst e1;rw[Yo,YN _ _ (Ne.symm G)];exact key k H (Ne.symm G)
 rw[YN _ _ e1];by_cases e2:k=i
 ·subst e2;rw[Yo];exact(key j E e1).symm
 rw[YN _ _ e2];exact h.dj j k E H G
theorem Vv.J {base:Nat}{f:Nat->OY}{g:Nat->LI}(h:Vv base w n f g)(E:O1 X w w')(G:∀i,i<n->∀b∈ob (f i),b∉X):Vv base w' n f g :=
 ⟨λi hi=>Qf (h.own i hi) E (G i hi),h.dj⟩
theorem Vv.I {base:Nat}{f:Nat->OY}{g:Nat->LI}(h:Vv base w n f g)(E:O1 [] w w'):Vv base w' n f g:=h.J E (λ_ _ _ _=>oe)
def YZ (es:List Ed)(s:Nat):LI:=(es.filter λe=>decide (e.2.2=(s:Int))).map (·.1)
theorem QcB (es:List Ed)(e:Ed)(E:0<=e.2.2):∀s,Vz (YZ es) e.2.2.toNat (YZ es e.2.2.toNat++[e.1]) s=YZ (es++[e]) s:=by
 intro s;unfold YZ;rw[L6,Lt];by_cases h:s=e.2.2.toNat
 ·subst h;rw[Yo];have:e.2.2=(e.2.2.toNat:Int):=oa
  simp[<-this]
 rw[YN _ _ h];have:¬e.2.2=(s:Int):=oa
 simp[this]
theorem Qfb {s:Nat}{p:Int}(h:p∈YZ es s):∃e∈es,e.1=p/\e.2.2=(s:Int):=by
 unfold YZ at h;simp only[OE,List.mem_filter,decide_eq_true_eq]at h;obtain⟨e,⟨E,G⟩,H⟩:=h;exact⟨e,E,H,G⟩
theorem UP (es:List Ed)(s:Nat):(YZ es s).length<=es.length:=by
 unfold YZ;rw[Lh];exact MD _ _
def bwE (s:Int)(st:LI×LI)(p:Int):LI×LI:=if O2 st.1 p.toNat<0 then(st.1.set p.toNat (O2 st.1 s.toNat+1),st.2++[p])else st
def qw (n:Nat)(to:LI):LI:=(oW n).map λi:Nat=>if(i:Int)∈to then 0 else -1
structure Qjm (n:Nat)(o q:LI):Prop where
 len:o.length=n
 q:∀x∈q,0<=x/\x<(n:Int)
 le:∀x∈o,-1<=x/\x+(neg o:Int)<=n
theorem QmH (l:LI):neg l<=l.length:=MD _ _
theorem QnD {p:Int}{st:LI×LI}(h:Qjm n st.1 st.2)(V:0<=s/\s<(n:Int))(E:0<=O2 st.1 s.toNat)(J:0<=p/\p<(n:Int)):
  Qjm n (bwE s st p).1 (bwE s st p).2/\neg (bwE s st p).1+(bwE s st p).2.length=neg st.1+st.2.length/\0<=O2 (bwE s st p).1 s.toNat:=by
 unfold bwE;have hl:=h.len;have G:p.toNat<st.1.length:=oa
 have O:s.toNat<st.1.length:=oa
 by_cases H:O2 st.1 p.toNat<0
 ·rw[OQ H];have S:st.1[p.toNat]'G<0:=by rw[ZG G];exact H
  have Y:=h.le _ (K1 O);have ha:=V9 st.1 p.toNat (O2 st.1 s.toNat+1) G S oa;refine⟨⟨by simp[hl],λx hx=>?_,λx hx=>?_⟩,?_,?_⟩
  ·simp only[oS,oH]at hx;rcases hx with hx|rfl
   ·exact h.q x hx
   exact J
  ·simp only[]at hx ⊢;rcases MI hx with I|I
   ·have:=h.le x I;omega
   subst I;omega
  ·simp only[oL,oN];omega
  simp only[];have T:s.toNat≠p.toNat:=λe=>by rw[e]at E;omega
  have:O2 (st.1.set p.toNat (O2 st.1 s.toNat+1)) s.toNat=O2 st.1 s.toNat:=by
   unfold O2;simp[oP,List.getElem?_set_ne (Ne.symm T)]
  rw[this];exact E
 rw[OP H];exact⟨h,rfl,E⟩
theorem Ut (n:Nat)(to:LI):(qw n to).length=n:=by simp[qw]
theorem QnE {to:LI}(h:∀x∈to,0<=x/\x<(n:Int)):Qjm n (qw n to) to:=by
 refine⟨Ut n to,h,λx hx=>?_⟩;have E:=QmH (qw n to);rw[Ut]at E;unfold qw at hx;simp only[OE]at hx;obtain⟨i,_,rfl⟩:=hx;split <;> omega
theorem Qlz {to:LI}{x:Int}(h:0<=x/\x<(n:Int))(hx:x∈to):O2 (qw n to) x.toNat=0:=by
 have E:x.toNat<(qw n to).length:=by rw[Ut];omega
 rw[<-ZG E];have:((x.toNat:Nat):Int)=x:=oa
 simp[qw,this,hx]
def QnL (o q:LI):Prop:=∀x∈q,0<=O2 o x.toNat
theorem QiR {p:Int}{st:LI×LI}(h:Qjm n st.1 st.2)(I:0<=O2 st.1 s.toNat)(J:0<=p/\p<(n:Int))(E:QnL st.1 st.2):QnL (bwE s st p).1 (bwE s st p).2:=by
 unfold bwE;have H:p.toNat<st.1.length:=by have:=h.len;omega
 by_cases G:O2 st.1 p.toNat<0
 ·rw[OQ G];intro x hx;simp only[]at hx ⊢;have e1:O2 (st.1.set p.toNat (O2 st.1 s.toNat+1)) x.toNat=if x.toNat=p.toNat then O2 st.1 s.toNat+1 else O2 st.1 x.toNat:=by
   by_cases e:x.toNat=p.toNat
   ·rw[OQ e,e];unfold O2;simp[oP,H]
   rw[OP e];unfold O2;simp[oP,List.getElem?_set_ne (Ne.symm e)]
  rw[e1];split
  ·omega
  rename_i e;simp only[oS,oH]at hx;rcases hx with hx|rfl
  ·exact E x hx
  exact OS U e
 rw[OP G];exact E
theorem QgG (n:Nat):(oM n (nS).cells.toList).flatten=(oW n).map (λ_=>nS):=by
 apply Mt
 ·simp[Value.cells]
 intro i E G;simp[Value.cells]
theorem Qfa (n:Nat):(oM n (oE oF 0).cells.toList).flatten=(gA n (λj=>if j<0 then -1 else 0)).map (Value.int .i64):=by
 apply Mt
 ·simp[Value.cells,gA]
 intro i E G;simp[Value.cells,gA]
theorem QaT {rv:Nat->OY}(hi:i<n):((oW n).map rv)[0+i*1]?=some (rv i):=by simp[hi]
abbrev Lf:=List Bool
def lft (l:Lf)(s:Int):Bool:=l.getD s.toNat false
def cut (l:Lf)(s:Int):Lf:=l.set s.toNat false
def KQ (ul:LI)(lf:Lf)(out:xq)(e:Ed):xq:=
 if lft lf e.1=false\/lft lf e.2.2=true\/e.2.1∉ul then out else if out.getLast?.map (·.1)=some e.1 then out else out++[(e.1,e.2.1)]
def lost (a:Q2)(ul:LI)(lf:Lf):xq:=a.ed.foldl (KQ ul lf) []
def dsE (lf:Lf)(x:Int)(z:LI×LI)(y:Int):LI×LI:=if lft lf y=true/\O2 z.1 y.toNat<0 then(z.1.set y.toNat (O2 z.1 x.toNat+1),z.2++[y])else z
def dsL (es:List Ed)(lf:Lf):Nat->Nat->LI×LI->LI×LI
 | 0,_,z=>z
 | f+1,i,z=>if i<z.2.length then dsL es lf f (i+1) ((YZ es (O2 z.2 i).toNat).foldl (dsE lf (O2 z.2 i)) z)else z
def ds1 (lf:Lf)(z:LI×LI)(x:Int):LI×LI:=if lft lf x=true then(z.1.set x.toNat 0,z.2++[x])else z
def ds0 (a:Q2)(lf:Lf):LI×LI:=a.mr.foldl (ds1 lf) (oM a.st.toNat (-1),[])
def dsts (a:Q2)(lf:Lf):LI:=(dsL a.ed lf a.st.toNat 0 (ds0 a lf)).1
def Vo (lf:Lf):Nat->LI->LI
 | _,[]=>[]
 | i,d::l=>if lf.getD i false=true/\d<0 then(i:Int)::Vo lf (i+1) l else Vo lf (i+1) l
def nxs (a:Q2)(ul:LI)(lf:Lf):LI:=if(lost a ul lf).length≠0 then(lost a ul lf).map (·.1)else Vo lf 0 (dsts a lf)
def zf (a:Q2)(ul:LI):Nat->Lf->Lf
 | 0,lf=>lf
 | f+1,lf=>if(nxs a ul lf).length=0 then lf else zf a ul f ((nxs a ul lf).foldl cut lf)
def lf0 (n:Nat)(fb:LI):Lf:=fb.foldl cut (oM n true)
def jU (a:Q2)(fb ul:LI):Lf:=zf a ul (a.st.toNat+1) (lf0 a.st.toNat fb)
def rstr (a:Q2)(lf:Lf):Q2:=⟨a.al,a.st,a.mr,a.ed.filter λe=>lft lf e.2.2⟩
def Qgs (a:Q2)(lf:Lf):Q2:=if a.st=0\/lft lf 0=false then⟨a.al,0,[],[]⟩else Yc (rstr a lf)
def jL (a:Q2)(fb ul:LI):Q2:=Qgs a (jU a fb ul)
def fbs (s:Spc):LI:=s.fb.map (·.st)
def suA (c:Zx):Q2:=jL (spc c).a (fbs (spc c)) (unc c.ev)
def orB (b:Nat)(k:Nat):Nat:=b ||| (1 <<< k)
def rqB (x:YU):Nat->Nat->List YU->Nat
 | _,b,[]=>b
 | k,b,y::l=>rqB x (k+1) (if(y.a.al.any λe=>decide (e∈x.a.al))=true then orB b k else b) l
def prB (ls:xq):Nat:=ls.foldl (λb l=>orB b l.1.toNat) 0
def srR (c:Zx):LN:=c.rq.map λx=>rqB x 0 0 c.co
def srX (c:Zx):LN:=c.ex.map λx=>prB x.ls
def srC (c:Zx):LN:=c.cs.map λx=>prB x.ts
def srK (c:Zx)(k:Int):LN:=if k=1 then srR c else if k=2 then srX c else srC c
structure Ux where
 kd:Int
 ix:Int
 co:LI
def Vm (k:Int):Nat->LN->List Ux
 | _,[]=>[]
 | i,b::l=>⟨k,i,setK b 8⟩::Vm k (i+1) l
def O5 (c:Zx):List Ux:=Vm 1 0 (srR c)++(Vm 2 0 (srX c)++Vm 3 0 (srC c))
def sets (c:Zx):LN:=srR c++(srX c++srC c)
def Qpo (c:Zx):Nat:=(sets c).foldl (λl b=>l &&& (65535 ^^^ b)) (2 ^ c.co.length - 1)
def rem (c:Zx):LI:=setK (Qpo c) 8
def mdE (c:Zx)(m:Ux):Int:=if Zi c≠0 then Zi c else if m.kd<1\/3<m.kd then 11 else if m.ix<0\/((srK c m.kd).length:Int)<=m.ix then 10 else if m.co=setK ((srK c m.kd).getD m.ix.toNat 0) 8 then 0 else 13
structure Prt where
 co:LI
 rq:LI
 ex:LI
 cs:LI
def chs (l:List YU)(ix:LI):List YU:=ix.map λi=>l.getD i.toNat ⟨.empty,⟨[],0,[],[]⟩⟩
def ixP (co:LI)(ls:xq):xq:=ls.map λl=>((co.idxOf l.1:Int),l.2)
def mis (co:LI)(ls:xq):Bool:=ls.any λl=>decide (l.1∉co)
def QjX (c:Zx)(p:Prt):List UA:=p.ex.map λi=>⟨(c.ex.getD i.toNat ⟨.empty,[]⟩).nm,ixP p.co (c.ex.getD i.toNat ⟨.empty,[]⟩).ls⟩
def QjZ (c:Zx)(p:Prt):List xG:=p.cs.map λi=>⟨(c.cs.getD i.toNat ⟨.empty,[],0⟩).nm,ixP p.co (c.cs.getD i.toNat ⟨.empty,[],0⟩).ts,(c.cs.getD i.toNat ⟨.empty,[],0⟩).bd⟩
def QeH (c:Zx)(p:Prt):Zx:=⟨c.ev,chs c.co p.co,chs c.rq p.rq,QjX c p,QjZ c p⟩
def Qoc (c:Zx)(p:Prt):Bool:=(p.ex.any λi=>mis p.co (c.ex.getD i.toNat ⟨.empty,[]⟩).ls) || (p.cs.any λi=>mis p.co (c.cs.getD i.toNat ⟨.empty,[],0⟩).ts)
def jQ (c:Zx)(p:Prt):Int :=
 if Zi c≠0 then Zi c else if J9 c.co.length none p.co≠0 then J9 c.co.length none p.co else if J9 c.rq.length none p.rq≠0 then J9 c.rq.length none p.rq else
 if J9 c.ex.length none p.ex≠0 then J9 c.ex.length none p.ex else if J9 c.cs.length none p.cs≠0 then J9 c.cs.length none p.cs else if Qoc c p=true then 13 else Zi (QeH c p)
def prt (m:Ux):Prt:=⟨m.co,if m.kd=1 then[m.ix]else[],if m.kd=2 then[m.ix]else[],if m.kd≠1/\m.kd≠2 then[m.ix]else[]⟩
def y9 (c:Zx)(m:Ux):Int:=if mdE c m≠0 then mdE c m else jQ c (prt m)
def JC (c:Zx)(m:Ux):Zx:=QeH c (prt m)
def msA (c:Zx)(m:Ux):Q2:=suA (JC c m)
def Qpk (c:Zx):List Q2:=(O5 c).map (msA c)++(rem c).map λi=>(c.co.getD i.toNat ⟨.empty,⟨[],0,[],[]⟩⟩).a
def QaJ (l:List Q2):Int:=if Uz l≠0 then Uz l else match xd l with|none=>3|some _=>0
def tgA (c:Zx):Q2:=syA (Qpk c)
section
variable (k:α->Int)
def QcC (x:α):List α->List α
 | []=>[x]
 | y::l=>if k x<=k y then x::y::l else y::QcC x l
def isrt (l:List α):List α:=l.foldr (QcC k) []
theorem UQ (x:α):∀l,(QcC k x l).Perm (x::l)
 | []=>.refl _
 | y::l=>by
  rw[QcC];split
  ·exact .refl _
  exact((UQ x l).cons y).D (.swap _ _ _)
theorem UO:∀l,(isrt k l).Perm l
 | []=>.refl _
 | x::l=>(UQ k x _).D ((UO l).cons x)
theorem jd (x:α):∀{l:List α},l.Pairwise (λa b=>k a<=k b)->(QcC k x l).Pairwise (λa b=>k a<=k b)
 | [],_=>by rw[QcC];simp
 | y::l,h=>by
  rw[QcC];obtain⟨H,I⟩:=L7.1 h;split
  ·rename_i G;refine L7.2 ⟨λz E=>?_,h⟩;rcases Li.1 E with rfl|E
   ·exact G
   exact Int.le_trans G (H z E)
  rename_i G;refine L7.2 ⟨λz E=>?_,jd x I⟩;rcases Li.1 ((UQ k x l).mem_iff.1 E)with rfl|E
  ·omega
  exact H z E
theorem jb:∀l:List α,(isrt k l).Pairwise (λa b=>k a<=k b)
 | []=>.nil
 | x::l=>jd k x (jb l)
theorem Qdh:∀{l m:List α},l.Perm m->l.Pairwise (λa b=>k a<=k b)->m.Pairwise (λa b=>k a<=k b)->(l.map k).Nodup->l=m
 | [],m,E,_,_,_=>(List.Perm.nil_eq E)
 | x::l,[],E,_,_,_=>by have:=E.length_eq;simp at this
 | x::l,y::m,E,hl,H,I=>by
  obtain⟨J,l2⟩:=L7.1 hl;obtain⟨m1,O⟩:=L7.1 H;have S:(k x::l.map k).Nodup:=I;obtain⟨n1,T⟩:=M0.1 S;have e:x=y:=by
   have hx:x∈y::m:=E.mem_iff.1 Lq;have V:y∈x::l:=E.mem_iff.2 Lq;rcases Li.1 hx with h|h
   ·exact h
   rcases Li.1 V with G|G
   ·exact G.symm
   exact OS (LC.2 ⟨y,G,Int.le_antisymm (m1 x h) (J y G)⟩) n1
  subst e;rw[Qdh ((List.perm_cons x).1 E) l2 O T]
theorem QdP {l m:List α}(E:m.Perm l)(G:m.Pairwise (λa b=>k a<=k b))(H:(l.map k).Nodup):m=isrt k l :=
 Qdh k (E.D (UO k l).symm) G (jb k l) ((E.map _).nodup_iff.2 H)
end
structure ZQ where
 kd:Int
 nm:ByteArray
 a:Q2
 ls:List (ByteArray×Int)
 ts:List (ByteArray×Int)
 bd:Int
abbrev KB:Q2:=⟨[],0,[],[]⟩
abbrev Ur:Zx:=⟨[],[],[],[],[]⟩
def KX (k:Int)(n:ByteArray)(x:ZQ):Bool:=decide (x.kd=k) && decide (x.nm=n)
def Z4 (l:List ZQ)(k:Int)(n:ByteArray):Nat:=l.findIdx (KX k n)
def Jy (l:List ZQ)(k:Int)(n:ByteArray):Bool:=decide (Z4 l k n<l.length)
def jC (a:Q2):Bool:=decide (a.st=0) && decide ((a.al.length:Int)+(a.mr.length:Int)+(a.ed.length:Int)=0)
def zj (x:ZQ):Bool:=if x.kd=3 then jC x.a && decide ((x.ts.length:Int)=0) && decide (x.bd=0)else if x.kd=4 then jC x.a && decide ((x.ls.length:Int)=0)else decide ((x.ls.length:Int)+(x.ts.length:Int)=0) && decide (x.bd=0)
def dk1 (l:List ZQ)(i:Nat)(x:ZQ):Int :=
 if x.kd<1\/4<x.kd then 11 else if JE x.nm=false then 7 else if Jy (l.take i) x.kd x.nm=true then 8 else if 0<i/\x.kd<(l.getD (i - 1) ⟨0,.empty,KB,[],[],0⟩).kd then 5 else if zj x=false then 6 else 0
def dkL (l:List ZQ):Nat->List ZQ->Int
 | _,[]=>0
 | i,x::r=>if dk1 l i x≠0 then dk1 l i x else dkL l (i+1) r
def Jw (l:List ZQ):Int:=if 76<l.length then 3 else dkL l 0 l
def qp (co:List YU)(i:Int):Option ByteArray:=if i<0\/(co.length:Int)<=i then none else some (co.getD i.toNat ⟨.empty,KB⟩).nm
def Ku (co:List YU):xq->Option (List (ByteArray×Int))
 | []=>some []
 | y::l=>match qp co y.1 with
  | none=>none
  | some n=>(Ku co l).map ((n,y.2)::·)
def X6 (co:List YU):List UA->Option (List ZQ)
 | []=>some []
 | x::l=>match Ku co x.ls with
  | none=>none
  | some r=>(X6 co l).map (⟨3,x.nm,KB,r,[],0⟩::·)
def Je (co:List YU):List xG->Option (List ZQ)
 | []=>some []
 | x::l=>match Ku co x.ts with
  | none=>none
  | some r=>(Je co l).map (⟨4,x.nm,KB,[],r,x.bd⟩::·)
def Y2 (k:Int)(x:YU):ZQ:=⟨k,x.nm,x.a,[],[],0⟩
def Qd3 (c:Zx):Option (List ZQ):=match X6 c.co c.ex,Je c.co c.cs with
 | some a,some b=>some (c.co.map (Y2 1)++(c.rq.map (Y2 2)++(a++b)))
 | _,_=>none
def ZE (c:Zx):Int×List ZQ:=match Qd3 c with
 | none=>(2,[])
 | some l=>if Jw l≠0 then(Jw l,[])else(0,l)
def Yj (l:List ZQ):List (ByteArray×Int)->LI->List (Int×Int)->Int×xq
 | [],_,o=>(0,isrt (·.1) o)
 | y::r,tk,o=>if Jy l 1 y.1=false then(9,[])else if(Z4 l 1 y.1:Int)∈tk then(8,[])else Yj l r (tk++[(Z4 l 1 y.1:Int)]) (o++[((Z4 l 1 y.1:Int),y.2)])
def XG (all:List ZQ)(x:ZQ)(c:Zx):Int×Zx :=
 if x.kd=1 then(0,{ c with co:=c.co++[⟨x.nm,x.a⟩] })else if x.kd=2 then(0,{ c with rq:=c.rq++[⟨x.nm,x.a⟩] })else
 if x.kd=3 then(if(Yj all x.ls [] []).1≠0 then((Yj all x.ls [] []).1,Ur)else(0,{ c with ex:=c.ex++[⟨x.nm,(Yj all x.ls [] []).2⟩] }))else
 if x.kd=4 then(if(Yj all x.ts [] []).1≠0 then((Yj all x.ts [] []).1,Ur)else(0,{ c with cs:=c.cs++[⟨x.nm,(Yj all x.ts [] []).2,x.bd⟩] }))else(0,c)
def Kn (all:List ZQ):List ZQ->Zx->Int×Zx
 | [],c=>(0,c)
 | x::l,c=>if(XG all x c).1≠0 then((XG all x c).1,Ur)else Kn all l (XG all x c).2
def KA (ev:List J1)(l:List ZQ):Int×Zx:=if Jw l≠0 then(Jw l,Ur)else Kn l l ⟨ev,[],[],[],[]⟩
def VH (l:List ZQ)(x:ZQ):Int×List ZQ :=
 if Jw l≠0 then(Jw l,[])else if Jw [x]≠0 then(Jw [x],[])else if Jy l x.kd x.nm=true then(0,l.set (Z4 l x.kd x.nm) x)else if l.length=76 then(3,[])else
 (0,l.take (l.findIdx λy=>decide (x.kd<y.kd))++x::l.drop (l.findIdx λy=>decide (x.kd<y.kd)))
def qu (l:List ZQ)(k:Int)(n:ByteArray):Int×List ZQ :=
 if Jw l≠0 then(Jw l,[])else if Jy l k n=false then(10,[])else(0,l.take (Z4 l k n)++l.drop (Z4 l k n+1))
def zX (l:List ZQ)(e:Bool×ZQ):Int×List ZQ:=if e.1=true then qu l e.2.kd e.2.nm else VH l e.2
def zW:List (Bool×ZQ)->List ZQ->Int×List ZQ
 | [],l=>(0,l)
 | e::r,l=>if(zX l e).1≠0 then((zX l e).1,[])else zW r (zX l e).2
def zV (l:List ZQ)(es:List (Bool×ZQ)):Int×List ZQ:=if Jw l≠0 then(Jw l,[])else zW es l
def cnF (ord:LI)(j:Nat)(e:Ed):Ed:=((j:Int),e.2.1,(ord.idxOf e.2.2:Int))
def cnR (a:Q2)(ord:LI)(j:Nat):List Ed:=(Z2 a.ed (Z9 ord j)).map (cnF ord j)
theorem Qbj {r:LI}(h:j<l.length):Z9 (l++r) j=Z9 l j:=by unfold Z9;rw[MJ];exact yb h
structure NuI (st:Int)(ord num:LI):Prop where
 nd:ord.Nodup
 bd:∀s∈ord,0<=s/\s<st
 nl:num.length=st.toNat
 nu:∀k,0<=k->k<st->Z9 num k=if k∈ord then(ord.idxOf k:Int)else -1
theorem Qca {st:Int}{c:Cs}(h:NuI st c.ord c.num){e:Ed}(O:0<=e.2.2)(S:e.2.2<st):NuI st (Zu i c e).ord (Zu i c e).num/\(∃r,(Zu i c e).ord=c.ord++r)/\(Zu i c e).mk'=c.mk'/\(Zu i c e).ed=c.ed++[cnF (Zu i c e).ord i e]/\e.2.2∈(Zu i c e).ord:=by
 have G:=h.nu e.2.2 O S;have V:e.2.2.toNat<c.num.length:=by rw[h.nl];omega
 unfold Zu;by_cases H:e.2.2∈c.ord
 ·rw[OQ H]at G;rw[OP (by rw[G];omega)];refine⟨h,⟨[],oe⟩,rfl,?_,H⟩;simp only[cnF];rw[G]
 rw[OP H]at G;rw[OQ (by rw[G];decide)];have T:(c.ord++[e.2.2]).idxOf e.2.2=c.ord.length:=by rw[Mu,OP H];simp
 refine⟨⟨zq h.nd H,λs E=>?_,by simp[h.nl],λk Y k1=>?_⟩,⟨[e.2.2],rfl⟩,rfl,?_,oe⟩
 ·rcases Lc.1 E with E|E
  ·exact h.bd s E
  simp only[oH]at E;subst E;exact⟨O,S⟩
 ·simp only[];by_cases ek:k=e.2.2
  ·subst ek;rw[OQ oe,T];unfold Z9;simp[oP,List.getElem?_set_self V]
  have ha:e.2.2.toNat≠k.toNat:=oa
  have e1:Z9 (c.num.set e.2.2.toNat c.ord.length) k=Z9 c.num k:=by unfold Z9;simp[oP,List.getElem?_set_ne ha]
  rw[e1,h.nu k Y k1];by_cases I:k∈c.ord
  ·rw[OQ I,OQ (Mn _ I),Mu,OQ I]
  rw[OP I,OP (λhb=>by
   rcases Lc.1 hb with J|J
   ·exact I J
   simp only[oH]at J;exact ek J)]
 simp only[cnF];rw[T]
theorem qY {st:Int}{i:Nat}:∀(es:List Ed) (c:Cs),NuI st c.ord c.num->(∀e∈es,0<=e.2.2/\e.2.2<st)->NuI st (es.foldl (Zu i) c).ord (es.foldl (Zu i) c).num/\(∃r,(es.foldl (Zu i) c).ord=c.ord++r)/\(es.foldl (Zu i) c).mk'=c.mk' /\
  (es.foldl (Zu i) c).ed=c.ed++es.map (cnF (es.foldl (Zu i) c).ord i)/\∀e∈es,e.2.2∈(es.foldl (Zu i) c).ord
 | [],c,h,_=>⟨h,⟨[],oe⟩,rfl,oe,λe H=>by cases H⟩
 | e::es,c,h,E=>by
  obtain⟨I,b1⟩:=E e Lq;obtain⟨J,⟨O,S⟩,T,V,G⟩:=Qca (i:=i) h I b1;obtain⟨k1,⟨Y,k2⟩,k3,k4,k5⟩:=qY (i:=i) es (Zu i c e) J (λd hd=>E d (Lj _ hd));rw[L3];refine⟨k1,⟨O++Y,by rw[k2,S,LA]⟩,k3.D T,?_,λd hd=>?_⟩
  ·rw[k4,V,LA,LE];have:cnF (Zu i c e).ord i e=cnF (es.foldl (Zu i) (Zu i c e)).ord i e:=by
    unfold cnF;rw[k2,Mu,OQ G]
   rw[this];rfl
  rcases Li.1 hd with rfl|hd
  ·rw[k2];exact Mn _ G
  exact k5 d hd
structure CnG (a:Q2)(i:Nat)(c:Cs):Prop where
 nu:NuI a.st c.ord c.num
 le:i<=c.ord.length
 hd:Z9 c.ord 0=0/\0<c.ord.length
 mk2:c.mk'=((oQ 0 i).filter λj:Nat=>decide (Z9 c.ord j∈a.mr)).map λj:Nat=>(j:Int)
 ed:c.ed=(oQ 0 i).flatMap (cnR a c.ord)
 cl:∀j,j<i->∀e∈Z2 a.ed (Z9 c.ord j),e.2.2∈c.ord
theorem Qlq {ord r:LI}(E:j<ord.length)(G:∀e∈Z2 a.ed (Z9 ord j),e.2.2∈ord):cnR a (ord++r) j=cnR a ord j:=by
 unfold cnR;rw[Qbj E];refine MO λe H=>?_;unfold cnF;rw[Mu,OQ (G e H)]
theorem CnG.next (S:ZD a){c:Cs}(h:CnG a i c)(hi:i<c.ord.length):CnG a (i+1) (qm a i c):=by
 unfold qm;have I:(Yh a i c).ord=c.ord:=by unfold Yh;split <;> rfl
 have T:(Yh a i c).num=c.num:=by unfold Yh;split <;> rfl
 have V:(Yh a i c).ed=c.ed:=by unfold Yh;split <;> rfl
 obtain⟨k1,⟨r,k2⟩,k3,H,J⟩:=qY (st:=a.st) (i:=i) (Z2 a.ed (Z9 c.ord i)) (Yh a i c) (by rw[I,T];exact h.nu) (λe Y=>(S.ed e (ZU Y).1).2.2.2);generalize (Z2 a.ed (Z9 c.ord i)).foldl (Zu i) (Yh a i c)=d at k1 k2 k3 H J;rw[I]at k2;rw[V]at H;have pre:∀j:Nat,j<=i->Z9 d.ord j=Z9 c.ord j:=λj E=>by rw[k2];exact Qbj oa
 refine⟨k1,by rw[k2];simp;omega,⟨by have:=pre 0 oa;rw[show((0:Nat):Int)=0 from rfl]at this;rw[this];exact h.hd.1,by rw[k2];simp;omega⟩,?_,?_,λj E=>?_⟩
 ·rw[k3,Mr,L6,Lt,LQ];have e1:((oQ 0 i).filter λj:Nat=>decide (Z9 d.ord j∈a.mr))=(oQ 0 i).filter λj:Nat=>decide (Z9 c.ord j∈a.mr):=by
   refine List.filter_congr λj E=>?_;rw[MA]at E;rw[pre j oa]
  rw[e1];unfold Yh;by_cases G:Z9 c.ord i∈a.mr
  ·rw[OQ G];simp only[];rw[Mh,OQ (by rw[pre i (Lv _)];exact OT G),Nc,h.mk2];rfl
  rw[OP G];rw[Mh,OP (by rw[pre i (Lv _),OV G];simp),Nc,h.mk2];simp
 ·rw[H,Mr,LB,LQ,h.ed];congr 1
  ·refine Jv λj E=>?_;rw[MA]at E;rw[k2];exact(Qlq oa (h.cl j oa)).symm
  simp only[Oa,OF,Oq];unfold cnR;rw[pre i (Lv _)]
 by_cases e:j=i
 ·subst e;rw[pre j (Lv _)];exact J
 intro d' O;rw[pre j oa]at O;rw[k2];exact Mn _ (h.cl j oa d' O)
theorem jw {a:Q2}(G:ZD a):∀(f i:Nat) (c:Cs),CnG a i c->∃E,CnG a E (XR a f i c)/\((XR a f i c).ord.length=E\/E=i+f)
 | 0,i,c,h=>⟨i,h,.inr U⟩
 | f+1,i,c,h=>by
  rw[XR];split
  ·rename_i hi;obtain⟨E,H,I⟩:=jw G f (i+1) _ (h.next G hi);exact⟨E,H,oa⟩
  exact⟨i,h,.inl (ot h.le)⟩
structure CnP (a:Q2)(ord:LI):Prop where
 nd:ord.Nodup
 bd:∀s∈ord,0<=s/\s<a.st
 hd:Z9 ord 0=0/\0<ord.length
 al:(Yc a).al=a.al
 st:(Yc a).st=(ord.length:Int)
 mk2:(Yc a).mr=((oQ 0 ord.length).filter λj:Nat=>decide (Z9 ord j∈a.mr)).map λj:Nat=>(j:Int)
 ed:(Yc a).ed=(oQ 0 ord.length).flatMap (cnR a ord)
 cl:∀j,j<ord.length->∀e∈Z2 a.ed (Z9 ord j),e.2.2∈ord
theorem QfE (I:ZD a)(h0:0<a.st):∃ord,CnP a ord:=by
 have J:0<a.st.toNat:=oa
 have O:CnG a 0 (YK a):=by
  refine⟨⟨by simp[YK],λs H=>by simp[YK]at H;subst H;omega,by simp[YK],λk k0 k1=>?_⟩,Lo _,⟨by simp[YK,Z9],by simp[YK]⟩,by simp[YK],by simp[YK],λj hj=>oa⟩;by_cases ek:k=0
  ·subst ek;rw[OQ (by simp[YK])];unfold Z9 YK;simp[oP,J]
  rw[OP (by simpa[YK]using ek)];unfold YK;have S:0≠k.toNat:=oa
  have T:k.toNat<a.st.toNat:=oa
  unfold Z9;rw[List.getD_eq_getElem?_getD,Nq S];simp[T]
 obtain⟨V,E,h2⟩:=jw I a.st.toNat 0 (YK a) O;have ha:(XR a a.st.toNat 0 (YK a)).ord.length<=a.st.toNat:=xC _ _ E.nu.nd (λx hx=>ot (E.nu.bd x hx));have Y:V=(XR a a.st.toNat 0 (YK a)).ord.length:=by have:=E.le;omega
 subst Y;have G:Yc a=⟨a.al,((XR a a.st.toNat 0 (YK a)).ord.length:Int),(XR a a.st.toNat 0 (YK a)).mk',(XR a a.st.toNat 0 (YK a)).ed⟩:=by unfold Yc;rw[OP oa]
 refine⟨(XR a a.st.toNat 0 (YK a)).ord,E.nu.nd,E.nu.bd,E.hd,by rw[G],by rw[G],?_,?_,E.cl⟩
 ·rw[G];exact E.mk2
 rw[G];exact E.ed
section
variable {p s:Q2}{pn xn v:Int}
end
def UB (lo hi:Nat)(ds:LN)(W:OX):Prop:=ds.Nodup/\∀D∈ds,lo<=D/\D<hi/\W.heap[D]?=some (.deferred (some []))
theorem UB.J {W:OX}(h:UB lo hi ds W)(I:O1 X W W')(J:∀b∈X,∃o:Obj,W.heap[b]?=some o/\o.isCells=true):UB lo hi ds W':=by
 refine⟨h.1,λD E=>⟨(h.2 D E).1,(h.2 D E).2.1,?_⟩⟩;have G:=(h.2 D E).2.2;refine(I.block D (LO.1 G).1 (λhx=>?_)).D G;obtain⟨o,H,O⟩:=J D hx;rw[G]at H;cases H;cases O
theorem UB.I {W:OX}(h:UB lo hi ds W)(E:O1 [] W W'):UB lo hi ds W':=h.J E (λ_ G=>by cases G)
theorem UB.blk {W:OX}(h:UB lo hi ds W)(E:O1 [b] W W')(G:Q9 W.heap b T cs):UB lo hi ds W' :=
 h.J E (λc H=>by
  have e:c=b:=by simpa using H
  subst e;exact G.cells)
theorem UB.up {W:OX}(h:UB lo hi ds W)(H:hi<=G):UB lo G ds W:=⟨h.1,λD E=>⟨(h.2 D E).1,ot (h.2 D E).2.1,(h.2 D E).2.2⟩⟩
theorem UB.cons {W:OX}{D:Nat}(h:UB lo hi ds W)(hl:lo<=hi)(I:hi<=D)(hd:W.heap[D]?=some (.deferred (some []))):UB lo W.heap.size (D::ds) W:=by
 have G:=(LO.1 hd).1;refine⟨M0.2 ⟨λH=>ot (h.2 D H).2.1,h.1⟩,λE hE=>?_⟩;rcases Li.1 hE with rfl|hE
 ·exact⟨oa,G,hd⟩
 have:=h.2 E hE;exact⟨this.1,(LO.1 this.2.2).1,this.2.2⟩
theorem UB.stb (J:hi<=B):Yt B (λW=>UB lo hi ds W):=λW W' X h H I=>by
 refine⟨h.1,λD E=>⟨(h.2 D E).1,(h.2 D E).2.1,?_⟩⟩;have G:=(h.2 D E).2.2;refine(H.block D (LO.1 G).1 (λhx=>?_)).D G;have:=(I D hx).1;have:=(h.2 D E).2.1;omega
open Go.RowKit
def sl (d:xz)(f:Fr):OY:=match d with|some d=>f d|none=>undef
def ow:OY->LN
 | .slice (some a) _ _=>[a.block]
 | .pointer (some a)=>[a.block]
 | .map (some b)=>[b]
 | _=>[]
def Fa (p:Nat->Prop):LN->Prop
 | []=>True
 | i::l=>p i/\Fa p l
theorem Fa.all {p:Nat->Prop}:∀{l:LN},Fa p l->∀i∈l,p i
 | [],_,_,hi=>by cases hi
 | j::l,h,i,hi=>by
  rcases Li.1 hi with rfl|hi
  ·exact h.1
  exact Fa.all h.2 i hi
theorem Fa.of {p:Nat->Prop}:∀{l:LN},(∀i∈l,p i)->Fa p l
 | [],_=>trivial
 | i::_,h=>⟨h i Lq,Fa.of λj E=>h j (Lj _ E)⟩
def zm (all:Array Oper)(opn:LN)(rest:xo):Nat->Array Bool->Bool
 | 0,ls=>Y6 all rest ls && opn.all λi=>ls.getD i false
 | k+1,ls=>!(Region.ready .any all ls).isEmpty && (Region.ready .any all ls).all λi=>opn.contains i && zm all opn rest k (ls.setIfInBounds i true)
def Qa4 (all:xx)(D:xp):LN->Bool
 | []=>true
 | i::l=>(QV all i).guard.isNone && (match (QV all i).dst with|some d=>Xa D d && l.all (λj=>!((QV all j).dst == some d))|none=>false) && !l.contains i && Qa4 all D l
theorem Kk {all:xx}{D:xp}:∀{l:LN},Qa4 all D l=true->(∀i∈l,(QV all i).guard=none/\∃d,(QV all i).dst=some d/\Xa D d=true)/\∀i∈l,∀j∈l,i≠j->(QV all i).dst≠(QV all j).dst
 | [],_=>⟨λ_ h=>(by cases h),λ_ h=>(by cases h)⟩
 | i::l,h=>by
  simp only[Qa4,oJ,Option.isNone_iff_eq_none]at h;obtain⟨⟨⟨O,hd⟩,S⟩,hl⟩:=h;have ih:=Kk hl;cases G:(QV all i).dst with
  | none=>rw[G]at hd;cases hd
  | some d =>
   rw[G]at hd;simp only[oJ,Og,Ob,beq_eq_false_iff_ne,ne_eq]at hd;have H:∀j∈l,(QV all j).dst≠some d:=λj E=>hd.2 j E;refine⟨λj E=>?_,λj E k I J=>?_⟩
   ·rcases Li.1 E with rfl|E
    ·exact⟨O,d,G,hd.1⟩
    exact ih.1 j E
   rcases Li.1 E with hj1|hj1
   ·rcases Li.1 I with hk1|hk1
    ·exact OS (hj1.D hk1.symm) J
    rw[hj1,G];exact λe=>H k hk1 e.symm
   rcases Li.1 I with hk1|hk1
   ·rw[hk1,G];exact H j hj1
   exact ih.2 j hj1 k hk1 J
def QoI (all:xx)(pre:xo)(opn:LN)(rest:xo)(D:xp):Bool :=
 Region.noSelect all.toArray && (pre.length+(opn.length+rest.length) == all.length) && Ki all.toArray pre (oV all.length false) && Qa4 all D opn && zm all.toArray opn rest opn.length (Z6 pre (oV all.length false))
  && opn.all λi=>!((Z6 pre (oV all.length false)).getD i false)
section
variable {all:xx}{C:xt}
theorem Ju (h:o.guard=none):Ya all f o=true:=by unfold Ya;rw[h]
theorem Qeu {α:Type}{D:xp}{opn:LN}{rest:xo}{Φ:Nat->OY->OX->Prop}{S:α->List (Nat×OY)}{I:α->OX->Prop}{f1:Fr}(hs:Region.noSelect all.toArray=true)(hc:Qa4 all D opn=true)
  (hn:∀w w',C w->O1 [] w w'->C w') (stab:∀i v w w',Φ i v w->O1 [] w w'->Φ i v w')
  (hq:∀(g:Fr) w,Fa (λi=>Φ i (sl (QV all i).dst g) w) opn->(∀i∈opn,∀j∈opn,i≠j->∀b∈ow (sl (QV all i).dst g),b∉ow (sl (QV all j).dst g))->∃z,Xn g (S z)/\I z w)
  (spec:Fa (λi=>∀g w,C w->XO P (QV all i) (mix D f1 g) w (λf' w'=>O1 [] w w'/\Φ i (sl (QV all i).dst f') w'/\∀b∈ow (sl (QV all i).dst f'),w.heap.size<=b/\b<w'.heap.size)) opn)
  (fin:∀z g w,C w->I z w->XP P all C K rest (qh (S z) (mix D f1 g)) w):
  ∀(k:Nat) (ls:Array Bool) (f:Fr) (w:OX),ls.size=all.length->C w->zm all.toArray opn rest k ls=true->(∀t,Xa D t=false->f t=f1 t)->(∀i∈opn,ls.getD i false=true->Φ i (sl (QV all i).dst f) w) ->
   (∀i∈opn,ls.getD i false=true->(∀b∈ow (sl (QV all i).dst f),b<w.heap.size)/\∀j∈opn,ls.getD j false=true->i≠j->∀b∈ow (sl (QV all i).dst f),b∉ow (sl (QV all j).dst f))->XA P all C K (k+rest.length) ls f w
 | 0,ls,f,w,hh,hC,H,hf,hl,O=>by
  simp only[zm,oJ,Og]at H;obtain⟨z,h1,h2⟩:=hq f w (Fa.of λi hi=>hl i hi (H.2 i hi)) (λi hi j G E=>(O i hi (H.2 i hi)).2 j G (H.2 j G) E);have h3:=fin z f w hC h2;rw[X5 hf,Y0 h1]at h3;rw[LQ];exact ZN hs rest ls f w hh (.inl hC) H.1 h3
 | k+1,ls,f,w,hh,hC,H,hf,hl,O=>by
  simp only[zm,oJ,Og,List.contains_iff_mem]at H;obtain⟨he,H⟩:=H;rw[Nat.add_right_comm];refine XC (λh0=>(by rw[h0]at he;cases he)) ?_;intro i hi o ho;obtain⟨hm,hy⟩:=H i hi;obtain⟨hg,d,hd,h4⟩:=(Kk hc).1 i hm;have h5:=(Kk hc).2;have hsp:=Fa.all spec i hm f w hC;rw[X5 hf]at hsp;have T:=Zj ho;rw[T]at hg hd hsp;rw[Ju hg,cond_true];refine hsp.mono λv w' hx=>?_;have hr:=hn w w' hC hx.1;have hz:=hx.1.size;have old:∀j∈opn,j≠i->sl (QV all j).dst (QT f o.dst v)=sl (QV all j).dst f:=λj G E=>by
   obtain⟨_,dj,hu,_⟩:=(Kk hc).1 j G;have he:o.dst≠some dj:=λe=>h5 j G i hm E (by rw[hu,T];exact e.symm);rw[hu];exact Y1 he v
  have lsj:∀j,j≠i->(ls.setIfInBounds i true).getD j false=true->ls.getD j false=true:=λj E h=>by rw[getD_set_ne false (Ne.symm E)]at h;exact h
  refine⟨.inr (.inr hr),Qeu hs hc hn stab hq spec fin k _ _ _ (oy hh) hr hy (λt ht=>?_) (λj G ha=>?_) (λj G ha=>⟨λb J=>?_,λk hk hv hw b J V=>?_⟩)⟩
  ·rw[Y1 (by rw[hd];intro e;cases e;rw[h4]at ht;cases ht)];exact hf t ht
  ·by_cases E:j=i
   ·subst E;have h2:=hx.2.1;rw[T];exact h2
   rw[old j G E];exact stab _ _ _ _ (hl j G (lsj j E ha)) hx.1
  ·by_cases E:j=i
   ·subst E;rw[T]at J;exact(hx.2.2 b J).2
   rw[old j G E]at J;have:=(O j G (lsj j E ha)).1 b J;omega
  by_cases E:j=i
  ·subst E;have Y:k≠j:=Ne.symm hw;rw[old k hk Y]at V;rw[T]at J;have h1:=(O k hk (lsj k Y hv)).1 b V;have h2:=(hx.2.2 b J).1;omega
  rw[old j G E]at J;have h1:=(O j G (lsj j E ha)).1 b J;by_cases Y:k=i
  ·subst Y;rw[T]at V;have h2:=(hx.2.2 b V).1;omega
  rw[old k hk Y]at V;exact(O j G (lsj j E ha)).2 k hk (lsj k Y hv) hw b J V
theorem QlG {Q:Exit->Fr->OX->Prop}(C:xt)(pre:xo)(opn:LN)(rest:xo)(D:xp)(Φ:Nat->OY->OX->Prop)(S:α->List (Nat×OY))(I:α->OX->Prop)
  (hm:P.follows .mixedOrders=true) (hn:XI n all=true) (H:QoI all pre opn rest D=true) (J:C { w with drawn:=w.drawn+1 }) (ha:∀w w',C w->O1 [] w w'->C w') (stab:∀i v w w',Φ i v w->O1 [] w w'->Φ i v w')
  (hb:∀(g:Fr) w,Fa (λi=>Φ i (sl (QV all i).dst g) w) opn->(∀i∈opn,∀j∈opn,i≠j->∀b∈ow (sl (QV all i).dst g),b∉ow (sl (QV all j).dst g))->∃z,Xn g (S z)/\I z w)
  (h:XP P all C (λG _=>Fa (λi=>∀g w,C w->XO P (QV all i) (mix D G g) w (λO w'=>O1 [] w w'/\Φ i (sl (QV all i).dst O) w'/\∀b∈ow (sl (QV all i).dst O),w.heap.size<=b/\b<w'.heap.size)) opn /\
   ∀z g w,C w->I z w->XP P all C (λf w=>Q .normal f w) rest (qh (S z) (mix D G g)) w) pre f { w with drawn:=w.drawn+1 }):W P n (.region id all.toArray true) Q f w:=by
 simp only[QoI,oJ,beq_iff_eq,Og,Ob]at H;obtain⟨⟨⟨⟨⟨T,hl⟩,hq⟩,hc⟩,he⟩,V⟩:=H;refine JB C hm hn ?_;rw[<-hl];have hf:(oV all.length false).size=all.length:=oe
 have Y:=YD (K:=λf w=>Q .normal f w) (m:=opn.length+rest.length) T pre (oV all.length false) f _ J hq (λG hB=>Qeu (P:=P) (C:=C) T hc ha stab hb hB.1 hB.2 opn.length (Z6 pre (oV all.length false)) G _ (by rw[YF];exact hf) J he (λ_ _=>U) (λi hi E=>by rw[V i hi]at E;cases E) (λi hi E=>by rw[V i hi]at E;cases E)) h;rw[hl]at Y ⊢;exact Y
end
def Jq (k:Nat):LI:=(oW k).map λi:Nat=>(i:Int)
theorem zr (k:Nat):(Jq k).length=k:=by simp[Jq]
theorem Qe1 (k:Nat):Jq (k+1)=Jq k++[(k:Int)]:=by unfold Jq;rw[ND,Lt];rfl
theorem Qnm (lf:Lf)(x:Int)(z:LI×LI)(y:Int):dsE lf x z y=if lft lf y=true then bwE x z y else z:=by
 unfold dsE bwE;by_cases h:lft lf y=true <;> by_cases E:O2 z.1 y.toNat<0 <;> simp[h,E]
structure DsI (n:Nat)(z:LI×LI):Prop where
 ok:Qjm n z.1 z.2
 cnt:neg z.1+z.2.length=n
 s0:QnL z.1 z.2
theorem DsI.le {z:LI×LI}(h:DsI n z):z.2.length<=n:=by have:=h.cnt;omega
theorem Qif {lf:Lf}{x y:Int}{z:LI×LI}(h:DsI n z)(hx:0<=x/\x<(n:Int))(E:0<=O2 z.1 x.toNat)(G:0<=y/\y<(n:Int)):
  DsI n (dsE lf x z y)/\0<=O2 (dsE lf x z y).1 x.toNat:=by
 rw[Qnm];split
 ·obtain⟨H,J,I⟩:=QnD h.ok hx E G;exact⟨⟨H,ot h.cnt,QiR h.ok E G h.s0⟩,I⟩
 exact⟨h,E⟩
theorem Qk9 (lf:Lf)(x:Int)(z:LI×LI)(y:Int):∃r,(dsE lf x z y).2=z.2++r:=by
 unfold dsE;split
 ·exact⟨[y],U⟩
 exact⟨[],oe⟩
theorem Qk8 {n:Nat}{lf:Lf}{x:Int}(hx:0<=x/\x<(n:Int)):∀(l:LI) (z:LI×LI),DsI n z->0<=O2 z.1 x.toNat->(∀y∈l,0<=y/\y<(n:Int)) ->
  DsI n (l.foldl (dsE lf x) z)/\∃r,(l.foldl (dsE lf x) z).2=z.2++r
 | [],z,h,_,_=>⟨h,[],oe⟩
 | y::l,z,h,E,hl=>by
  obtain⟨G,H⟩:=Qif (lf:=lf) h hx E (hl y Lq);obtain⟨I,J,O⟩:=Qk8 hx l _ G H (λy S=>hl y (Lj _ S));obtain⟨T,V⟩:=Qk9 lf x z y;exact⟨I,T++J,by rw[L3,O,V,LA]⟩
theorem Qie {lf:Lf}{f:Nat}{z:LI×LI}(h:¬i<z.2.length):dsL es lf f i z=z:=by
 cases f with
 | zero=>rfl
 | succ f=>rw[dsL,OP h]
theorem Qem {x:Int}(E:0<=x):(qw n l).set x.toNat 0=qw n (l++[x]):=by
 apply Mt
 ·simp[qw]
 intro i G H;rw[M1];by_cases e:x.toNat=i
 ·have:(i:Int)=x:=oa
  rw[OQ e];simp[qw,this]
 have:(i:Int)≠x:=oa
 rw[OP e];simp[qw,this]
theorem Qbw {lf:Lf}(G:∀x∈a.mr,0<=x)(k:Nat):(a.mr.take k).foldl (ds1 lf) (oM a.st.toNat (-1),[])=(qw a.st.toNat ((a.mr.take k).filter (lft lf)),(a.mr.take k).filter (lft lf)):=by
 induction k with
 | zero =>
  simp only[List.take_zero,List.foldl_nil,List.filter_nil];congr 1;apply Mt
  ·simp[qw]
  intro i H I;simp[qw]
 | succ k ih =>
  by_cases E:k<a.mr.length
  ·rw[Lm E,Mv,ih,L6];simp only[List.foldl_cons,List.foldl_nil,ds1];by_cases hl:lft lf (a.mr[k]'E)=true
   ·rw[OQ hl,Qem (G _ (Lk E))];simp[hl]
   rw[OP hl];simp[hl]
  have e:a.mr.take (k+1)=a.mr.take k:=by rw[Lr oa,Lr oa]
  rw[e];exact ih
theorem Qno {lf:Lf}(E:∀x∈a.mr,0<=x):ds0 a lf=(qw a.st.toNat (a.mr.filter (lft lf)),a.mr.filter (lft lf)):=by
 have:=Qbw (lf:=lf) E a.mr.length;rw[Ng]at this;exact this
theorem Qko (l:LI)(G:l.Nodup)(H:∀x∈l,0<=x/\x<(n:Int)):neg (qw n l)+l.length=n:=by
 have key:∀k,k<=l.length->neg (qw n (l.take k))+k=n:=by
  intro k;induction k with
  | zero =>
   intro _;have e:qw n (l.take 0)=oM n (-1):=by
    apply Mt
    ·simp[qw]
    intro i I V;simp[qw]
   rw[e];unfold neg;simp
  | succ k ih =>
   intro Y;have I:=ih oa;have hx:=H _ (Lk (show k<l.length by omega));rw[Lm (show k<l.length by omega),<-Qem hx.1];have J:(l[k]'oa).toNat<(qw n (l.take k)).length:=by rw[Ut];omega
   have ha:=V9 (qw n (l.take k)) (l[k]'oa).toNat 0 J (by
    have e:(((l[k]'oa).toNat:Nat):Int)=l[k]'oa:=oa
    have O:(l[k]'oa)∉l.take k:=λh=>by
     obtain⟨j,S,E⟩:=LP h;rw[Nm]at E;have T:j<k:=by simp at S;omega
     have:=(MH.1 G) j k oa oa T;exact this E
    simp[qw,e,O]) (Ny _)
   omega
 have:=key l.length (Lv _)
 rwa [Ng]at this
theorem Qnn {lf:Lf}(E:ZD a)(H:a.st=(n:Int)):DsI n (ds0 a lf):=by
 have G:∀x∈a.mr.filter (lft lf),0<=x/\x<(n:Int):=λx hx=>by rw[<-H];exact E.mr x (Md.1 hx).1
 have e:a.st.toNat=n:=oa
 rw[Qno (λx hx=>(E.mr x hx).1),e];refine⟨QnE G,Qko _ ((E.mri.imp (λh=>oa)).filter _) G,λx hx=>?_⟩;rw[Qlz (G x hx) hx];exact Ny _
def VJ (l:Lf):Nat:=l.countP (· == true)
theorem Qlp (l:Lf):VJ l<=l.length:=List.countP_le_length
theorem Qec (l:Lf)(s:Int):(cut l s).length=l.length:=by simp[cut]
theorem zY:∀(xs:LI) (l:Lf),(xs.foldl cut l).length=l.length
 | [],_=>rfl
 | x::xs,l=>by rw[L3,zY xs,Qec]
theorem Qee:∀(l:Lf) (i:Nat),VJ (l.set i false)+(if l.getD i false=true then 1 else 0)=VJ l
 | [],i=>by simp[VJ]
 | b::l,0=>by cases b <;> simp[VJ]
 | b::l,i+1=>by
  have ih:=Qee l i;unfold VJ at *;simp only[List.set_cons_succ,List.countP_cons,List.getD_cons_succ];omega
theorem Qef (l:Lf)(s:Int):VJ (cut l s)+(if lft l s=true then 1 else 0)=VJ l:=Qee l s.toNat
theorem QbC:∀(xs:LI) (l:Lf),VJ (xs.foldl cut l)<=VJ l
 | [],_=>Lv _
 | x::xs,l=>by
  have E:=QbC xs (cut l x);have G:=Qef l x;rw[L3];omega
theorem Qiu {xs:LI}{l:Lf}(h:0<xs.length)(E:∀x∈xs,lft l x=true):VJ (xs.foldl cut l)<VJ l:=by
 cases xs with
 | nil=>simp at h
 | cons x xs =>
  have H:=QbC xs (cut l x);have G:=Qef l x;rw[OQ (E x Lq)]at G;rw[L3];omega
def Qje (a:Q2)(lf:Lf)(out:xq):Prop:=∀p∈out,lft lf p.1=true/\∃e∈a.ed,e.1=p.1/\e.2.1=p.2
theorem Qkv {lf:Lf}{out:xq}{e:Ed}(h:Qje a lf out)(G:e∈a.ed):Qje a lf (KQ ul lf out e)/\(KQ ul lf out e).length<=out.length+1:=by
 unfold KQ;split
 ·exact⟨h,oa⟩
 rename_i H;split
 ·exact⟨h,oa⟩
 refine⟨λp E=>?_,oe⟩;simp only[oS,oH]at E;rcases E with E|rfl
 ·exact h p E
 exact⟨by cases hl:lft lf e.1 with|true=>rfl|false=>exact OS (.inl hl) H,e,G,rfl,rfl⟩
theorem zy {a:Q2}{ul:LI}{lf:Lf}:∀(l:List Ed) (out:xq),(∀e∈l,e∈a.ed)->Qje a lf out->Qje a lf (l.foldl (KQ ul lf) out)/\(l.foldl (KQ ul lf) out).length<=out.length+l.length
 | [],out,_,h=>⟨h,oe⟩
 | e::l,out,hl,h=>by
  obtain⟨E,I⟩:=Qkv (ul:=ul) h (hl e Lq);obtain⟨G,J⟩:=zy l _ (λe H=>hl e (Lj _ H)) E;exact⟨G,by rw[L3,LS];omega⟩
theorem j6 (a:Q2)(ul:LI)(lf:Lf):Qje a lf (lost a ul lf)/\(lost a ul lf).length<=a.ed.length:=by
 have:=zy (ul:=ul) (lf:=lf) a.ed [] (λ_ h=>h) (λp E=>by cases E);unfold lost;simpa using this
theorem Uu (lf:Lf):∀(l:LI) (i:Nat),(∀x∈Vo lf i l,lft lf x=true/\(i:Int)<=x/\x<(i:Int)+l.length)/\(Vo lf i l).length<=l.length
 | [],i=>⟨λx hx=>(by cases hx),Lv _⟩
 | d::l,i=>by
  obtain⟨E,H⟩:=Uu lf l (i+1);unfold Vo;split
  ·rename_i G;refine⟨λx hx=>?_,by simp;omega⟩;rcases Li.1 hx with rfl|hx
   ·exact⟨by unfold lft;simpa using G.1,Ny _,by simp;omega⟩
   have:=E x hx;exact⟨this.1,oa,by simp only[oU];omega⟩
  refine⟨λx hx=>?_,by simp;omega⟩;have:=E x hx;exact⟨this.1,oa,by simp only[oU];omega⟩
theorem Qg9 {lf:Lf}(x:Int)(hx:x∈nxs a ul lf):lft lf x=true:=by
 unfold nxs at hx;split at hx
 ·obtain⟨p,E,rfl⟩:=LC.1 hx;exact((j6 a ul lf).1 p E).1
 exact((Uu lf (dsts a lf) 0).1 x hx).1
theorem QeO {f:Nat}{lf:Lf}(h:(nxs a ul lf).length=0):zf a ul f lf=lf:=by
 cases f with
 | zero=>rfl
 | succ f=>rw[zf,OQ h]
theorem QeN {f:Nat}{lf:Lf}(h:(nxs a ul lf).length≠0):zf a ul (f+1) lf=zf a ul f ((nxs a ul lf).foldl cut lf):=by rw[zf,OP h]
theorem Qha {lf:Lf}(h:(nxs a ul lf).length≠0):VJ ((nxs a ul lf).foldl cut lf)<VJ lf:=Qiu oa (λx hx=>Qg9 x hx)
theorem QeJ (h:ZD a)(lf:Lf):ZD (rstr a lf):=
 ⟨h.al,h.ali,h.st0,h.st1,h.mr,h.mri,λe E=>h.ed e (Md.1 E).1,h.edi.filter _⟩
def pst (v:Int)(a:Q2)(x:Int):Option Int:=if v∈a.al then O9 a.ed x v else some x
def nx (v:Int)(A:Nat->Q2)(x:Nat->Int)(i:Nat):Int:=(pst v (A i) (x i)).getD 0
abbrev QN (p:Int×Int):LV:=[oE oF p.1,oE oF p.2]
theorem Y7 (p:Int×Int):(QN p).length=2:=rfl
abbrev yz (L:LN)(H:xu)(v:OY)(l:xq):Prop:=Zm L H v l.length 2 (l.flatMap QN)
abbrev Zw (e:J1):LV:=[.string e.nm,.bool e.co,.bool e.ob,.bool e.fo,oE oF e.fl]
theorem Ui (e:J1):(Zw e).length=5:=rfl
abbrev J0 (s:ByteArray):Prop:=s.size<=9223372036854775807
structure Vp (L:LN)(H:xu)(v:OY)(l:List J1):Prop where
 arr:Zm L H v l.length 5 (l.flatMap Zw)
 nm:∀e∈l,J0 e.nm
theorem Vp.I {L:LN}{w w':OX}{v:OY}{l:List J1}(h:Vp L w.heap v l)(E:O1 [] w w'):Vp L w'.heap v l:=⟨h.arr.I E,h.nm⟩
theorem Vp.st {L:LN}{w w':OX}{v:OY}{l:List J1}(h:Vp L w.heap v l)(E:O1 L w w'):Vp L w'.heap v l:=⟨h.arr.st E,h.nm⟩
theorem Vp.up {L L':LN}{H:xu}{v:OY}{l:List J1}(h:Vp L H v l)(E:∀b∈L',b∈L\/H.size<=b):Vp L' H v l:=⟨h.arr.up E,h.nm⟩
structure IV where
 nm:ByteArray
 p:AV
def IV.it (q:IV):YU:=⟨q.nm,q.p.a⟩
abbrev QO (q:IV):LV:=[.string q.nm,q.p.va,oE oF q.p.a.st,q.p.vm,q.p.ve]
theorem Ys (q:IV):(QO q).length=5:=rfl
structure XH (L:LN)(H:xu)(v:OY)(qs:List IV):Prop where
 arr:Zm L H v qs.length 5 (qs.flatMap QO)
 each:∀q∈qs,ZH L H q.p.va q.p.vm q.p.ve q.p.a
 nm:∀q∈qs,J0 q.nm
structure XV where
 nm:ByteArray
 v:OY
 ls:xq
def XV.x (q:XV):UA:=⟨q.nm,q.ls⟩
abbrev Q8 (q:XV):LV:=[.string q.nm,q.v]
theorem Xq (q:XV):(Q8 q).length=2:=rfl
structure yp (L:LN)(H:xu)(v:OY)(qs:List XV):Prop where
 arr:Zm L H v qs.length 2 (qs.flatMap Q8)
 each:∀q∈qs,yz L H q.v q.ls
 nm:∀q∈qs,J0 q.nm
structure KV where
 nm:ByteArray
 v:OY
 ts:xq
 bd:Int
def KV.k (q:KV):xG:=⟨q.nm,q.ts,q.bd⟩
abbrev Q5 (q:KV):LV:=[.string q.nm,q.v,oE oF q.bd]
theorem Xg (q:KV):(Q5 q).length=3:=rfl
structure yB (L:LN)(H:xu)(v:OY)(qs:List KV):Prop where
 arr:Zm L H v qs.length 3 (qs.flatMap Q5)
 each:∀q∈qs,yz L H q.v q.ts
 nm:∀q∈qs,J0 q.nm
theorem XH.I {L:LN}{w w':OX}{v:OY}{qs:List IV}(h:XH L w.heap v qs)(E:O1 [] w w'):XH L w'.heap v qs:=⟨h.arr.I E,λq G=>(h.each q G).I E,h.nm⟩
theorem XH.st {L:LN}{w w':OX}{v:OY}{qs:List IV}(h:XH L w.heap v qs)(E:O1 L w w'):XH L w'.heap v qs:=⟨h.arr.st E,λq G=>(h.each q G).st E,h.nm⟩
theorem XH.up {L L':LN}{H:xu}{v:OY}{qs:List IV}(h:XH L H v qs)(E:∀b∈L',b∈L\/H.size<=b):XH L' H v qs:=⟨h.arr.up E,λq G=>(h.each q G).up E,h.nm⟩
theorem yp.I {L:LN}{w w':OX}{v:OY}{qs:List XV}(h:yp L w.heap v qs)(E:O1 [] w w'):yp L w'.heap v qs:=⟨h.arr.I E,λq G=>(h.each q G).I E,h.nm⟩
theorem yp.st {L:LN}{w w':OX}{v:OY}{qs:List XV}(h:yp L w.heap v qs)(E:O1 L w w'):yp L w'.heap v qs:=⟨h.arr.st E,λq G=>(h.each q G).st E,h.nm⟩
theorem yp.up {L L':LN}{H:xu}{v:OY}{qs:List XV}(h:yp L H v qs)(E:∀b∈L',b∈L\/H.size<=b):yp L' H v qs:=⟨h.arr.up E,λq G=>(h.each q G).up E,h.nm⟩
theorem yB.I {L:LN}{w w':OX}{v:OY}{qs:List KV}(h:yB L w.heap v qs)(E:O1 [] w w'):yB L w'.heap v qs:=⟨h.arr.I E,λq G=>(h.each q G).I E,h.nm⟩
theorem yB.st {L:LN}{w w':OX}{v:OY}{qs:List KV}(h:yB L w.heap v qs)(E:O1 L w w'):yB L w'.heap v qs:=⟨h.arr.st E,λq G=>(h.each q G).st E,h.nm⟩
theorem yB.up {L L':LN}{H:xu}{v:OY}{qs:List KV}(h:yB L H v qs)(E:∀b∈L',b∈L\/H.size<=b):yB L' H v qs:=⟨h.arr.up E,λq G=>(h.each q G).up E,h.nm⟩
structure CL where
 ve:OY
 vc:OY
 vr:OY
 vx:OY
 vk:OY
 ev:List J1
 co:List IV
 rq:List IV
 ex:List XV
 cs:List KV
def CL.V (c:CL):Zx:=⟨c.ev,c.co.map (·.it),c.rq.map (·.it),c.ex.map (·.x),c.cs.map (·.k)⟩
abbrev CL.cells (c:CL):LV:=[c.ve,c.vc,c.vr,c.vx,c.vk]
abbrev CL.val (c:CL):OY:=.agg #[c.ve,c.vc,c.vr,c.vx,c.vk]
structure ZJ (L:LN)(H:xu)(c:CL):Prop where
 ev:Vp L H c.ve c.ev
 co:XH L H c.vc c.co
 rq:XH L H c.vr c.rq
 ex:yp L H c.vx c.ex
 cs:yB L H c.vk c.cs
theorem ZJ.I {L:LN}{w w':OX}{c:CL}(h:ZJ L w.heap c)(E:O1 [] w w'):ZJ L w'.heap c:=⟨h.ev.I E,h.co.I E,h.rq.I E,h.ex.I E,h.cs.I E⟩
theorem ZJ.st {L:LN}{w w':OX}{c:CL}(h:ZJ L w.heap c)(E:O1 L w w'):ZJ L w'.heap c:=⟨h.ev.st E,h.co.st E,h.rq.st E,h.ex.st E,h.cs.st E⟩
theorem ZJ.up {L L':LN}{H:xu}{c:CL}(h:ZJ L H c)(E:∀b∈L',b∈L\/H.size<=b):ZJ L' H c:=⟨h.ev.up E,h.co.up E,h.rq.up E,h.ex.up E,h.cs.up E⟩
theorem ZJ.ones {c:CL}(h:ZJ L H c):Zp c.cells:=⟨h.ev.arr.one,h.co.arr.one,h.rq.arr.one,h.ex.arr.one,h.cs.arr.one,Z⟩
def QfV (N:Nat)(H:xu)(v:OY)(k:Zx):Prop:=∃c:CL,v=c.val/\c.V=k/\∀L:LN,(∀b∈L,b<N)->ZJ L H c
theorem Vi (s:ByteArray)(ha:J0 s)(w:OX):Q3 prog 147 [.string s] w λr w'=>r=.bool (JE s)/\w'=w:=by
 unfold J0 at ha;refine Zq func147 ?_;refine Qc<|Qb<|Qd<|Qm<|x (Qcl U)<|Qa<|xe<|Qg<|QD (α:=Nat) [(2,5),(8,46)] (λz=>[(8,oE oF z)]) (λz w'=>w'=w/\z<=s.size/\(oQ z (s.size - z)).all (nmQ s)=(oQ 0 s.size).all (nmQ s)) (λz=>s.size - z) ol 0 La ⟨U,Lo _,by rw[NB]⟩ ?_;rintro k g Y ⟨rfl,hk,E⟩;refine Qc<|Q0 U U<|xe<|Qd<|QH U (λG=>?_) (λG=>?_)
 ·refine Qz ?_;have hb:s.size<=k:=by have he:¬(k:Int)<(s.size:Int):=G;omega
  rw[Qj3 hb]at E;have H:JE s=decide (0<s.size/\s.size<=32):=by unfold JE;rw[<-E];simp
  rw[H];refine Za (α:=Bool) [(2,2),(47,54)] (λz=>[(2,.bool z)]) (λz w'=>w'=Y/\z=decide (0<s.size/\s.size<=32)) ol ?_ ?_
  ·refine Qw<|Qa<|x (Qcl U)<|xb (Yg U U) (λhf=>?_) (λhf=>?_)
   ·refine Qa<|Qa<|x (Qcl U)<|x (KN U U)<|QG U<|Qb<|⟨_,La,U,by first|exact bT oa|exact bF oa|exact bD oa⟩
   refine Qa<|Qp<|Qp<|Qp<|QG U<|Qb<|⟨_,La,U,by first|exact bT oa|exact bF oa|exact bD oa⟩
  rintro z g w2 ⟨rfl,rfl⟩;exact Qk ⟨[_],La,U,U⟩
 have I:k<s.size:=by have he:(k:Int)<(s.size:Int):=G;omega
 rw[QgH I,L4]at E;refine Qh<|Qd<|Qg<|Qm<|Qb<|Qm<|Qa<|x (QgR (i:=k) U U I)<|Qb ?_;have J:nmQ s k=decide (nmP k (chr s k)):=rfl;refine Zo (chr s k) λc O=>?_;rw[O]at J;refine Za (α:=Bool) [(5,5),(14,31)] (λz=>[(5,.bool z)]) (λz w'=>w'=Y/\z=decide ((97<=c/\c<=122)\/(65<=c/\c<=90)\/c=95)) ol ?_ ?_
 ·rw[<-O];refine Qw<|Qa<|xb (Yw U U) (λhg=>?_) (λhg=>?_)
  ·refine Qa<|Qa<|xb (KN U U) (λhh=>?_) (λhh=>?_)
   ·refine QG U<|Qa<|Qp<|Qp<|Qp<|Qp<|Qp<|Qp<|QG U<|Qa<|Qp<|Qp<|x (zh U) <|
     Qb<|⟨_,La,U,by first|exact bT oa|exact bF oa|exact bD oa⟩
   refine QG U<|Qa<|Qa<|xb (Yw U U) (λS=>?_) (λS=>?_)
   ·refine Qa<|Qa<|xb (KN U U) (λT=>?_) (λT=>?_)
    ·refine QG U<|QG U<|Qa<|Qp<|Qp<|QG U<|Qb<|⟨_,La,U,by first|exact bT oa|exact bF oa|exact bD oa⟩
    refine QG U<|QG U<|Qa<|Qa<|x (QY U U)<|QG U<|Qb<|⟨_,La,U,by first|exact bT oa|exact bF oa|exact bD oa⟩
   refine Qa<|Qp<|Qp<|QG U<|QG U<|Qa<|Qa<|x (QY U U)<|QG U<|x Ql <|
    xe ?_
   exact⟨_,La,U,by first|exact bT oa|exact bF oa|exact bD oa⟩
  refine Qa<|Qp<|Qp<|QG U<|Qa<|Qa<|xb (Yw U U) (λS=>?_) (λS=>?_)
  ·refine Qa<|Qa<|xb (KN U U) (λT=>?_) (λT=>?_)
   ·refine QG U<|QG U<|Qa<|Qp<|Qp<|QG U<|Qb<|⟨_,La,U,by first|exact bT oa|exact bF oa|exact bD oa⟩
   refine QG U<|QG U<|Qa<|Qa<|x (QY U U)<|QG U<|Qb<|⟨_,La,U,by first|exact bT oa|exact bF oa|exact bD oa⟩
  refine Qa<|Qp<|Qp<|QG U<|QG U<|Qa<|Qa<|x (QY U U)<|QG U<|x Ql <|
   xe ?_
  exact⟨_,La,U,by first|exact bT oa|exact bF oa|exact bD oa⟩
 rintro z g w4 ⟨rfl,rfl⟩;refine Za (α:=Bool) [(32,45)] (λz=>[(45,.bool z)]) (λz w'=>w'=w4/\z=decide (¬nmP k c)) ol ?_ ?_
 ·unfold nmP;rw[<-O];refine Qw<|Qa<|xb (zi U) (λhi=>?_) (λhi=>?_)
  ·refine Qa<|Qa<|xb (QY U U) (λhj=>?_) (λhj=>?_)
   ·refine Qa<|Qp<|Qp<|QG U<|Qa<|Qp<|Qp<|QG U<|QG U<|xe ?_;exact⟨_,La,U,by first|exact bT oa|exact bF oa|exact bD oa⟩
   refine Qa<|Qa<|xb (YP U U) (λhl=>?_) (λhl=>?_)
   ·refine QG U<|Qa<|Qp<|Qp<|QG U<|QG U<|xe ?_;exact⟨_,La,U,by first|exact bT oa|exact bF oa|exact bD oa⟩
   refine QG U<|Qa<|Qa<|x (Yg U U)<|QG U<|QG U<|xe ?_;exact⟨_,La,U,by first|exact bT oa|exact bF oa|exact bD oa⟩
  refine Qa<|Qp<|Qp<|Qp<|Qp<|Qp<|Qp<|Qp<|Qp<|Qp<|Qp<|QG U<|xe ?_;exact⟨_,La,U,by first|exact bT oa|exact bF oa|exact bD oa⟩
 rintro z g w5 ⟨rfl,rfl⟩;refine QX rfl (λV=>?_) (λV=>?_)
 ·refine Qc<|Qb ?_;have H:JE s=false:=by
   unfold JE;rw[<-E,J,OV V];rfl
  exact Qk ⟨[_],La,by rw[H];rfl,U⟩
 refine Qh ?_;have hm:nmP k c:=Ln.1 V;refine Qw<|QS U U<|Qa<|xe ?_;rw[J,OT hm,OH]at E;exact⟨k+1,oa,La,U,I,E⟩
def nmM (l:List ByteArray):List (ByteArray×OY):=l.map λs=>(s,.bool true)
theorem Qkn (l:List ByteArray)(s:ByteArray):O6 (nmM l) s=if s∈l then some (.bool true)else none:=by
 induction l with
 | nil=>rfl
 | cons a l ih =>
  show(if a=s then some (Value.bool true)else O6 (nmM l) s)=_
  rw[ih];by_cases h:a=s
  ·subst h;simp
  have:s≠a:=λe=>h e.symm;simp[h,this]
theorem Qdv {l:List ByteArray}{s:ByteArray}(h:s∉l):O7 (nmM l) s (.bool true)=nmM (l++[s]):=by
 induction l with
 | nil=>rfl
 | cons a l ih =>
  have E:a≠s:=λe=>h (by subst e;exact Lq);show(if a=s then(a,Value.bool true)::nmM l else(a,Value.bool true)::O7 (nmM l) s (.bool true))=_
  rw[OP E,ih (λG=>h (Lj _ G))];rfl
section
variable {pS:String}
theorem QaZ [hm:Mp P t kt et (.bool false)][hk:Key P kt Jt]{x:OZ}{l:List ByteArray}{s:ByteArray}(h:Yi Jt w.heap b (nmM l))(hx:ev f x=.map (some b))(E:ev f y=.string s):
  (execOp (ev f) ⟨d,.lookup t x y false,ty,pS,af,gd⟩).run P w=.ok (.value (.bool (decide (s∈l)))) w:=by
 rw[Ji h hx E,Qkn];by_cases G:s∈l <;> simp[G]
end
theorem QcQ {s:List ByteArray}{l:List J1}{k:Nat}(h:k<l.length):ya s (l.drop k)=if JT s (l[k]'h)≠0 then JT s (l[k]'h)else ya (s++[(l[k]'h).nm]) (l.drop (k+1)):=by
 rw[Zd h];rfl
theorem zS {v:OY}{l:List J1}(h:Vp L w.heap v l):Q3 prog 81 [v] w λr w'=>r=oE oF (KC l)/\O1 [] w w':=by
 have h0:=h.arr.le;refine Zq func81 ?_;refine Qc<|Qb<|Qd<|Qm<|QI h.arr U<|x (Yg U U)<|xe<|QX rfl (λh8=>?_) (λh8=>?_)
 ·refine Qc<|Qb<|Qk ⟨[_],La,by unfold KC;rw[OQ (by have h9:(32:Int)<(l.length:Int):=h8;omega)];rfl,O1.Z _ _⟩
 have hm:KC l=ya [] l:=by unfold KC;rw[OP (by have h9:¬(32:Int)<(l.length:Int):=h8;omega)]
 rw[hm];refine Qh<|Qc<|Qe<|Yy Jt λb9 w1 hg ho hp=>Qb<|Qd<|Qm<|QI (h.arr.I hg) U<|Qa<|xe<|Qg<|QD (α:=Nat×List ByteArray) [(2,2),(5,5),(12,50)] (λz=>[(12,oE oF z.1)]) (λz w'=>z.1<=l.length/\O1 [] w w'/\Yi Jt w'.heap b9 (nmM z.2)/\ya z.2 (l.drop z.1)=ya [] l) (λz=>l.length - z.1) ol (0,[]) La
  ⟨Lo _,hg,hp,U⟩ ?_
 rintro⟨k,sn⟩ g w2 ⟨hk,I,hh,E⟩;simp only[]at hk hh E;refine Qc<|Q0 U U<|xe<|Qd<|QH U (λha=>?_) (λha=>?_)
 ·refine Qz ?_;have hq:l.length<=k:=by have hr:¬(k:Int)<(l.length:Int):=ha;omega
  rw[Lp hq]at E;refine Qc<|Qb<|Qk ⟨[_],La,by rw[<-E];rfl,I⟩
 have T:k<l.length:=by have hr:(k:Int)<(l.length:Int):=ha;omega
 rw[QcQ T]at E;have hi:=h.nm _ (Lk T);refine Qh<|Qd<|Qg<|Qc<|O4 Ui (h.arr.I I) U U T λh2 hj=>?_;refine Zo (l[k]'T) λe he=>?_;rw[he]at hj E hi;refine x (Qx hj U U)<|Qe<|Qo (us:=[.string .empty,.bool false,.bool false,.bool false,oE oF 0]) U λb5 w3 hs ht H=>Qe<|Qj (us:=Zw e) H U U U U ⟨U,U,U,U,U,Z⟩ λw4 hu H =>
  xe ?_
 have J:O1 [] w2 w4:=hs.O hu ht;have hl:=hh.I J;refine Qd<|Qg<|Qc<|Qs U H U U<|QM<|(Vi e.nm hi _).mono ?_;rintro r5 w5 ⟨rfl,rfl⟩;refine x (ZC U)<|Qb<|QQ U (λhb=>?_) (λhb=>?_)
 ·have O:JE e.nm=false:=by simpa using hb
  have G:JT sn e=7:=by unfold JT;rw[OQ O]
  refine Qc<|Qb<|Qk ⟨[_],La,by rw[<-E,G];rfl,I.D J⟩
 have O:¬JE e.nm=false:=by simpa using hb
 refine Qm<|Qs U H U U<|x (QaZ hl U U)<|Qb<|QX U (λS=>?_) (λS=>?_)
 ·have G:JT sn e=8:=by unfold JT;rw[OP O,OQ S]
  refine Qc<|Qb<|Qk ⟨[_],La,by rw[<-E,G];rfl,I.D J⟩
 refine Za (α:=Bool) [(26,34)] (λz=>[(26,.bool z)]) (λz w'=>w'=w5/\z=decide (e.fl<0\/4<e.fl)) ol ?_ ?_
 ·refine Qw<|Qs U H U U<|xb (YP U U) (λhv=>?_) (λhv=>?_)
  ·refine Qa<|Qp<|Qp<|Qp<|QG U<|Qb<|⟨_,La,U,by first|exact bT oa|exact bF oa|exact bD oa⟩
  refine Qa<|Qs U H U U<|x (Yg U U)<|QG U<|Qb<|⟨_,La,U,by first|exact bT oa|exact bF oa|exact bD oa⟩
 rintro z g w6 ⟨rfl,rfl⟩;refine QX rfl (λV=>?_) (λV=>?_)
 ·have G:JT sn e=2:=by unfold JT;rw[OP O,OP S,OQ V]
  refine Qc<|Qb<|Qk ⟨[_],La,by rw[<-E,G];rfl,I.D J⟩
 refine Za (α:=Bool) [(35,46)] (λz=>[(35,.bool z)]) (λz w'=>w'=w6/\z=decide (e.fl≠0/\(e.co || e.ob)=true)) ol ?_ ?_
 ·refine Qw<|Qs U H U U<|xb (Xr U U) (λY=>?_) (λY=>?_)
  ·refine Qa<|Q7 U<|xB (Qr H U U) (λhc=>?_) (λhc=>?_)
   ·refine Qa<|Qp<|Qp<|QG U<|QG U<|Qb<|⟨_,La,U,by rw[hc,OT ⟨Y,oe⟩]⟩
   refine Qa<|Qs U H U U<|QG U<|QG U<|Qb<|⟨_,La,U,?_⟩;show e.ob=_;rw[hc];cases e.ob <;> simp[show ¬e.fl=0 from Y]
  refine Qa<|Qp<|Qp<|Qp<|Qp<|Qp<|Qp<|QG U<|Qb<|⟨_,La,U,bF (λG=>Y G.1)⟩
 rintro z g w7 ⟨rfl,rfl⟩;refine QX rfl (λhf=>?_) (λhf=>?_)
 ·have G:JT sn e=13:=by unfold JT;rw[OP O,OP S,OP V,OQ hf]
  refine Qc<|Qb<|Qk ⟨[_],La,by rw[<-E,G];rfl,I.D J⟩
 have G:JT sn e=0:=by unfold JT;rw[OP O,OP S,OP V,OP hf]
 rw[G,OP (λh=>h rfl)]at E;refine Qh<|Qw<|Qa<|Qs U H U U<|Qe<|Xv (k:=e.nm) hl U U λw8 hw hy=>xe ?_;refine Qw<|QS U U<|Qa<|xe ?_;have hz:Yi Jt w8.heap b9 (nmM (sn++[e.nm])):=by rw[<-Qdv S];exact hy
 exact⟨(k+1,sn++[e.nm]),oh,La,T,(I.D J).O hw ho,hz,E⟩
theorem Qbe {α:Type}(q:α->Bool)(x:α):∀(l:List α) (i:Nat),ixs q i (l++[x])=ixs q i l++if q x=true then[((i+l.length:Nat):Int)]else[]
 | [],i=>by simp[ixs]
 | a::l,i=>by
  have ih:=Qbe q x l (i+1);simp only[o8,ixs,ih,oU];rw[show i+1+l.length=i+(l.length+1) by omega];split <;> simp
theorem Qac {α:Type}(q:α->Bool):∀(l:List α) (i:Nat),(ixs q i l).length<=l.length
 | [],i=>by simp[ixs]
 | a::l,i=>by
  have ih:=Qac q l (i+1);unfold ixs;split <;> simp <;> omega
theorem Qhz (q:α->Bool){l:List α}{k:Nat}(h:k<l.length):ixs q 0 (l.take (k+1))=ixs q 0 (l.take k)++if q (l[k]'h)=true then[(k:Int)]else[]:=by
 rw[Lm h,Qbe];simp[Nat.min_eq_left (Nat.le_of_lt h)]
theorem QfC [Fu prog g fn]{q:J1->Bool}(hq:∀(e:J1) (w:OX),Q3 prog g [.agg (Zw e).toArray] w λr w'=>r=.bool (q e)/\O1 [] w w'){v:OY}{l:List J1}(h:Vp L w.heap v l):
  Q3 prog 237 [v,.func (.func g) #[] #[]] w λr w'=>O1 [] w w'/\Qv 3 w.heap.size w' r (ixs q 0 l):=by
 have hr:=h.arr.le;refine Zq func237 ?_;refine Qc<|Qb<|Qc<|Qb<|Qd<|Qm<|QI h.arr U<|Qa<|xe<|Qg<|QD (α:=Nat×OY) [(5,7),(10,22)] (λz=>[(5,z.2),(10,oE oF z.1)]) (λz w'=>z.1<=l.length/\O1 [] w w'/\Qv 3 w.heap.size w' z.2 (ixs q 0 (l.take z.1))) (λz=>l.length - z.1) ol (0,nS) oz
  ⟨Lo _,O1.Z _ _,QJ _ _ _ _⟩ ?_
 rintro⟨k,vo⟩ g w1 ⟨hk,E,I⟩;simp only[]at hk I;refine Qc<|Q0 U U<|xe<|Qd<|QH U (λO=>?_) (λO=>?_)
 ·refine Qz ?_;have hc:l.length<=k:=by have hf:¬(k:Int)<(l.length:Int):=O;omega
  rw[Lr hc]at I;refine Qm<|Qb<|Qk ⟨[_],La,E,I⟩
 have G:k<l.length:=by have hf:(k:Int)<(l.length:Int):=O;omega
 have H:=Qhz q G;have hs:=Qac q (l.take k) 0;have ht:(l.take k).length=k:=by simp;omega
 refine Qh<|Qd<|Qg<|Qm<|O4 Ui (h.arr.I E) U U G λhu ha=>?_;refine Zo (l[k]'G) λe he=>?_;rw[he]at ha H;refine x (Qx ha U U)<|Qe<|Qo (us:=[.string .empty,.bool false,.bool false,.bool false,oE oF 0]) U λb7 w2 hg hh S=>x Ql <|
  Qe<|Qj (us:=Zw e) S U U U U ⟨U,U,U,U,U,Z⟩ λw3 hi S=>xe ?_
 have hj:O1 [] w1 w3:=hg.O hi hh;refine Qm<|Q6 S U U<|Qe<|xc (first:=[]) (capt:=[]) U<|(hq e w3).mono ?_;rintro r4 w4 ⟨rfl,hl⟩;have J:=hj.D hl;have T:=Qq I J;have hv:=(E.D J).size;refine xe<|QQ rfl (λV=>?_) (λV=>?_)
 ·rw[OQ V]at H;refine Qw<|Qa<|Qa<|Qe<|QB (us:=[[oE oF k]]) U U og oe ⟨rfl,rfl,Z⟩ λhw w5 Y hy hm=>?_;have hn:=Qq T Y;have hz:=Y.size;refine Qe<|Zb (news:=[oE oF k]) (L:=[]) hn U U U (hm.at oe) (by simp[Value.oneCell']) oa oa λv6 w6 ho hp h0 =>
   Qb ?_
  have hge:=Qi T;refine Qw<|QS U U<|Qa<|xe<|⟨(k+1,v6),oh,oz,G,((E.D J).D Y).then hp (λb hb=>.inr (hge b hb).1),?_⟩;simp only[];rw[H];exact Qv.snoc ho
 rw[OP (by rw[V];decide),LK]at H;refine Qh<|Qw<|QS U U<|Qa<|xe ?_;exact⟨(k+1,vo),oh,oz,G,E.D J,by simp only[];rw[H];exact T⟩
theorem Qc1 (e:J1)(w:OX):Q3 prog 232 [.agg (Zw e).toArray] w λr w'=>r=.bool (!e.co)/\O1 [] w w':=by
 refine Zq func232 ?_;refine Qc<|Qe<|QW (us:=Zw e) U λb1 H E I G=>Qb<|Qc<|Qs U G U U<|x (ZC U)<|Qb<|Qk ⟨[_],La,U,E⟩
theorem QfR {v:OY}{l:List J1}(h:Vp L w.heap v l):Q3 prog 163 [v,oE oF 2] w λr w'=>O1 [] w w' /\
  ∃vo,r=.tuple #[vo,oE oF (KC l)]/\Qv 3 w.heap.size w' vo (if KC l=0 then unc l else[]):=by
 refine Zq func163 ?_;refine Qc<|x Ql<|Qb<|Qd<|Qm<|ZO<|(zS h).mono ?_;rintro r1 O ⟨rfl,I⟩;refine Qb<|Qm<|ZB U U<|xe<|QX rfl (λG=>?_) (λG=>?_)
 ·refine Qm<|x Ql<|Qb<|Qk ⟨[_,_],oz,I,_,U,by rw[OP G];exact QJ _ _ _ _⟩
 have J:KC l=0:=Ln.1 G;refine Qh<|Qc<|Qe<|Yy VE λho w2 S E T=>Qe<|XY (k:=1) T U U λw3 V Y=>Qe<|XY (k:=2) Y U U λw4 ha hb =>
  Qe<|XY (k:=3) hb U U λw5 hc he=>Qe<|XY (k:=4) he U U λw6 hf hg=>Qe<|XY (k:=5) hg U U λw7 hh hi=>Qe<|XY (k:=6) hi U U λw8 hj hk =>
  Qa<|Qb ?_
 have hl:O1 [] O w8:=(((((S.O V E).O ha E).O hc E).O hf E).O hh E).O hj E;refine Qm<|Qa<|x (yT (k:=(2:Int)) hk U U U)<|Qa<|QZ U U<|QZ U U<|x Ql<|Qb<|Qd<|Qm<|x (ZC U)<|xe<|ZS rfl<|Qh ?_;have H:=I.D hl;refine Qm<|Qa<|ZO<|(QfC Qc1 (h.I H)).mono ?_;rintro r9 w9 ⟨hm,hn⟩;refine x Ql<|Qb<|Qk ⟨[_,_],oz,H.D hm,_,by rw[J];rfl,?_⟩;rw[OQ J];exact Zy hn H.size
theorem Qbi (n:Int)(w:OX):Q3 prog 222 [oE oF n] w λr w'=>r=.bool (grt n)/\w'=w:=by
 refine Zq func222 ?_;refine Qc<|Qb<|Za (α:=Bool) [(2,8)] (λz=>[(2,.bool z)]) (λz w'=>w'=w/\z=grt n) ol ?_ ?_
 ·refine Qw<|Qa<|xb (YP U U) (λE=>?_) (λE=>?_)
  ·refine Qa<|Qp<|Qp<|QG U<|Qb<|⟨_,La,U,by unfold grt;rw[OT E];rfl⟩
  refine Qa<|Qa<|x (Yg U U)<|QG U<|Qb<|⟨_,La,U,by unfold grt;rw[OV E];rfl⟩
 rintro z g G ⟨rfl,rfl⟩;exact Qk ⟨[_],La,U,U⟩
theorem QcP {sz:LI}{k:Nat}(h:k<ls.length):Up sz (pv (ls.map (·.1)) k) (ls.drop k)=if(ls[k]'h).1<0\/(sz.length:Int)<=(ls[k]'h).1 then 2 else if leO (pv (ls.map (·.1)) k) (ls[k]'h).1=true then 5 else if(ls[k]'h).2<0\/O2 sz (ls[k]'h).1.toNat<=(ls[k]'h).2 then 2 else Up sz (pv (ls.map (·.1)) (k+1)) (ls.drop (k+1)):=by
 rw[Zd h,K7 (oy h),LM];rfl
theorem Uq {sz:LI}{nm:ByteArray}(hS:QP [] w.heap vs sz)(hl:yz [] w.heap vl ls):
  Q3 prog 157 [.agg #[vs,vx,vk],.agg #[.string nm,vl]] w λr w'=>r=oE oF (JA sz ls)/\O1 [] w w':=by
 have hG:=hl.le;refine Zq func157 ?_;refine Qc<|Qe<|QW (us:=[vs,vx,vk]) U λb2 w1 hy hH V=>Qe<|QW (us:=[.string nm,vl]) U λb3 w2 hp hI Y=>Qb ?_;have H:=hy.D hp
 replace V:=V.I hp;refine Qd<|Qc<|Qs U Y U U<|QI (hl.I H) U<|x (QY U U)<|xe<|QX rfl (λha=>?_) (λha=>?_)
 ·refine Qc<|Qb<|Qk ⟨[_],La,by unfold JA;rw[OQ (by have hz:(ls.length:Int)=0:=ha;omega)];rfl,H⟩
 have h0:ls.length≠0:=by have hz:¬(ls.length:Int)=0:=ha;omega
 have h1:JA sz ls=Up sz none ls:=by unfold JA;rw[OP h0]
 rw[h1];refine Qh<|Qd<|Qc<|Qs U Y U U<|QI (hl.I H) U<|Qa<|xe<|Qg<|QD (α:=Nat) [(4,6),(14,61)] (λz=>[(14,oE oF z)]) (λz w'=>z<=ls.length/\O1 [] w2 w'/\Up sz (pv (ls.map (·.1)) z) (ls.drop z)=Up sz none ls) (λz=>ls.length - z) ol 0 La
  ⟨Lo _,O1.Z _ _,U⟩ ?_
 rintro k g w3 ⟨hk,O,G⟩;have hb:=H.D O;have hq:=V.I O;have h2:=Y.I O;have hr:=hl.I hb;have hs:=hS.I hb;refine Qc<|Q0 U U<|xe<|Qd<|QH U (λhf=>?_) (λhf=>?_)
 ·refine Qz ?_;have h3:ls.length<=k:=by have h4:¬(k:Int)<(ls.length:Int):=hf;omega
  rw[Lp h3]at G;refine Qc<|Qb<|Qk ⟨[_],La,by rw[<-G];rfl,hb⟩
 have S:k<ls.length:=by have h4:(k:Int)<(ls.length:Int):=hf;omega
 rw[QcP S]at G;refine Qh<|Qd<|Qg<|Qm<|O4 Y7 hr U U S λhJ ht=>?_;refine Zo (ls[k]'S) λe he=>?_;rw[he]at ht G;refine x (Qx ht U U)<|Qe<|Qo (us:=[oE oF 0,oE oF 0]) U λb6 w4 h5 h6 J=>x Ql<|Qe<|Qj (us:=QN e) J U U U U oz λw5 h7 J=>xe ?_;have I:O1 [] w3 w5:=h5.O h7 h6;have hu:=O.D I;refine Qg<|Za (α:=Bool) [(19,30)] (λz=>[(19,.bool z)]) (λz w'=>w'=w5/\z=decide (e.1<0\/(sz.length:Int)<=e.1)) ol ?_ ?_
 ·refine Qw<|Qs U J U U<|xb (YP U U) (λh8=>?_) (λh8=>?_)
  ·refine Qa<|Qp<|Qp<|Qp<|Qp<|Qp<|Qp<|QG U<|Qb<|⟨_,La,U,by first|exact bT oa|exact bF oa|exact bD oa⟩
  refine Qa<|Qs U J U U<|Qs U (hq.I I) U U<|QI (hs.I I) U<|x (Yw U U) <|
   QG rfl<|Qb<|⟨_,La,U,by first|exact bT oa|exact bF oa|exact bD oa⟩
 rintro z g w6 ⟨rfl,rfl⟩;refine QX rfl (λhg=>?_) (λhg=>?_)
 ·rw[OQ hg]at G;refine Qc<|Qb<|Qk ⟨[_],La,by rw[<-G];rfl,H.D hu⟩
 rw[OP hg]at G;have h9:e.1=((e.1.toNat:Nat):Int):=oa
 have hA:e.1.toNat<sz.length:=oa
 refine Za (α:=Bool) [(31,45)] (λz=>[(31,.bool z)]) (λz w'=>O1 [] w6 w'/\z=leO (pv (ls.map (·.1)) k) e.1) ol ?_ ?_
 ·refine ZI [] (Xx 0 15 [])<|p QF<|pb (λ_=>Yg U U) (λhh=>?_) (λhh=>?_)
  ·have hi:k≠0:=by have hB:(0:Int)<(k:Int):=hh;omega
   have hk1:((k:Int) - 1)=((k - 1:Nat):Int):=oa
   have hj:k - 1<ls.length:=oa
   refine p QF<|p (QR U)<|pq (λ_ E=>Qr (J.I E) U U)<|p (QR U)<|pq (λ_ E=>Qr ((h2.I I).I E) U U) <|
    p QF<|p (λ_=>Jo U U ⟨oa,oa⟩)<|Lg.pig (g:=QN) (i:=k - 1) U Y7 (hr.I I) U (OR (Value.int .i64) hk1) hj λhK hC=>p (λ_=>Zt U) <|
    pq (λ_ E=>QA ((hC.fld 0 _ U).I E) U)<|p (λ_=>KN U U)<|p (Xf U)<|p ZM<|pe ?_
   refine⟨_,La,O1.C _ _,?_⟩;have:pv (ls.map (·.1)) k=some (ls[k - 1]'hj).1:=by simp[pv,hi,hj]
   rw[this];rfl
  have hi:k=0:=by have hB:¬(0:Int)<(k:Int):=hh;omega
  refine p QF<|ps<|ps<|ps<|ps<|ps<|ps<|ps<|ps<|ps<|ps<|p (Xf U)<|p ZM<|pe ?_;exact⟨false,La,O1.C _ _,by simp[pv,hi,leO]⟩
 rintro z g w7 ⟨T,rfl⟩;have hv:=hu.D T;refine QQ rfl (λhm=>?_) (λhm=>?_)
 ·rw[OQ hm]at G;refine Qc<|Qb<|Qk ⟨[_],La,by rw[<-G];rfl,H.D hv⟩
 rw[OP (by simp[hm])]at G;have hn:=J.I T;refine Za (α:=Bool) [(46,60)] (λz=>[(46,.bool z)]) (λz w'=>O1 [] w7 w'/\z=decide (e.2<0\/O2 sz e.1.toNat<=e.2)) ol ?_ ?_
 ·refine ZI [] (Xx 0 15 [])<|p (QR U)<|pq (λ_ E=>Qr (hn.I E) U U)<|pb (λ_=>YP U U) (λhD=>?_) (λhD=>?_)
  ·refine p QF<|ps<|ps<|ps<|ps<|ps<|ps<|ps<|ps<|ps<|p (Xf U)<|p ZM<|pe ?_;exact⟨_,La,O1.C _ _,by first|exact bT oa|exact bF oa|exact bD oa⟩
  refine p QF<|p (QR U)<|pq (λ_ E=>Qr (hn.I E) U U)<|p (QR U)<|pq (λ_ E=>Qr (((hq.I I).I T).I E) U U) <|
   p (QR rfl)<|pq (λ_ E=>Qr (hn.I E) U U)<|pic (i:=e.1.toNat) U ((hs.I I).I T) U (OR (Value.int .i64) h9) hA λhL hE=>pq (λ_ E=>QA (hE.I E) U) <|
   p (λ_=>Yw U U)<|p (Xf U)<|p ZM<|pe ?_
  exact⟨_,La,O1.C _ _,by first|exact bT oa|exact bF oa|exact bD oa⟩
 rintro z g w8 ⟨hF,rfl⟩;have hw:=hv.D hF;refine QX rfl (λho=>?_) (λho=>?_)
 ·rw[OQ ho]at G;refine Qc<|Qb<|Qk ⟨[_],La,by rw[<-G];rfl,H.D hw⟩
 rw[OP ho]at G;refine Qh<|Qw<|QS U U<|Qa<|xe ?_;exact⟨k+1,oa,La,S,hw,G⟩
theorem QcO {sz:LI}{k:Nat}(h:k<ls.length):Kv sz (pv (ls.map (·.1)) k) (ls.drop k)=if(ls[k]'h).1<0\/(sz.length:Int)<=(ls[k]'h).1 then 2 else if leO (pv (ls.map (·.1)) k) (ls[k]'h).1=true then 5 else if(ls[k]'h).2=0\/grt (ls[k]'h).2=true then 2 else Kv sz (pv (ls.map (·.1)) (k+1)) (ls.drop (k+1)):=by
 rw[Zd h,K7 (oy h),LM];rfl
theorem VO {sz:LI}{nm:ByteArray}{bd:Int}(hS:QP [] w.heap vs sz)(hl:yz [] w.heap vl ls):
  Q3 prog 159 [.agg #[vs,vx,vk],.agg #[.string nm,vl,oE oF bd]] w λr w'=>r=oE oF (JU sz ⟨nm,ls,bd⟩)/\O1 [] w w':=by
 have hG:=hl.le;refine Zq func159 ?_;refine Qc<|Qe<|QW (us:=[vs,vx,vk]) U λb2 w1 h0 hH V=>Qe<|QW (us:=[.string nm,vl,oE oF bd]) U λb3 w2 hq hI Y=>Qb ?_;have G:=h0.D hq
 replace V:=V.I hq;refine Qd<|Qc<|Qs U Y U U<|QI (hl.I G) U<|x (QY U U)<|xe<|QX rfl (λha=>?_) (λha=>?_)
 ·refine Qc<|Qb<|Qk ⟨[_],La,by unfold JU;rw[OQ (by have h1:(ls.length:Int)=0:=ha;show ls.length=0;omega)];rfl,G⟩
 have h2:ls.length≠0:=by have h1:¬(ls.length:Int)=0:=ha;omega
 have h3:JU sz ⟨nm,ls,bd⟩=if Kv sz none ls≠0 then Kv sz none ls else if grt bd=true then 2 else 0:=by unfold JU;rw[OP h2]
 rw[h3];refine Qh<|Qd<|Qc<|Qs U Y U U<|QI (hl.I G) U<|Qa<|xe<|Qg<|QD (α:=Nat) [(4,6),(14,55)] (λz=>[(14,oE oF z)]) (λz w'=>z<=ls.length/\O1 [] w2 w'/\Kv sz (pv (ls.map (·.1)) z) (ls.drop z)=Kv sz none ls) (λz=>ls.length - z) ol 0 La
  ⟨Lo _,O1.Z _ _,U⟩ ?_
 rintro k g w3 ⟨hk,O,E⟩;have S:=G.D O;have h4:=V.I O;have hr:=Y.I O;have hs:=hl.I S;have h5:=hS.I S;refine Qc<|Q0 U U<|xe<|Qd<|QH U (λhb=>?_) (λhb=>?_)
 ·refine Qz ?_;have h6:ls.length<=k:=by have h7:¬(k:Int)<(ls.length:Int):=hb;omega
  rw[Lp h6]at E;have h8:Kv sz none ls=0:=E.symm;rw[h8,OP (λh=>h rfl)];refine Qd<|Qc<|Qs U hr U U<|QM<|(Qbi bd _).mono ?_;rintro r4 w4 ⟨rfl,rfl⟩;refine xe<|QQ U (λhf=>?_) (λhf=>?_)
  ·rw[OQ hf];refine Qc<|Qb<|Qk ⟨[_],La,U,S⟩
  rw[OP (by simp[hf])];refine Qh<|Qc<|Qb<|Qk ⟨[_],La,U,S⟩
 have T:k<ls.length:=by have h7:(k:Int)<(ls.length:Int):=hb;omega
 rw[QcO T]at E;refine Qh<|Qd<|Qg<|Qm<|O4 Y7 hs U U T λhJ ht=>?_;refine Zo (ls[k]'T) λe he=>?_;rw[he]at ht E;refine x (Qx ht U U)<|Qe<|Qo (us:=[oE oF 0,oE oF 0]) U λb6 w4 h9 hA H=>x Ql<|Qe<|Qj (us:=QN e) H U U U U oz λw5 hB H=>xe ?_;have I:O1 [] w3 w5:=h9.O hB hA;have hu:=O.D I;refine Qg<|Za (α:=Bool) [(19,30)] (λz=>[(19,.bool z)]) (λz w'=>w'=w5/\z=decide (e.1<0\/(sz.length:Int)<=e.1)) ol ?_ ?_
 ·refine Qw<|Qs U H U U<|xb (YP U U) (λhC=>?_) (λhC=>?_)
  ·refine Qa<|Qp<|Qp<|Qp<|Qp<|Qp<|Qp<|QG U<|Qb<|⟨_,La,U,by first|exact bT oa|exact bF oa|exact bD oa⟩
  refine Qa<|Qs U H U U<|Qs U (h4.I I) U U<|QI (h5.I I) U<|x (Yw U U) <|
   QG rfl<|Qb<|⟨_,La,U,by first|exact bT oa|exact bF oa|exact bD oa⟩
 rintro z g w6 ⟨rfl,rfl⟩;refine QX rfl (λhh=>?_) (λhh=>?_)
 ·rw[OQ hh]at E;refine Qc<|Qb<|Qk ⟨[_],La,by rw[<-E,OQ og];rfl,G.D hu⟩
 rw[OP hh]at E;refine Za (α:=Bool) [(31,45)] (λz=>[(31,.bool z)]) (λz w'=>O1 [] w6 w'/\z=leO (pv (ls.map (·.1)) k) e.1) ol ?_ ?_
 ·refine ZI [] (Xx 0 15 [])<|p QF<|pb (λ_=>Yg U U) (λhi=>?_) (λhi=>?_)
  ·have hj:k≠0:=by have hD:(0:Int)<(k:Int):=hi;omega
   have hk1:((k:Int) - 1)=((k - 1:Nat):Int):=oa
   have hm:k - 1<ls.length:=oa
   refine p QF<|p (QR U)<|pq (λ_ J=>Qr (H.I J) U U)<|p (QR U)<|pq (λ_ J=>Qr ((hr.I I).I J) U U) <|
    p QF<|p (λ_=>Jo U U ⟨oa,oa⟩)<|Lg.pig (g:=QN) (i:=k - 1) U Y7 (hs.I I) U (OR (Value.int .i64) hk1) hm λhK hE=>p (λ_=>Zt U) <|
    pq (λ_ J=>QA ((hE.fld 0 _ U).I J) U)<|p (λ_=>KN U U)<|p (Xf U)<|p ZM<|pe ?_
   refine⟨_,La,O1.C _ _,?_⟩;have:pv (ls.map (·.1)) k=some (ls[k - 1]'hm).1:=by simp[pv,hj,hm]
   rw[this];rfl
  have hj:k=0:=by have hD:¬(0:Int)<(k:Int):=hi;omega
  refine p QF<|ps<|ps<|ps<|ps<|ps<|ps<|ps<|ps<|ps<|ps<|p (Xf U)<|p ZM<|pe ?_;exact⟨false,La,O1.C _ _,by simp[pv,hj,leO]⟩
 rintro z g w7 ⟨hv,rfl⟩;have hw:=hu.D hv;refine QQ rfl (λhn=>?_) (λhn=>?_)
 ·rw[OQ hn]at E;refine Qc<|Qb<|Qk ⟨[_],La,by rw[<-E,OQ og];rfl,G.D hw⟩
 rw[OP (by simp[hn])]at E;have hy:=H.I hv;refine Za (α:=Bool) [(46,54)] (λz=>[(46,.bool z)]) (λz w'=>O1 [] w7 w'/\z=decide (e.2=0\/grt e.2=true)) ol ?_ ?_
 ·refine Qw<|Qs U hy U U<|xb (QY U U) (λho=>?_) (λho=>?_)
  ·refine Qa<|Qp<|Qp<|Qp<|QG U<|Qb<|⟨_,La,O1.Z _ _,bT (.inl ho)⟩
  refine Qa<|Qs U hy U U<|QM<|(Qbi e.2 _).mono ?_;rintro r9 w9 ⟨rfl,rfl⟩;refine QG U<|Qb<|⟨grt e.2,La,O1.Z _ _,?_⟩;cases hg:grt e.2 with
  | true=>exact bT (.inr U)
  | false=>exact bF (λh=>by rcases h with h|h;exact ho h;cases h)
 rintro z g w8 ⟨hF,rfl⟩;have hz:=hw.D hF;refine QX rfl (λhp=>?_) (λhp=>?_)
 ·rw[OQ hp]at E;refine Qc<|Qb<|Qk ⟨[_],La,by rw[<-E,OQ og];rfl,G.D hz⟩
 rw[OP hp]at E;refine Qh<|Qw<|QS U U<|Qa<|xe ?_;exact⟨k+1,oa,La,T,hz,E⟩
open Go.RowKit
def Qb5:Fr->LN->LV->Fr
 | f,p::ps,v::vs=>Qb5 (upd f p v) ps vs
 | f,_,_=>f
theorem UG {n:Nat}{ds:LN}:∀(ps:LN) (vs:LV) (a:Act) (f:Fr),Y5 n ds a f->(∀p∈ps,p<n) ->
  Y5 n ds { tmps:=(ps.zip vs).foldl (λt (x:Nat×OY)=>t.setIfInBounds x.1 x.2) a.tmps,defers:=a.defers } (Qb5 f ps vs)
 | [],_,a,f,h,_=>by cases h;exact⟨by assumption,by assumption,by assumption⟩
 | p::ps,[],a,f,h,_=>by cases h;exact⟨by assumption,by assumption,by assumption⟩
 | p::ps,v::vs,a,f,h,E=>by
  have G:=h.put (dst:=some p) (λd e=>by cases e;exact E p Lq) v;exact UG ps vs _ _ G (λq H=>E q (Lj _ H))
def rdE {α:Type}(B:Nat)(L:LN)(I:List α->OX->Prop)(X:Exit->List α->OX->Prop)(xs:List α)(W:OX):Exit->LN->Fr->OX->Prop
 | .normal,_,_,W'=>Ks B L W W'/\I xs W'
 | .ret,_,_,W'=>Ks B L W W'/\X .ret xs W'
 | .exit i,_,_,W'=>Ks B L W W'/\X (.exit i) xs W'
 | _,_,_,_=>False
theorem Qjh {m:Nat}{Q:Exit->LN->Fr->OX->Prop}{g:OZ}{ps:LN}{assign body:Code}(L:LN)(h1:1<=m)
    [hF:Fu P gf fn]  (hg:ev f g=.func (.func gf) #[] capt.toArray) {encs:α->LV} {S Sp:List α->Prop}  (hp:∀p∈ps,p<n) (hj:∀x,(encs x).length=ps.length)
  (hm:SeqStopsK (fen none) (m - 1) P gf capt.toArray (λx=>(encs x).toArray) (Lw w.heap.size L) S Sp N w)
  (I:List α->OX->Prop) (hI:∀s,Yt w.heap.size (I s)) (X:Exit->List α->OX->Prop) (hX:∀e s,Yt w.heap.size (X e s)) (h0:I [] w) (A:Fr->α->Fr->OX->Prop) (hA:∀x E,Yt w.heap.size (A f x E))
  (hc:∀l pre x W,I pre W->WG (some l) (m - 1 - 1) P n assign (Qb6 (λhb E W'=>hb=[]/\Ks w.heap.size L W W'/\I pre W'/\A f x E W') (λ_ _ _ _=>False)) [] (Qb5 f ps (encs x)) W)
  (he:∀l pre x E W,I pre W->A f x E W->pre.length<N->WG (some l) (m - 1 - 1) P n body (rdE w.heap.size L I X (pre++[x]) W) [] E W)
  (hn:∀D xs W,w.heap.size<=D->S xs->I xs W->W.heap[D]?=some (.deferred (some []))->Q .normal (D::ds) f W)
  (hf:∀D e pre W,w.heap.size<=D->Sp pre->X e pre W->W.heap[D]?=some (.deferred (some []))->(e=.ret\/∃i,e=.exit i)->Q e (D::ds) f W):
  WG none m P n (.rangeFunc g ps.toArray assign body) Q ds f w:=by
 unfold WG at hc he ⊢;intro a J;have eg:∀args w,(callFunc gf args).run P w=.ok (.enter gf args) w:=by
  intro args w;have h1:¬fn.name = "runtime.NumGoroutine" := by simpa using hF.nm
  have O:¬fn.body=none:=by have:=hF.b;intro e;rw[e]at this;cases this
  simp[callFunc,hF.f,h1,O]
 have keep:∀{W W':OX},Ks w.heap.size L W W'->KeepsFrom w.heap.size W W':=λh=>⟨h.lw.size,λk o _ hk ho=>h.other k o hk ho⟩;refine wpIn_rangeFunc_ownH (F:=fen none) U h1 (gf:=gf) (lb:=capt.toArray) (by rw[J.eval];exact hg) Z eg hm (λh k=>h.D k)
  (λW l o o' hl ho _ _=>⟨U,U,U,oe,λk hk _=>World.putObj_heap_other oa⟩) (Below.refl _ _) (λx=>by simp[hj x]) I
  (λc pre W=>match c with| .ret=>X .ret pre W| .exit i=>X (.exit i) pre W|_=>False) (Yt.own hI) (λc=>Yt.own λs=>?_) h0
  (λx T W=>∃E,Y5 n [] T E/\A f x E W) (λx T=>Yt.own λ_=>Yt.ex λE=>Yt.and (Yt.pure _) (hA x E)) ?_ ?_ ?_ ?_
 ·cases c <;> first|exact hX _ s|exact Yt.pure _
 ·intro l pre x W K hi hK;have hr:Y5 n [] { tmps:=(ps.toArray.zip (encs x).toArray).foldl (λt (p,v)=>t.setIfInBounds p v) a.tmps,defers:=[] } (Qb5 f ps (encs x)):=by
   have O:Y5 n [] { a with defers:=[] } f:=⟨J.size,U,J.get⟩
   have H:=UG ps (encs x) _ _ O hp;have e:(ps.toArray.zip (encs x).toArray).foldl (λt (p,v)=>t.setIfInBounds p v) a.tmps=(ps.zip (encs x)).foldl (λt (x:Nat×OY)=>t.setIfInBounds x.1 x.2) a.tmps:=oe
   rw[e];exact H
  refine wpIn_mono (hc l pre x W hi _ hr) ?_;rintro e T W' ⟨hb,E,O,_,H⟩;cases e with
  | normal=>obtain⟨rfl,h4,G,h6⟩:=H;exact hK T W' (keep h4) h4.lw G ⟨E,O,h6⟩
  | exit id=>exact H.elim
  | goto l=>exact H.elim
  | ret=>exact H.elim
  | panic ch=>exact H.elim
  | outgrown=>exact H.elim
 ·rintro l pre x T W _ _ hi ⟨E,O,H⟩ hq;refine wpIn_mono (he l pre x E W hi H hq T O) ?_;rintro e hs W' ⟨hb,ht,h4,_,G⟩;cases e with
  | normal=>exact⟨keep G.1,G.1.lw,G.2⟩
  | exit id=>exact⟨keep G.1,G.2⟩
  | goto l=>exact G.elim
  | ret=>exact⟨keep G.1,G.2⟩
  | panic ch=>exact G.elim
  | outgrown=>exact G.elim
 ·intro D xs W V Y hi hd;exact⟨D::ds,f,⟨J.size,by rw[show coll (D::ds)={ target:=.collected D,args:=#[] }::coll ds from rfl,J.defers],J.get⟩,λ_ _=>rfl,hn D xs W V Y hi hd⟩
 intro D c pre W V Y hx hd;have hh:Y5 n (D::ds) { a with defers:={ target:=.collected D,args:=#[] }::a.defers } f:=⟨J.size,by rw[show coll (D::ds)={ target:=.collected D,args:=#[] }::coll ds from rfl,J.defers],J.get⟩
 cases c with
 | ret=>exact wpIn_ret ⟨_,f,hh,λ_ _=>U,hf D .ret pre W V Y hx hd (.inl U)⟩
 | exit i=>exact wpIn_exit ⟨_,f,hh,λ_ _=>U,hf D (.exit i) pre W V Y hx hd (.inr ⟨i,U⟩)⟩
 | _=>exact hx.elim
theorem jg {α:Type}(g:α->LV)(sz:Nat)(E:∀x,(g x).length=sz):∀(l:List α) (k:Nat),(l.flatMap g).take (k*sz)=(l.take k).flatMap g
 | [],k=>oe
 | e::l,0=>oe
 | e::l,k+1=>by
  simp only[Oa,List.take_succ_cons,Oj,Nat.one_mul];rw[M4,List.take_append,E,show sz+k*sz - sz=k*sz by omega,jg g sz E l k,Lr (by rw[E];omega)]
theorem Qdx [Fu prog gf fn]{nms:List ByteArray}{s:ByteArray}(hk:J0 s)
  (hl:∀(w':OX) (L:LN),O1 [] w w'->(∀b∈L,w.heap.size<=b)->SeqStopsK (fen none) 9 prog gf capt.toArray (λx:{ x:ByteArray // x∈nms }=>[Value.string x.1].toArray) (Lw w'.heap.size L) (λys=>ys.map (·.1)=nms) (λ_=>True) N w'):
  Q3 prog 156 [.string s,.func (.func gf) #[] capt.toArray] w λr w'=>r=oE oF (KY nms s)/\O1 [] w w':=by
 refine Q3.of_G 10 func156 U ntmps156 results156 oe ?_;refine Zg<|QL ol ol<|Qe<|QW (us:=[.string s]) U λb2 w1 ho hs hh=>Qe<|Qo (us:=[oE oF 0]) U λJ w2 hi ht hf=>xe ?_;have Y:=ho.D hi;have hu:=hf.lt;have hj:=hh.I hi;have hv:=hh.lt;refine Zg<|Zg<|QL ol ol<|X2 hj U U<|ZO<|(Vi s hk _).mono ?_;rintro r3 w3 ⟨rfl,rfl⟩;refine x (ZC U)<|xe<|VR rfl (λh8=>?_) (λh8=>?_)
 ·have hn:JE s=false:=by simpa using h8
  have hr:KY nms s=7:=by unfold KY;rw[OQ hn]
  refine Zg<|QL ol ol<|Qe<|QE (j:=0) (u:=oE oF 7) hf U U og U λw4 T ha=>xe ?_;refine K5 ⟨λ_ h=>(by cases h),ME,[oE oF 7],λW' O=>⟨⟨⟨_,rfl,Xc (At.one ((ha.I O).at (L:=[]) oe))⟩,Z⟩,by rw[hr];rfl,(Y.O T oa).D O⟩⟩
 have hn:¬JE s=false:=by simpa using h8
 refine YG<|Zg<|Zg<|QL ol ol<|Qa<|xe<|Z7<|Qjh (α:={ x:ByteArray // x∈nms }) (ps:=[10]) [J] oa (capt:=capt) U (encs:=λx=>[.string x.1]) oe (λ_=>rfl)
  (hl w3 [J] Y (λb G=>by simp at G;omega))
  (λpre W=>O1 [J] w3 W/\Q9 W.heap b2 9 [.string s]/\Q9 W.heap J 47 [oE oF 0]/\∀x∈pre,x.1≠s)
  (λpre=>(Yt.J (Lv _)).and (Yt.blk.and (Yt.blk.and (Yt.pure _))))
  (λe pre W=>e=.ret/\O1 [J] w3 W/\Q9 W.heap J 47 [oE oF 8]/\s∈nms)
  (λe pre=>(Yt.pure _).and ((Yt.J (Lv _)).and (Yt.blk.and (Yt.pure _))))
  ⟨O1.Z _ _,hj,hf,λx hx=>by cases hx⟩
  (λf x f' W=>f'=upd (Qb5 f [10] [.string x.1]) 5 (.string x.1)) (λx f'=>Yt.pure _) ?_ ?_ ?_ ?_
 ·rintro l pre x W ⟨H,h2,I,V⟩;refine QL ol ol<|Lg.Qb<|⟨U,Ks.refl _ _ _,⟨H,h2,I,V⟩,U⟩
 ·rintro l pre x f' W ⟨H,h2,I,V⟩ rfl _;refine Z7<|Zg<|QL ol ol<|Lg.Qa<|Lg.x (Qr h2 U U)<|Lg.x (Xt U U)<|xe<|QlM U (λhg=>?_) (λhg=>?_)
  ·refine Zg<|QL ol ol<|Qe<|QE (j:=0) (u:=oE oF 8) I U U og U λw4 T ha=>xe ?_;refine K5 ?_;exact⟨Ks.blk T H.size I (.inl oe),rfl,H.Q T,ha,by rw[<-hg];exact x.2⟩
  refine YG<|⟨Ks.refl _ _ _,H,h2,I,λy S=>?_⟩;rcases Lc.1 S with S|S
  ·exact V y S
  simp only[oH]at S;subst S;exact hg
 ·rintro D xs W hD hp ⟨H,h2,I,V⟩ hc;have hr:KY nms s=0:=by
   unfold KY;rw[OP hn,OP];intro hm;rw[<-hp]at hm;obtain⟨y,S,e⟩:=LC.1 hm;exact V y S e
  refine Zg<|QL ol ol<|Qe<|QE (j:=0) (u:=oE oF 0) I U U og U λw4 T ha=>xe ?_;have he:D≠J:=oa
  have hq:w4.heap[D]?=some (.deferred (some [])):=by rw[T.block D (LO.1 hc).1 (oy he)];exact hc
  refine K5 ⟨λE hE=>by simp only[oH]at hE;subst hE;exact hq,oe,[oE oF 0],λW' O=>?_⟩;refine⟨⟨⟨_,U,Xc (At.one ((ha.J O (oy he.symm)).at (L:=[]) oe))⟩,Z⟩,by rw[hr];rfl,?_⟩;exact((Y.then H (λb G=>.inr (by simp at G;omega))).O T oa).then O (λb G=>.inr (by simp at G;have:=Y.size;omega))
 rintro D e pre W hD _ ⟨rfl,H,I,V⟩ hc _;have hr:KY nms s=8:=by unfold KY;rw[OP hn,OQ V]
 have he:D≠J:=oa
 refine⟨λE hE=>by simp only[oH]at hE;subst hE;exact hc,oe,[oE oF 8],λW' O=>?_⟩;refine⟨⟨⟨_,U,Xc (At.one ((I.J O (oy he.symm)).at (L:=[]) oe))⟩,Z⟩,by rw[hr];rfl,?_⟩;exact(Y.then H (λb G=>.inr (by simp at G;omega))).then O (λb G=>.inr (by simp at G;have:=Y.size;omega))
theorem JG.pre3 {m:Nat}{o1 o2 o3:Oper}{l2:xx}(h:XL P ops (λf w=>JG P m ops K l2 f w) [o1,o2,o3] f w):JG P m ops K (o1::o2::o3::l2) f w:=JG.pre [o1,o2,o3] f w h
theorem Qh0 {m:Nat}{qs:List XV}{nms:List ByteArray}(ho:Q9 w.heap b1 206 [vs,vx,vk])(hp:Q9 w.heap b2 3 [oE oF i])(Y:yp L w.heap vx qs)(hi:i<=qs.length)(hn:nms=(qs.take i).map (·.nm)):
  SeqStopsK (fen none) m prog 155 #[.pointer (some ⟨b1,0,none⟩),.pointer (some ⟨b2,0,none⟩)] (λx:{ x:ByteArray // x∈nms }=>[Value.string x.1].toArray) (Lw w.heap.size L)
   (λys=>ys.map (·.1)=nms) (λ_=>True) (nms.length+1) w:=by
 intro l J Jx W hr hJ hs hY h0;have ha:O1 [] w W:=O1.of_below hr;have ab:∀{ys:List { x:ByteArray // x∈nms }} {W1 W2:OX},J ys W1->O1 [] W1 W2->J ys W2:=λ{ys W1 W2} hj H=>hJ ys W1 W2 none hj ⟨H.os,H.tape,H.output,H.size,λk I _=>H.block k I oe⟩ (λr e=>by cases e);have h8:=Y.arr.le;have h9:nms.length=i:=by rw[hn];simp;omega
 have key:Q3 prog 155 [.func (.yield l) #[] #[],.pointer (some ⟨b1,0,none⟩),.pointer (some ⟨b2,0,none⟩)] W (λ_ W'=>(∃ys,ys.map (·.1)=nms/\J ys W')\/(∃pre,True/\Jx pre W')):=by
  refine Q3.of_G m func155 U ntmps155 results155 oe ?_;have ht:=ho.I ha;have hu:=hp.I ha;refine Zg<|QL ol ol<|Qs U ht U U<|X2 hu U U<|Qmf Y.arr U U hi λv9 hg=>QI hg U<|Qa<|xe ?_;have hv:(qs.take i).length=i:=by simp;omega
  have hS:Zm L w.heap v9 (qs.take i).length 2 ((qs.take i).flatMap Q8):=by
   rw[hv,<-jg Q8 2 Xq];exact hg
  refine Z7<|U4 (α:=Nat×List { x:ByteArray // x∈nms }) [(5,5),(11,20)] (λz=>[(11,oE oF z.1)]) (λz ds W'=>ds=[]/\z.1<=i/\O1 L w W'/\z.2.map (·.1)=nms.take z.1/\J z.2 W') (λz=>i - z.1) ol (0,[]) La
   ⟨U,Lo _,ha.any,U,h0⟩ ?_
  rintro⟨k,ys⟩ g ds w1 ⟨rfl,I,hh,O,hb⟩;simp only[]at I O hb;refine Zg<|QL ol ol<|Q0 U U<|xe<|Zg<|jH U (λhl=>?_) (λhl=>?_)
  ·refine K6 ?_;rw[Lr oa]at O;exact⟨λ_ h=>(by cases h),ME,[],λW' E=>⟨Z,.inl ⟨ys,O,ab hb E⟩⟩⟩
  refine YG ?_;have hw:k<i:=by have hc:(k:Int)<(i:Int):=hl;omega
  have T:k<(qs.take i).length:=oa
  have V:k<nms.length:=oa
  have hf:nms.take (k+1)=nms.take k++[nms[k]'V]:=Lm V;have hA:ys.length=k:=by have:=OR oO O;rw[Lh,Ly]at this;omega
  have hy:nms[k]'V=((qs.take i)[k]'T).nm:=by subst hn;simp
  have S:=Lk V;rw[hy]at hf S;refine Zg<|Z7<|Zg<|QL ol ol<|O4 Xq (i:=k) (hS.st hh) U U T λhB hc=>?_;refine Zo ((qs.take i)[k]'T) λq hq=>?_;rw[hq]at hc hf S;have hz:=(Y.each q (LZ (by rw[<-hq];exact Lk T))).one;refine x (Qx hc U U)<|Qe<|Qo (us:=[.string .empty,nS]) U λb5 w2 h2 h3 h4=>Qe<|Qj (us:=Q8 q) h4 U U U U ⟨U,hz,Z⟩ λw3 h5 h6=>xe ?_;have hm:O1 [] w1 w3:=h2.O h5 h3;refine Zg<|Vj ol ?_;refine JG.pre3 ?_;refine Qa<|Qs U h6 U U<|xe<|xy (l:=l) U (hY ys ⟨q.nm,S⟩ w3 (ab hb hm) oa) λen W3 h7=>Or.elim h7 (λG=>⟨.bool true,G.1,?_⟩) (λG=>⟨.bool false,G.1,?_⟩)
  ·refine JG.of_XL<|x (ZC U)<|xe<|Vk U<|YG ?_;refine QL ol ol<|QS U U<|Qa<|xe ?_;exact⟨(k+1,ys++[⟨q.nm,S⟩]),oh,La,U,hw,(hh.D hm).lw G.2.2,by rw[hf,Lt,O];rfl,G.2.1⟩
  refine JG.of_XL<|x (ZC U)<|xe<|Qar U ?_;refine K5 ⟨λ_ h=>(by cases h),ME,[],λW' E=>⟨Z,.inr ⟨ys++[⟨q.nm,S⟩],Z,?_⟩⟩⟩;exact hs _ W3 W' none G.2 ⟨E.os,E.tape,E.output,E.size,λk I _=>E.block k I oe⟩ (λr e=>by cases e)
 refine(callsIn_wide (n:=m)).2 ?_;have ea:(#[.func (.yield l) #[] #[]]++[.pointer (some ⟨b1,0,none⟩),.pointer (some ⟨b2,0,none⟩)].toArray:Array OY)=#[.func (.yield l) #[] #[],.pointer (some ⟨b1,0,none⟩),.pointer (some ⟨b2,0,none⟩)]:=oe
 rw[ea];unfold Q3 at key;refine Calls.mono key λe w' he=>?_;cases e with
 | returned v=>exact⟨⟨v,U⟩,he⟩
 | panicked c=>exact he.elim
 | outgrown=>exact he.elim
theorem Qit {m:Nat}{qs:List KV}{nms:List ByteArray}(ho:Q9 w.heap b1 206 [vs,vx,vk])(hp:Q9 w.heap b2 3 [oE oF i])(Y:yB L w.heap vk qs)(hi:i<=qs.length)(hn:nms=(qs.take i).map (·.nm)):
  SeqStopsK (fen none) m prog 158 #[.pointer (some ⟨b1,0,none⟩),.pointer (some ⟨b2,0,none⟩)] (λx:{ x:ByteArray // x∈nms }=>[Value.string x.1].toArray) (Lw w.heap.size L)
   (λys=>ys.map (·.1)=nms) (λ_=>True) (nms.length+1) w:=by
 intro l J Jx W hr hJ hs hY h0;have ha:O1 [] w W:=O1.of_below hr;have ab:∀{ys:List { x:ByteArray // x∈nms }} {W1 W2:OX},J ys W1->O1 [] W1 W2->J ys W2:=λ{ys W1 W2} hj H=>hJ ys W1 W2 none hj ⟨H.os,H.tape,H.output,H.size,λk I _=>H.block k I oe⟩ (λr e=>by cases e);have h8:=Y.arr.le;have h9:nms.length=i:=by rw[hn];simp;omega
 have key:Q3 prog 158 [.func (.yield l) #[] #[],.pointer (some ⟨b1,0,none⟩),.pointer (some ⟨b2,0,none⟩)] W (λ_ W'=>(∃ys,ys.map (·.1)=nms/\J ys W')\/(∃pre,True/\Jx pre W')):=by
  refine Q3.of_G m func158 U ntmps158 results158 oe ?_;have ht:=ho.I ha;have hu:=hp.I ha;refine Zg<|QL ol ol<|Qs U ht U U<|X2 hu U U<|Qmf Y.arr U U hi λv9 hg=>QI hg U<|Qa<|xe ?_;have hv:(qs.take i).length=i:=by simp;omega
  have hS:Zm L w.heap v9 (qs.take i).length 3 ((qs.take i).flatMap Q5):=by
   rw[hv,<-jg Q5 3 Xg];exact hg
  refine Z7<|U4 (α:=Nat×List { x:ByteArray // x∈nms }) [(5,5),(11,20)] (λz=>[(11,oE oF z.1)]) (λz ds W'=>ds=[]/\z.1<=i/\O1 L w W'/\z.2.map (·.1)=nms.take z.1/\J z.2 W') (λz=>i - z.1) ol (0,[]) La
   ⟨U,Lo _,ha.any,U,h0⟩ ?_
  rintro⟨k,ys⟩ g ds w1 ⟨rfl,I,hh,O,hb⟩;simp only[]at I O hb;refine Zg<|QL ol ol<|Q0 U U<|xe<|Zg<|jH U (λhl=>?_) (λhl=>?_)
  ·refine K6 ?_;rw[Lr oa]at O;exact⟨λ_ h=>(by cases h),ME,[],λW' E=>⟨Z,.inl ⟨ys,O,ab hb E⟩⟩⟩
  refine YG ?_;have hw:k<i:=by have hc:(k:Int)<(i:Int):=hl;omega
  have T:k<(qs.take i).length:=oa
  have V:k<nms.length:=oa
  have hf:nms.take (k+1)=nms.take k++[nms[k]'V]:=Lm V;have hA:ys.length=k:=by have:=OR oO O;rw[Lh,Ly]at this;omega
  have hy:nms[k]'V=((qs.take i)[k]'T).nm:=by subst hn;simp
  have S:=Lk V;rw[hy]at hf S;refine Zg<|Z7<|Zg<|QL ol ol<|O4 Xg (i:=k) (hS.st hh) U U T λhB hc=>?_;refine Zo ((qs.take i)[k]'T) λq hq=>?_;rw[hq]at hc hf S;have hz:=(Y.each q (LZ (by rw[<-hq];exact Lk T))).one;refine x (Qx hc U U)<|Qe<|Qo (us:=[.string .empty,nS,oE oF 0]) U λb5 w2 h2 h3 h4=>Qe<|Qj (us:=Q5 q) h4 U U U U ⟨U,hz,U,Z⟩ λw3 h5 h6=>xe ?_;have hm:O1 [] w1 w3:=h2.O h5 h3;refine Zg<|Vj ol ?_;refine JG.pre3 ?_;refine Qa<|Qs U h6 U U<|xe<|xy (l:=l) U (hY ys ⟨q.nm,S⟩ w3 (ab hb hm) oa) λen W3 h7=>Or.elim h7 (λG=>⟨.bool true,G.1,?_⟩) (λG=>⟨.bool false,G.1,?_⟩)
  ·refine JG.of_XL<|x (ZC U)<|xe<|Vk U<|YG ?_;refine QL ol ol<|QS U U<|Qa<|xe ?_;exact⟨(k+1,ys++[⟨q.nm,S⟩]),oh,La,U,hw,(hh.D hm).lw G.2.2,by rw[hf,Lt,O];rfl,G.2.1⟩
  refine JG.of_XL<|x (ZC U)<|xe<|Qar U ?_;refine K5 ⟨λ_ h=>(by cases h),ME,[],λW' E=>⟨Z,.inr ⟨ys++[⟨q.nm,S⟩],Z,?_⟩⟩⟩;exact hs _ W3 W' none G.2 ⟨E.os,E.tape,E.output,E.size,λk I _=>E.block k I oe⟩ (λr e=>by cases e)
 refine(callsIn_wide (n:=m)).2 ?_;have ea:(#[.func (.yield l) #[] #[]]++[.pointer (some ⟨b1,0,none⟩),.pointer (some ⟨b2,0,none⟩)].toArray:Array OY)=#[.func (.yield l) #[] #[],.pointer (some ⟨b1,0,none⟩),.pointer (some ⟨b2,0,none⟩)]:=oe
 rw[ea];unfold Q3 at key;refine Calls.mono key λe w' he=>?_;cases e with
 | returned v=>exact⟨⟨v,U⟩,he⟩
 | panicked c=>exact he.elim
 | outgrown=>exact he.elim
theorem zR {sz:LI}{qx:List XV}{ks:List KV}(hS:QP [] w.heap vs sz)(hX:yp [] w.heap vx qx)(hK:yB [] w.heap vk ks):
  Q3 prog 84 [.agg #[vs,vx,vk]] w λr w'=>r=oE oF (YB sz (qx.map (·.x)) (ks.map (·.k)))/\O1 [] w w':=by
 have hW:=hS.le;have hY:=hX.arr.le;have hZ:=hK.arr.le;refine Zq func84 ?_;refine Qc<|Qe<|QW (us:=[vs,vx,vk]) U λb1 w1 G ga T=>Qb<|Qd<|Qc<|Qs U T U U<|QI (hS.I G) U<|x (Yg U U)<|xe<|QX rfl (λh0=>?_) (λh0=>?_)
 ·refine Qc<|Qb<|Qk ⟨[_],La,by unfold YB;rw[OQ (by have hO:(8:Int)<(sz.length:Int):=h0;omega)];rfl,G⟩
 have hy:¬8<sz.length:=by have hO:¬(8:Int)<(sz.length:Int):=h0;omega
 refine Qh<|Qd<|Qc<|Qs U T U U<|QI (hS.I G) U<|Qa<|xe<|Qg<|QD (α:=Nat) [(2,2),(4,4),(22,32)] (λz=>[(22,oE oF z)]) (λz w'=>z<=sz.length/\w'=w1/\(sz.drop z).any K2=sz.any K2) (λz=>sz.length - z) ol 0 La
  ⟨Lo _,U,U⟩ ?_
 rintro k g w2 ⟨hk,rfl,ha⟩;refine Qc<|Q0 U U<|xe<|Qd<|QH U (λh1=>?_) (λh1=>?_)
 ·refine Qz ?_;have hj:sz.length<=k:=by have hz:¬(k:Int)<(sz.length:Int):=h1;omega
  rw[Lp hj]at ha;have h2:¬sz.any K2=true:=by rw[<-ha];decide
  refine Qd<|Za (α:=Bool) [(33,42)] (λz=>[(42,.bool z)]) (λz w'=>w'=w2/\z=decide (32<qx.length\/32<ks.length)) ol ?_ ?_
  ·refine Qw<|Qs U T U U<|QI (hX.I G).arr U<|xb (Yg U U) (λhP=>?_) (λhP=>?_)
   ·refine Qa<|Qp<|Qp<|Qp<|Qp<|QG U<|xe ?_;exact⟨_,La,U,by first|exact bT oa|exact bF oa|exact bD oa⟩
   refine Qa<|Qs U T U U<|QI (hK.I G).arr U<|x (Yg U U)<|QG U<|xe ?_;exact⟨_,La,U,by first|exact bT oa|exact bF oa|exact bD oa⟩
  rintro z g V ⟨rfl,rfl⟩;refine QX U (λh3=>?_) (λh3=>?_)
  ·refine Qc<|Qb<|Qk ⟨[_],La,by unfold YB;rw[OP hy,OP h2,OQ (oy h3)];rfl,G⟩
  have hJ:¬(32<(qx.map (·.x)).length\/32<(ks.map (·.k)).length):=by simpa using h3
  have hM:YA sz [] (qx.map (·.x))≠0->YB sz (qx.map (·.x)) (ks.map (·.k))=YA sz [] (qx.map (·.x)):=λh=>by
   unfold YB;rw[OP hy,OP h2,OP hJ,OQ h]
  have hQ:YA sz [] (qx.map (·.x))=0->YB sz (qx.map (·.x)) (ks.map (·.k))=Y8 sz [] (ks.map (·.k)):=λh=>by
   unfold YB;rw[OP hy,OP h2,OP hJ,OP (by rw[h];exact λh=>h U)]
  refine Qh<|Qd<|Qc<|Qs U (T.I (O1.Z [] V)) U U<|QI ((hX.I G).I (O1.Z [] V)).arr U<|Qa<|xe<|Qg<|QD (α:=Nat) [(2,2),(5,9),(46,65)] (λz=>[(46,oE oF z)]) (λz w'=>z<=qx.length/\O1 [] V w'/\YA sz ((qx.take z).map (·.nm)) ((qx.drop z).map (·.x))=YA sz [] (qx.map (·.x))) (λz=>qx.length - z) ol 0 La
   ⟨Lo _,(O1.Z [] V),U⟩ ?_
  rintro k g wA ⟨hk,H,I⟩;refine Qc<|Q0 U U<|xe<|Qd<|QH U (λhc=>?_) (λhc=>?_)
  ·refine Qz ?_;have hj:qx.length<=k:=by have h4:¬(k:Int)<(qx.length:Int):=hc;omega
   rw[Lp hj]at I;have hR:YA sz [] (qx.map (·.x))=0:=I.symm;have h5:=hQ hR;refine Qd<|Qc<|Qs U (T.I H) U U<|QI ((hK.I G).I H).arr U<|Qa<|xe<|Qg<|QD (α:=Nat) [(2,2),(10,14),(69,88)] (λz=>[(69,oE oF z)]) (λz w'=>z<=ks.length/\O1 [] V w'/\Y8 sz ((ks.take z).map (·.nm)) ((ks.drop z).map (·.k))=Y8 sz [] (ks.map (·.k))) (λz=>ks.length - z) ol 0 La
    ⟨Lo _,H,U⟩ ?_
   rintro k g wA ⟨hk,H,I⟩;refine Qc<|Q0 U U<|xe<|Qd<|QH U (λhc=>?_) (λhc=>?_)
   ·refine Qz ?_;have hj:ks.length<=k:=by have h4:¬(k:Int)<(ks.length:Int):=hc;omega
    rw[Lp hj]at I;have hT:Y8 sz [] (ks.map (·.k))=0:=I.symm;refine Qc<|Qb<|Qk ⟨[_],La,by rw[h5,hT];rfl,G.D H⟩
   have E:k<ks.length:=by have h4:(k:Int)<(ks.length:Int):=hc;omega
   have hl:(ks.take (k+1)).map (·.nm)=(ks.take k).map (·.nm)++[(ks[k]'E).nm]:=by rw[Lm E,Lt];rfl
   rw[Zd E,LE]at I;have he:=Lk E;have J:=(hK.I G).I H;have h6:=T.I H;refine Qh<|Qd<|Qg<|Qm<|O4 Xg J.arr U U E λaA hA=>?_;refine Zo (ks[k]'E) λq hq=>?_;rw[hq]at hA I hl he;have hm:=J.each q he;refine x (Qx hA U U)<|Qe<|Qo (us:=[oE oF 0]) U λb5 V ho h7 hf=>Qe<|Qo (us:=[.string .empty,nS,oE oF 0]) U λb6 w4 hp hU h8 =>
    Qe<|QE (j:=0) (u:=oE oF k) (hf.I hp) U U og U λw5 hr h9=>Qe<|Qj (us:=Q5 q) (h8.J hr (by have:=hf.lt;simp;omega)) U U U U ⟨U,hm.one,U,Z⟩ λw6 hs ht=>xe ?_
   have hV:b5<b6:=by have:=hf.lt;omega
   have hg:O1 [] wA w6:=((ho.D hp).O hr h7).O hs (ot ho.size);have hB:Q9 w6.heap b5 3 [oE oF k]:=h9.J hs (by simp;omega);have hu:=h6.I hg;have hC:=J.I hg;refine Qc<|x Zz<|Qb<|Qd<|Qc<|Qs U ht U U<|Qa<|ZO<|(Qdx (nms:=(ks.take k).map (·.nm)) (capt:=[.pointer (some ⟨b1,0,none⟩),.pointer (some ⟨b5,0,none⟩)]) (J.nm q he) (λw' L hh hL=>Qit (hu.I hh) (hB.I hh) ((hC.up (λb hb=>.inr (hL b hb))).I hh) hk U)).mono ?_;rintro r7 w7 ⟨rfl,hi⟩;refine Qb ?_;have O:=hg.D hi;refine Qm<|ZB U U<|xe<|QX U (λY=>?_) (λY=>?_)
   ·have e1:Y8 sz [] (ks.map (·.k))=KY ((ks.take k).map (·.nm)) q.nm:=by rw[<-I];exact OQ Y
    refine Qm<|Qb<|Qk ⟨[_],La,by rw[h5,e1];rfl,G.D (H.D O)⟩
   have hv:(if JU sz q.k≠0 then JU sz q.k else Y8 sz ((ks.take k).map (·.nm)++[q.nm]) ((ks.drop (k+1)).map (·.k)))=Y8 sz [] (ks.map (·.k)):=by rw[<-I];exact(OP Y).symm
   refine Qh ?_;have hD:=hu.I hi;have hE:=ht.I hi;refine Qc<|Q6 hD U U<|Q6 hE U U<|ZO<|(VO (((hS.I G).I H).I O) (hm.I O)).mono ?_;rintro r8 w8 ⟨rfl,hF⟩;refine Qb ?_;have hw:=O.D hF;refine Qm<|ZB U U<|xe<|QX U (λS=>?_) (λS=>?_)
   ·have e1:Y8 sz [] (ks.map (·.k))=JU sz q.k:=by rw[<-hv];exact OQ S
    have hN:JU sz q.k≠0:=S;refine Qm<|Qb<|Qk ⟨[_],La,by rw[h5,e1];rfl,G.D (H.D hw)⟩
   have hG:Y8 sz ((ks.take k).map (·.nm)++[q.nm]) ((ks.drop (k+1)).map (·.k))=Y8 sz [] (ks.map (·.k)):=by rw[<-hv];exact(OP S).symm
   refine Qh<|Qw<|QS U U<|Qa<|xe ?_;exact⟨k+1,oa,La,E,H.D hw,by rw[hl];exact hG⟩
  have E:k<qx.length:=by have h4:(k:Int)<(qx.length:Int):=hc;omega
  have hl:(qx.take (k+1)).map (·.nm)=(qx.take k).map (·.nm)++[(qx[k]'E).nm]:=by rw[Lm E,Lt];rfl
  rw[Zd E,LE]at I;have he:=Lk E;have J:=(hX.I G).I H;have h6:=T.I H;refine Qh<|Qd<|Qg<|Qm<|O4 Xq J.arr U U E λaA hA=>?_;refine Zo (qx[k]'E) λq hq=>?_;rw[hq]at hA I hl he;have hm:=J.each q he;refine x (Qx hA U U)<|Qe<|Qo (us:=[oE oF 0]) U λb5 V ho h7 hf=>Qe<|Qo (us:=[.string .empty,nS]) U λb6 w4 hp hU h8 =>
   Qe<|QE (j:=0) (u:=oE oF k) (hf.I hp) U U og U λw5 hr h9=>Qe<|Qj (us:=Q8 q) (h8.J hr (by have:=hf.lt;simp;omega)) U U U U ⟨U,hm.one,Z⟩ λw6 hs ht=>xe ?_
  have hV:b5<b6:=by have:=hf.lt;omega
  have hg:O1 [] wA w6:=((ho.D hp).O hr h7).O hs (ot ho.size);have hB:Q9 w6.heap b5 3 [oE oF k]:=h9.J hs (by simp;omega);have hu:=h6.I hg;have hC:=J.I hg;refine Qc<|x Zz<|Qb<|Qd<|Qc<|Qs U ht U U<|Qa<|ZO<|(Qdx (nms:=(qx.take k).map (·.nm)) (capt:=[.pointer (some ⟨b1,0,none⟩),.pointer (some ⟨b5,0,none⟩)]) (J.nm q he) (λw' L hh hL=>Qh0 (hu.I hh) (hB.I hh) ((hC.up (λb hb=>.inr (hL b hb))).I hh) hk U)).mono ?_;rintro r7 w7 ⟨rfl,hi⟩;refine Qb ?_;have O:=hg.D hi;refine Qm<|ZB U U<|xe<|QX U (λY=>?_) (λY=>?_)
  ·have e1:YA sz [] (qx.map (·.x))=KY ((qx.take k).map (·.nm)) q.nm:=by rw[<-I];exact OQ Y
   refine Qm<|Qb<|Qk ⟨[_],La,by rw[hM (by rw[e1];exact Y),e1];rfl,G.D (H.D O)⟩
  have hv:(if JA sz q.ls≠0 then JA sz q.ls else YA sz ((qx.take k).map (·.nm)++[q.nm]) ((qx.drop (k+1)).map (·.x)))=YA sz [] (qx.map (·.x)):=by rw[<-I];exact(OP Y).symm
  refine Qh ?_;have hD:=hu.I hi;have hE:=ht.I hi;refine Qc<|Q6 hD U U<|Q6 hE U U<|ZO<|(Uq (((hS.I G).I H).I O) (hm.I O)).mono ?_;rintro r8 w8 ⟨rfl,hF⟩;refine Qb ?_;have hw:=O.D hF;refine Qm<|ZB U U<|xe<|QX U (λS=>?_) (λS=>?_)
  ·have e1:YA sz [] (qx.map (·.x))=JA sz q.ls:=by rw[<-hv];exact OQ S
   have hN:JA sz q.ls≠0:=S;refine Qm<|Qb<|Qk ⟨[_],La,by rw[hM (by rw[e1];exact hN),e1];rfl,G.D (H.D hw)⟩
  have hG:YA sz ((qx.take k).map (·.nm)++[q.nm]) ((qx.drop (k+1)).map (·.x))=YA sz [] (qx.map (·.x)):=by rw[<-hv];exact(OP S).symm
  refine Qh<|Qw<|QS U U<|Qa<|xe ?_;exact⟨k+1,oa,La,E,H.D hw,by rw[hl];exact hG⟩
 have E:k<sz.length:=by have hz:(k:Int)<(sz.length:Int):=h1;omega
 rw[Zd E,List.any_cons]at ha;refine Qh<|Qd<|Qg<|Qc<|xii (hS.I G) U U E λgb hz=>?_;refine Zo (sz[k]'E) λn hn=>?_;rw[hn]at hz ha;refine x (QA hz U)<|Qb<|Za (α:=Bool) [(26,31)] (λz=>[(31,.bool z)]) (λz w'=>w'=w2/\z=K2 n) ol ?_ ?_
 ·refine Qw<|Qa<|xb (YP U U) (λhH=>?_) (λhH=>?_)
  ·refine Qa<|Qp<|Qp<|QG U<|xe ?_;exact⟨_,La,U,by unfold K2;rw[OT hH];rfl⟩
  refine Qa<|Qa<|x (Yg U U)<|QG U<|xe ?_;exact⟨_,La,U,by unfold K2;rw[OV hH];rfl⟩
 rintro z g V ⟨rfl,rfl⟩;refine QQ rfl (λhI=>?_) (λhI=>?_)
 ·refine Qc<|Qb<|Qk ⟨[_],La,by unfold YB;rw[OP hy,OQ (by rw[<-ha,hI];rfl)];rfl,G⟩
 rw[hI,Bool.false_or]at ha;refine Qh<|Qw<|QS U U<|Qa<|xe ?_;exact⟨k+1,oa,La,E,U,ha⟩
theorem Yz (q:α->Bool)(i:Nat)(a:α)(l:List α):fix q i (a::l)=if q a=true then(i:Int)else fix q (i+1) l:=rfl
theorem QcF {α:Type}(q:α->Bool):∀(l:List α) (i:Nat),fix q i l=-1\/((i:Int)<=fix q i l/\fix q i l<(i:Int)+l.length)
 | [],i=>.inl U
 | a::l,i=>by
  rw[Yz];split
  ·right;simp only[oU];omega
  rcases QcF q l (i+1)with h|h
  ·exact .inl h
  right;simp only[oU];omega
theorem Qag {α:Type}(q:α->Bool):∀(l:List α) (i:Nat),decide (0<=fix q i l)=l.any q
 | [],i=>rfl
 | a::l,i=>by
  rw[Yz,List.any_cons];cases h:q a with
  | true=>rw[OQ rfl];simp
  | false=>rw[OP og,Qag q l (i+1)];rfl
theorem zO {α:Type}(q:α->Bool)(m:List α):∀(l:List α) (i:Nat),fix q i (l++m)=if 0<=fix q i l then fix q i l else fix q (i+l.length) m
 | [],i=>by
  show fix q i m=if(0:Int)<=-1 then(-1)else fix q i m
  rw[OP og]
 | a::l,i=>by
  rw[L5,Yz,Yz];by_cases h:q a=true
  ·rw[OQ h,OQ h,OQ oa]
  rw[OP h,OP h,zO q m l (i+1),LS];rw[show i+1+l.length=i+(l.length+1) by omega]
theorem jh {α:Type}(q:α->Bool)(d:Nat):∀(l:List α) (i:Nat),fix q (i+d) l=if 0<=fix q i l then fix q i l+d else -1
 | [],i=>rfl
 | a::l,i=>by
  rw[Yz,Yz];by_cases h:q a=true
  ·rw[OQ h,OQ h,OQ oa];omega
  rw[OP h,OP h,show i+d+1=(i+1)+d by omega,jh q d l (i+1)]
theorem Vb {α β:Type}(q:β->Bool)(g:α->β):∀(l:List α) (i:Nat),fix q i (l.map g)=fix (λa=>q (g a)) i l
 | [],i=>rfl
 | a::l,i=>by rw[LE,Yz,Yz,Vb q g l (i+1)]
theorem Qfg {α:Type}{q E:α->Bool}:∀{l:List α}{i:Nat},(∀a∈l,q a=E a)->fix q i l=fix E i l
 | [],i,_=>rfl
 | a::l,i,h=>by rw[Yz,Yz,h a Lq,Qfg (λb G=>h b (Lj _ G))]
theorem Qm3 {gp:Nat}[Fu prog gp fn]{cap:LV}{q:(Int×Int)->Bool}{v:OY}{l:xq}(h:Zm L w.heap v l.length 2 (l.flatMap QN))
  (Y:∀e∈l,∀(G:OX),O1 [] w G->Q3 prog gp ([.agg (QN e).toArray]++cap) G λr w'=>r=.bool (q e)/\O1 [] G w'):
  Q3 prog 332 [v,.func (.func gp) #[] cap.toArray] w λr w'=>r=oE oF (fix q 0 l)/\O1 [] w w':=by
 have hc:=h.le;refine Zq func332 ?_;refine Qc<|Qb<|Qd<|Qm<|QI h U<|Qa<|xe<|Qg<|QD (α:=Nat) [(4,5),(8,18)] (λz=>[(8,oE oF z)]) (λz w'=>z<=l.length/\O1 [] w w'/\fix q z (l.drop z)=fix q 0 l) (λz=>l.length - z) ol 0 La
  ⟨Lo _,O1.Z _ _,U⟩ ?_
 rintro k g G ⟨hk1,H,E⟩;refine Qc<|Q0 U U<|xe<|Qd<|QH U (λJ=>?_) (λJ=>?_)
 ·refine Qz ?_;have ha:l.length<=k:=by have hb:¬(k:Int)<(l.length:Int):=J;omega
  rw[Lp ha]at E;refine Qc<|Qb<|Qk ⟨[_],La,by rw[<-E];rfl,H⟩
 have I:k<l.length:=by have hb:(k:Int)<(l.length:Int):=J;omega
 rw[Zd I,Yz]at E;have S:=Lk I;refine Qh<|Qd<|Qg<|Qm<|Qb<|Qm<|Qa<|Qa<|O4 Y7 (h.I H) U U I λhf T=>?_;refine Zo (l[k]'I) λe he=>?_;rw[he]at T E S;refine x (Qx T U U)<|Qe<|xc (first:=[]) (capt:=cap) U<|(Y e S G H).mono ?_;rintro r2 w2 ⟨rfl,V⟩;refine xe<|QQ rfl (λO=>?_) (λO=>?_)
 ·rw[OQ O]at E;refine Qm<|Qb<|Qk ⟨[_],La,by rw[<-E];rfl,H.D V⟩
 rw[OP (by rw[O];decide)]at E;refine Qh<|Qw<|QS U U<|Qa<|xe ?_;exact⟨k+1,oa,La,I,H.D V,E⟩
theorem Qnz {gp:Nat}[Fu prog gp fn]{cap:LV}{q:(Int×Int)->Bool}{v:OY}{l:xq}(h:Zm L w.heap v l.length 2 (l.flatMap QN))
  (G:∀e∈l,∀(E:OX),O1 [] w E->Q3 prog gp ([.agg (QN e).toArray]++cap) E λr w'=>r=.bool (q e)/\O1 [] E w'):
  Q3 prog 296 [v,.func (.func gp) #[] cap.toArray] w λr w'=>r=.bool (l.any q)/\O1 [] w w':=by
 refine Zq func296 ?_;refine Qc<|Qb<|Qm<|Qa<|ZO<|(Qm3 h G).mono ?_;rintro I E ⟨rfl,H⟩;refine x (Yw U U)<|Qb<|Qk ⟨[_],La,OR Value.bool (Qag q l 0),H⟩
theorem VN (sz:LI):∀(ls:xq) (pr:Option Int),Up sz pr ls=0->(∀p∈ls,0<=p.1/\p.1<(sz.length:Int))/\Xk (ls.map (·.1))/\∀y,pr=some y->∀p∈ls,y<p.1
 | [],pr,_=>⟨λp E=>(by cases E),List.Pairwise.nil,λy _ p E=>(by cases E)⟩
 | l::ls,pr,h=>by
  unfold Up at h;split at h
  ·cases h
  rename_i T;split at h
  ·cases h
  rename_i H;split at h
  ·cases h
  obtain⟨I,J,O⟩:=VN sz ls (some l.1) h;have G:=O l.1 U;refine⟨λp E=>?_,L7.2 ⟨λx hx=>?_,J⟩,λy S p E=>?_⟩
  ·rcases Li.1 E with rfl|E
   ·omega
   exact I p E
  ·obtain⟨p,E,rfl⟩:=LC.1 hx;exact G p E
  subst S;have V:¬l.1<=y:=λe=>H (OT e);rcases Li.1 E with rfl|E
  ·omega
  have:=G p E;omega
theorem VL (sz:LI):∀(ls:xq) (pr:Option Int),Kv sz pr ls=0->(∀p∈ls,0<=p.1/\p.1<(sz.length:Int)/\-65536<=p.2/\p.2<=65536)/\Xk (ls.map (·.1))/\∀y,pr=some y->∀p∈ls,y<p.1
 | [],pr,_=>⟨λp E=>(by cases E),List.Pairwise.nil,λy _ p E=>(by cases E)⟩
 | l::ls,pr,h=>by
  unfold Kv at h;split at h
  ·cases h
  rename_i h1;split at h
  ·cases h
  rename_i I;split at h
  ·cases h
  rename_i J;obtain⟨O,S,T⟩:=VL sz ls (some l.1) h;have G:=T l.1 U;have H:grt l.2=false:=by cases V:grt l.2 with|true=>exact OS (.inr V) J|false=>rfl
  unfold grt at H;simp only[Oc,decide_eq_false_iff_not]at H;refine⟨λp E=>?_,L7.2 ⟨λx hx=>?_,S⟩,λy Y p E=>?_⟩
  ·rcases Li.1 E with rfl|E
   ·omega
   exact O p E
  ·obtain⟨p,E,rfl⟩:=LC.1 hx;exact G p E
  subst Y;have h8:¬l.1<=y:=λe=>I (OT e);rcases Li.1 E with rfl|E
  ·omega
  have:=G p E;omega
theorem JS (sz:LI):∀(l:List UA) (sn:List ByteArray),YA sz sn l=0->∀x∈l,JA sz x.ls=0
 | [],_,_,x,hx=>by cases hx
 | a::l,sn,h,x,hx=>by
  unfold YA at h;split at h
  ·rename_i E;exact OS h E
  split at h
  ·rename_i E;exact OS h E
  rename_i E;rcases Li.1 hx with rfl|hx
  ·exact Ln.1 E
  exact JS sz l _ h x hx
theorem KZ (sz:LI):∀(l:List xG) (sn:List ByteArray),Y8 sz sn l=0->∀x∈l,JU sz x=0
 | [],_,_,x,hx=>by cases hx
 | a::l,sn,h,x,hx=>by
  unfold Y8 at h;split at h
  ·rename_i E;exact OS h E
  split at h
  ·rename_i E;exact OS h E
  rename_i E;rcases Li.1 hx with rfl|hx
  ·exact Ln.1 E
  exact KZ sz l _ h x hx
structure QpX (sz:LI)(ex:List UA)(cs:List xG):Prop where
 s8:sz.length<=8
 s:∀n∈sz,1<=n/\n<=4096
 xl:ex.length<=32
 kl:cs.length<=32
 x:∀e∈ex,∀p∈e.ls,0<=p.1/\p.1<(sz.length:Int)
 k:∀e∈cs,(∀p∈e.ts,0<=p.1/\p.1<(sz.length:Int)/\-65536<=p.2/\p.2<=65536)/\e.ts.length<=8
theorem K0 {sz:LI}{ex:List UA}{cs:List xG}(h:YB sz ex cs=0):QpX sz ex cs:=by
 unfold YB at h;split at h
 ·cases h
 rename_i h8;split at h
 ·cases h
 rename_i O;split at h
 ·cases h
 rename_i ha;split at h
 ·rename_i hx;exact OS h hx
 rename_i hx;have S:=Ln.1 hx;refine⟨oa,λn T=>?_,oa,oa,λe H p G=>?_,λe H=>?_⟩
 ·have E:K2 n=false:=by
   cases V:K2 n with
   | false=>rfl
   | true=>exact OS (List.any_eq_true.2 ⟨n,T,V⟩) O
  unfold K2 at E;simp only[Oc,decide_eq_false_iff_not]at E;omega
 ·have E:=JS sz ex [] S e H;unfold JA at E;split at E
  ·cases E
  exact(VN sz e.ls none E).1 p G
 have E:=KZ sz cs [] h e H;unfold JU at E;split at E
 ·cases E
 split at E
 ·rename_i I;exact OS E I
 rename_i I;obtain⟨J,Y,_⟩:=VL sz e.ts none (Ln.1 I);refine⟨J,?_⟩;have:=xC sz.length (e.ts.map (·.1)) (List.Pairwise.imp (λ{a b} (h:a<b)=>(by omega:a≠b)) Y) (λx hx=>by
  obtain⟨p,G,rfl⟩:=LC.1 hx;exact⟨(J p G).1,(J p G).2.1⟩)
 rw[Lh]at this;omega
def QlJ (sz t:LI):Prop:=t.length=sz.length/\∀i,i<t.length->0<=O2 t i/\O2 t i<O2 sz i
theorem Qez (t:LI)(p:Int×Int)(l:xq)(s:Int):(l++[p]).foldl (λs p=>s+p.2*t.getD p.1.toNat 0) s=l.foldl (λs p=>s+p.2*t.getD p.1.toNat 0) s+p.2*O2 t p.1.toNat:=by
 rw[Mv];rfl
theorem Qge {nm:ByteArray}{ts:xq}{bd:Int}{t:LI}(hl:yz [] w.heap vl ts)(ht:QP [] w.heap vt t)
  (hg:∀p∈ts,0<=p.1/\p.1<(t.length:Int)/\-65536<=p.2/\p.2<=65536) (h8:ts.length<=8) (hh:∀i,i<t.length->0<=O2 t i/\O2 t i<=4096):
  Q3 prog 299 [.agg #[.string nm,vl,oE oF bd],vt] w λr w'=>r=oE oF (Qoa t ⟨nm,ts,bd⟩)/\O1 [] w w':=by
 refine Zq func299 ?_;refine Qc<|Qe<|QW (us:=[.string nm,vl,oE oF bd]) U λb2 w1 V hv hi=>Qb<|Qc<|Qb<|Qd<|Qc<|Qs U hi U U<|QI (hl.I V) U<|Qa<|xe<|Qg<|QD (α:=Nat×Int) [(5,5),(7,7),(11,25)] (λz=>[(5,oE oF z.2),(11,oE oF z.1)]) (λz w'=>z.1<=ts.length/\O1 [] w w'/\z.2=(ts.take z.1).foldl (λs p=>s+p.2*t.getD p.1.toNat 0) 0/\-(268435456*(z.1:Int))<=z.2/\z.2<=268435456*(z.1:Int)) (λz=>ts.length - z.1) ol (0,0) oz
  ⟨Lo _,V,U,oh,oh⟩ ?_
 rintro⟨k,s⟩ g w2 ⟨hk,O,H,hj,hm⟩;simp only[]at hk H hj hm;refine Qc<|Q0 U U<|xe<|Qd<|QH U (λS=>?_) (λS=>?_)
 ·refine Qz ?_;have hn:ts.length<=k:=by have I:¬(k:Int)<(ts.length:Int):=S;omega
  rw[Lr hn]at H;refine Qm<|Qb<|Qk ⟨[_],La,by rw[H];rfl,O⟩
 have E:k<ts.length:=by have I:(k:Int)<(ts.length:Int):=S;omega
 have T:=hg _ (Lk E);have Y:ts.take (k+1)=ts.take k++[ts[k]'E]:=Lm E;refine Qh<|Qd<|Qg<|Qc<|O4 Y7 (hl.I O) U U E λhw I=>?_;refine Zo (ts[k]'E) λe he=>?_;rw[he]at I T Y;refine x (Qx I U U)<|Qe<|Qo (us:=[oE oF 0,oE oF 0]) U λb7 w3 ho hp J=>Qe<|Qj (us:=QN e) J U U U U oz λw4 hq J=>xe ?_;have hr:O1 [] w2 w4:=ho.O hq hp;have ha:=O.D hr;have hs:e.1=((e.1.toNat:Nat):Int):=oa
 have hb:e.1.toNat<t.length:=oa
 have hf:=hh _ hb;have hy:-268435456<=e.2*O2 t e.1.toNat/\e.2*O2 t e.1.toNat<=268435456:=by
  have h1:(-65536)*O2 t e.1.toNat<=e.2*O2 t e.1.toNat:=Int.mul_le_mul_of_nonneg_right T.2.2.1 hf.1;have h2:e.2*O2 t e.1.toNat<=65536*O2 t e.1.toNat:=Int.mul_le_mul_of_nonneg_right T.2.2.2 hf.1;omega
 refine Zo (e.2*O2 t e.1.toNat) λpr hz=>?_;refine ZI [] (Xx 0 11 [])<|p QF<|p (QR U)<|pq (λ_ G=>Qr (J.I G) U U)<|p QF<|p (QR U) <|
  pq (λ_ G=>Qr (J.I G) U U)<|pic (i:=e.1.toNat) U (ht.I ha) U (OR (Value.int .i64) hs) hb λh0 hu=>pq (λ_ G=>QA (hu.I G) U) <|
  p (λ_=>QgO U U ⟨oa,oa⟩)<|p (λ_=>Xu U U ⟨oa,oa⟩)<|p ZM<|pe ?_
 refine Qw<|QS U U<|Qa<|xe<|⟨(k+1,s+e.2*O2 t e.1.toNat),oh,oz,E,ha.D (O1.C _ _),?_,oh,oh⟩;simp only[];rw[Y,Qez,<-H]
theorem QhZ {bt:Nat}{t:LI}(I:Q9 w.heap bt 56 [vt])(J:QP [] w.heap vt t)(e:Int×Int)(V:0<=e.1/\e.1<(t.length:Int)):
  Q3 prog 297 ([.agg (QN e).toArray]++[.pointer (some ⟨bt,0,none⟩)]) w λr w'=>r=.bool (!decide (t.getD e.1.toNat 0=e.2))/\O1 [] w w':=by
 refine Zq func297 ?_;refine Qc<|Qe<|QW (us:=QN e) U λb2 Y G ha H=>Qb ?_;have O:e.1=((e.1.toNat:Nat):Int):=oa
 have S:e.1.toNat<t.length:=oa
 refine Qd<|ZI [] (Xx 0 9 [])<|pq (λ_ E=>Qr ((I.I G).I E) U U)<|p (QR U)<|pq (λ_ E=>Qr (H.I E) U U)<|pic (i:=e.1.toNat) U (J.I G) U (OR (Value.int .i64) O) S λa7 T =>
  pq (λ_ E=>QA (T.I E) U)<|p (QR U)<|pq (λ_ E=>Qr (H.I E) U U)<|p (λ_=>Xr U U) <|
  p ZM<|pe ?_
 refine Qk ⟨[_],La,?_,G.D (O1.C _ _)⟩;show Value.bool (decide (¬O2 t e.1.toNat=e.2))=_;unfold O2;simp
theorem Qgc (t:LI)(x:UA):(!(x.ls.any λl=>!decide (t.getD l.1.toNat 0=l.2)))=Vy t x:=by
 unfold Vy;induction x.ls with
 | nil=>rfl
 | cons a l ih=>rw[List.any_cons,L4,<-ih];cases decide (t.getD a.1.toNat 0=a.2) <;> simp
theorem QkV {q:XV}{t:LI}(I:Q9 w.heap b 116 (Q8 q))(J:yz [] w.heap q.v q.ls)(H:QP [] w.heap vt t)(O:∀p∈q.ls,0<=p.1/\p.1<(t.length:Int)):
  Q3 prog 295 ([vt]++[.pointer (some ⟨b,0,none⟩)]) w λr w'=>r=.bool (Vy t q.x)/\O1 [] w w':=by
 refine Zq func295 ?_;refine Qc<|Qe<|QW (us:=[vt]) H.cells λb2 Y E ha S=>Qb<|Qc<|Qs U (I.I E) U U<|x Zz<|ZO<|(Qnz (q:=λl=>!decide (t.getD l.1.toNat 0=l.2)) (cap:=[.pointer (some ⟨b2,0,none⟩)]) (J.I E) (λe T V G=>QhZ (S.I G) ((H.I E).I G) e (O e T))).mono ?_;rintro r2 V ⟨rfl,G⟩;refine x (ZC U)<|Qb<|Qk ⟨[_],La,OR Value.bool (Qgc t q.x),E.D G⟩
theorem QkU {q:KV}{t:LI}(G:Q9 w.heap b 121 (Q5 q))(I:yz [] w.heap q.v q.ts)(J:QP [] w.heap vt t)
  (O:∀p∈q.ts,0<=p.1/\p.1<(t.length:Int)/\-65536<=p.2/\p.2<=65536) (S:q.ts.length<=8) (T:∀i,i<t.length->0<=O2 t i/\O2 t i<=4096):
  Q3 prog 298 ([vt]++[.pointer (some ⟨b,0,none⟩)]) w λr w'=>r=.bool (UD t q.k)/\O1 [] w w':=by
 refine Zq func298 ?_;refine Qc<|Qb ?_;have hd:O1 [] w { w with drawn:=w.drawn+1 }:=O1.C _ _
 refine Qd<|yj (O1 [] { w with drawn:=w.drawn+1 }) [oC 0,oC 1,oC 3,oC 4,oD 2,oC 5,oC 6] mixed ol od (O1.Z _ _) ?_
 refine pq (λ_ E=>ZT ((G.I hd).I E) U U)<|p QF<|p (QR U)<|pq (λ_ E=>Qr ((G.I hd).I E) U U)<|pk<|xg<|(Qge (I.I hd) (J.I hd) O S T).mono ?_;rintro V Y ⟨rfl,H⟩;refine⟨H,?_⟩;refine p (λ_=>Yg U U)<|p ZM<|pe ?_;exact Qk ⟨[_],La,U,hd.D H⟩
inductive Cd where
 | ex (b:Nat) (q:XV)
 | co (b:Nat) (q:KV)
def Cd.val:Cd->OY
 | .ex b _=>.func (.func 295) #[] #[.pointer (some ⟨b,0,none⟩)]
 | .co b _=>.func (.func 298) #[] #[.pointer (some ⟨b,0,none⟩)]
def Cd.src:Cd->Sum XV KV
 | .ex _ q=>.inl q
 | .co _ q=>.inr q
def QeA (t:LI):Sum XV KV->Bool
 | .inl q=>Vy t q.x
 | .inr q=>UD t q.k
def Cd.vio (t:LI)(c:Cd):Bool:=QeA t c.src
abbrev Us (c:Cd):LV:=[c.val]
theorem QnB (c:Cd):(Us c).length=1:=rfl
def CdA (H:xu):Cd->Prop
 | .ex b q=>Q9 H b 116 (Q8 q)/\yz [] H q.v q.ls
 | .co b q=>Q9 H b 121 (Q5 q)/\yz [] H q.v q.ts
theorem CdA.I {w w':OX}{c:Cd}(h:CdA w.heap c)(E:O1 [] w w'):CdA w'.heap c:=by
 cases c with
 | ex b q=>exact⟨h.1.I E,h.2.I E⟩
 | co b q=>exact⟨h.1.I E,h.2.I E⟩
def Cd.rg (n:Nat):Cd->Prop
 | .ex _ q=>∀p∈q.ls,0<=p.1/\p.1<(n:Int)
 | .co _ q=>(∀p∈q.ts,0<=p.1/\p.1<(n:Int)/\-65536<=p.2/\p.2<=65536)/\q.ts.length<=8
theorem Qbm {q:XV}(w:OX):Q3 prog 257 [.agg (Q8 q).toArray] w λr w'=>O1 [] w w'/\∃b,r=(Cd.ex b q).val/\w.heap.size<=b/\Q9 w'.heap b 116 (Q8 q):=by
 refine Zq func257 ?_;refine Qc<|Qe<|QW (us:=Q8 q) U λb1 I E G H=>Qb<|Qc<|x Zz<|Qb<|Qk ⟨[_],La,E,b1,U,G,H⟩
theorem QcH {q:KV}(w:OX):Q3 prog 258 [.agg (Q5 q).toArray] w λr w'=>O1 [] w w'/\∃b,r=(Cd.co b q).val/\w.heap.size<=b/\Q9 w'.heap b 121 (Q5 q):=by
 refine Zq func258 ?_;refine Qc<|Qe<|QW (us:=Q5 q) U λb1 I E G H=>Qb<|Qc<|x Zz<|Qb<|Qk ⟨[_],La,E,b1,U,G,H⟩
def CdB (H:xu):Cd->Prop
 | .ex b q=>Q9 H b 116 (Q8 q)
 | .co b q=>Q9 H b 121 (Q5 q)
def Cd.blk:Cd->Nat
 | .ex b _=>b
 | .co b _=>b
theorem CdB.lt {H:xu}{c:Cd}(h:CdB H c):c.blk<H.size:=by cases c <;> exact Q9.lt h
theorem CdB.J {X:LN}{w w':OX}{c:Cd}(h:CdB w.heap c)(E:O1 X w w')(G:c.blk∉X):CdB w'.heap c:=by
 cases c <;> exact Q9.J h E G
structure CdL (base:Nat)(w:OX)(v:OY)(cds:List Cd):Prop where
 own:w.ownsRow base 403 1 v cds.length (cds.flatMap Us)
 bx:∀c∈cds,CdB w.heap c/\c.blk∉ob v
theorem CdL.add {base:Nat}{E G:OX}{v H:OY}{cds:List Cd}{c:Cd}(h:CdL base w v cds)(O:O1 [] w E)(S:CdB E.heap c)(hb:w.heap.size<=c.blk)
  (T:G.ownsRow base 403 1 H (cds.length+1) (cds.flatMap Us++[c.val])) (V:O1 (ob v) E G) (Y:∀b∈ob H,b∈ob v\/E.heap.size<=b):CdL base G H (cds++[c]):=by
 have ha:=Zf h.own;have he:c.blk∉ob v:=λI=>ot (ha _ I)
 refine⟨?_,λd hd=>?_⟩
 ·rw[Ll,LB];simpa using T
 have key:CdB E.heap d/\d.blk∉ob v:=by
  rcases Lc.1 hd with hd|hd
  ·exact⟨(h.bx d hd).1.J O oe,(h.bx d hd).2⟩
  simp only[oH]at hd;subst hd;exact⟨S,he⟩
 refine⟨key.1.J V key.2,λI=>?_⟩;rcases Y _ I with J|J
 ·exact key.2 J
 have:=key.1.lt;omega
theorem Qis {qx:List XV}{ks:List KV}(hX:yp [] w.heap vx qx)(hK:yB [] w.heap vk ks)(hG:qx.length<=32)(hH:ks.length<=32):
  Q3 prog 192 [.agg #[vs,vx,vk]] w λr w'=>O1 [] w w'/\∃cds,CdL w.heap.size w' r cds/\cds.map Cd.src=qx.map Sum.inl++ks.map Sum.inr:=by
 refine Zq func192 ?_;refine Qc<|Qe<|QW (us:=[vs,vx,vk]) U λb1 J H hI h2=>Qb ?_;have h7:=H.size;refine Qc<|Qb<|Qd<|Qc<|Qs U h2 U U<|QI (hX.I H).arr U<|Qa<|xe<|Qg<|QD (α:=Nat×OY×List Cd) [(3,3),(5,5),(11,20)] (λz=>[(3,z.2.1),(11,oE oF z.1)]) (λz w'=>z.1<=qx.length/\O1 [] J w'/\CdL J.heap.size w' z.2.1 z.2.2/\z.2.2.map Cd.src=(qx.take z.1).map Sum.inl) (λz=>qx.length - z.1) ol (0,nS,[]) oz
  ⟨Lo _,O1.Z _ _,⟨QJ _ _ _ _,λc hc=>(by cases hc)⟩,rfl⟩ ?_
 rintro⟨k,vo,cds⟩ g wA ⟨hk,I,V,Y⟩;simp only[]at hk V Y;have hJ:cds.length=k:=by have:=OR oO Y;simp at this;omega
 refine Qc<|Q0 U U<|xe<|Qd<|QH U (λhi=>?_) (λhi=>?_)
 ·refine Qz ?_;have h8:qx.length<=k:=by have hl:¬(k:Int)<(qx.length:Int):=hi;omega
  rw[Lr h8]at Y;refine Qd<|Qc<|Qs U (h2.I I) U U<|QI ((hK.I H).I I).arr U<|Qa<|xe<|Qg<|QD (α:=Nat×OY×List Cd) [(3,3),(7,7),(24,33)] (λz=>[(3,z.2.1),(24,oE oF z.1)]) (λz w'=>z.1<=ks.length/\O1 [] J w'/\CdL J.heap.size w' z.2.1 z.2.2/\z.2.2.map Cd.src=qx.map Sum.inl++(ks.take z.1).map Sum.inr) (λz=>ks.length - z.1) ol (0,vo,cds) oz
   ⟨Lo _,I,V,by simp only[];rw[Y];simp⟩ ?_
  rintro⟨j,vp,cdt⟩ g wB ⟨hj,ha,O,he⟩;simp only[]at hj O he;have hM:cdt.length=qx.length+j:=by have:=OR oO he;simp at this;omega
  refine Qc<|Q0 U U<|xe<|Qd<|QH U (λhm=>?_) (λhm=>?_)
  ·refine Qz ?_;have h9:ks.length<=j:=by have hl:¬(j:Int)<(ks.length:Int):=hm;omega
   rw[Lr h9]at he;refine Qm<|Qb<|Qk ⟨[_],La,H.D ha,cdt,⟨Zy O.own h7,O.bx⟩,he⟩
  have S:j<ks.length:=by have hl:(j:Int)<(ks.length:Int):=hm;omega
  have h3:=Lk S;have h4:ks.take (j+1)=ks.take j++[ks[j]'S]:=Lm S;refine Qh<|Qd<|Qg<|Qc<|O4 Xg ((hK.I H).I ha).arr U U S λaA hA=>?_;refine Zo (ks[j]'S) λq hq=>?_;rw[hq]at hA h3 h4;have hn:=((hK.I H).I ha).each q h3;refine x (Qx hA U U)<|Qe<|Qo (us:=[.string .empty,nS,oE oF 0]) U λb7 w4 ho hp hr=>Qe<|Qj (us:=Q5 q) hr U U U U ⟨U,hn.one,U,Z⟩ λw5 hs ht=>xe ?_;have hf:O1 [] wB w5:=ho.O hs hp;refine Qw<|Qa<|Q6 ht U U<|QM<|(QcH w5).mono ?_;rintro r6 w6 ⟨hu,E,rfl,hB,hv⟩;refine Qe<|QB (us:=[[(Cd.co E q).val]]) U U og oe ⟨rfl,rfl,Z⟩ λhC w7 hg hD hw=>?_;have G:=(hf.D hu).D hg;have hE:=(ha.D G).size;have hF:=hf.size;refine Qe<|Zb (news:=[(Cd.co E q).val]) (L:=[]) (Qq O.own G) U U U (hw.at oe) (by simp[Cd.val,Value.oneCell']) oa oa λv8 w8 hy hh hz =>
   Qb ?_
  have hge:=Qi O.own;have h0:=O.add (c:=Cd.co E q) G (Q9.I hv hg) (by show _<=E;omega) hy hh hz;have h1:O1 [] J w8:=(ha.D G).then hh (λb hb=>.inr (hge b hb).1);refine Qw<|QS U U<|Qa<|xe ?_;exact⟨(j+1,v8,cdt++[Cd.co E q]),oh,oz,S,h1,h0,by simp only[];rw[Lt,he,h4];simp[Cd.src]⟩
 have T:k<qx.length:=by have hl:(k:Int)<(qx.length:Int):=hi;omega
 have h5:=Lk T;have h6:qx.take (k+1)=qx.take k++[qx[k]'T]:=Lm T;refine Qh<|Qd<|Qg<|Qc<|O4 Xq ((hX.I H).I I).arr U U T λaA hA=>?_;refine Zo (qx[k]'T) λq hq=>?_;rw[hq]at hA h5 h6;have hn:=((hX.I H).I I).each q h5;refine x (Qx hA U U)<|Qe<|Qo (us:=[.string .empty,nS]) U λb7 w4 ho hp hr=>Qe<|Qj (us:=Q8 q) hr U U U U ⟨U,hn.one,Z⟩ λw5 hs ht=>xe ?_;have hf:O1 [] wA w5:=ho.O hs hp;refine Qw<|Qa<|Q6 ht U U<|QM<|(Qbm w5).mono ?_;rintro r6 w6 ⟨hu,E,rfl,hB,hv⟩;refine Qe<|QB (us:=[[(Cd.ex E q).val]]) U U og oe ⟨rfl,rfl,Z⟩ λhC w7 hg hD hw=>?_;have G:=(hf.D hu).D hg;have hE:=(I.D G).size;have hF:=hf.size;refine Qe<|Zb (news:=[(Cd.ex E q).val]) (L:=[]) (Qq V.own G) U U U (hw.at oe) (by simp[Cd.val,Value.oneCell']) oa oa λv8 w8 hy hh hz =>
  Qb ?_
 have hge:=Qi V.own;have h0:=V.add (c:=Cd.ex E q) G (Q9.I hv hg) (by show _<=E;omega) hy hh hz;have h1:O1 [] J w8:=(I.D G).then hh (λb hb=>.inr (hge b hb).1);refine Qw<|QS U U<|Qa<|xe ?_;exact⟨(k+1,v8,cds++[Cd.ex E q]),oh,oz,T,h1,h0,by simp only[];rw[Lt,Y,h6];simp[Cd.src]⟩
theorem Qm7 {gp:Nat}[Fu prog gp fn]{cap:LV}{q:Cd->Bool}{v:OY}{l:List Cd}(h:Zm L w.heap v l.length 1 (l.flatMap Us))
  (Y:∀e∈l,∀(G:OX),O1 [] w G->Q3 prog gp ([e.val]++cap) G λr w'=>r=.bool (q e)/\O1 [] G w'):
  Q3 prog 255 [v,.func (.func gp) #[] cap.toArray] w λr w'=>r=oE oF (fix q 0 l)/\O1 [] w w':=by
 have hc:=h.le;refine Zq func255 ?_;refine Qc<|Qb<|Qd<|Qm<|QI h U<|Qa<|xe<|Qg<|QD (α:=Nat) [(4,5),(8,18)] (λz=>[(8,oE oF z)]) (λz w'=>z<=l.length/\O1 [] w w'/\fix q z (l.drop z)=fix q 0 l) (λz=>l.length - z) ol 0 La
  ⟨Lo _,O1.Z _ _,U⟩ ?_
 rintro k g G ⟨hk1,H,E⟩;refine Qc<|Q0 U U<|xe<|Qd<|QH U (λJ=>?_) (λJ=>?_)
 ·refine Qz ?_;have ha:l.length<=k:=by have hb:¬(k:Int)<(l.length:Int):=J;omega
  rw[Lp ha]at E;refine Qc<|Qb<|Qk ⟨[_],La,by rw[<-E];rfl,H⟩
 have I:k<l.length:=by have hb:(k:Int)<(l.length:Int):=J;omega
 rw[Zd I,Yz]at E;have S:=Lk I;refine Qh<|Qd<|Qg<|Qm<|Qb<|Qm<|Qa<|Qa<|O4 QnB (h.I H) U U I λhf T=>?_;refine Zo (l[k]'I) λe he=>?_;rw[he]at T E S;refine x (QA T U)<|Qe<|xc (first:=[]) (capt:=cap) U<|(Y e S G H).mono ?_;rintro r2 w2 ⟨rfl,V⟩;refine xe<|QQ rfl (λO=>?_) (λO=>?_)
 ·rw[OQ O]at E;refine Qm<|Qb<|Qk ⟨[_],La,by rw[<-E];rfl,H.D V⟩
 rw[OP (by rw[O];decide)]at E;refine Qh<|Qw<|QS U U<|Qa<|xe ?_;exact⟨k+1,oa,La,I,H.D V,E⟩
theorem Qlo {c:Cd}{t:LI}(E:CdA w.heap c)(H:QP [] w.heap vt t)(G:c.rg t.length)(I:∀i,i<t.length->0<=O2 t i/\O2 t i<=4096):
  ∃g fn cap,c.val=.func (.func g) #[] #[cap]/\Fu prog g fn/\Q3 prog g ([vt]++[cap]) w λr w'=>r=.bool (c.vio t)/\O1 [] w w':=by
 cases c with
 | ex b q=>exact⟨_,_,_,U,inferInstance,QkV E.1 E.2 H G⟩
 | co b q=>exact⟨_,_,_,U,inferInstance,QkU E.1 E.2 H G.1 G.2 I⟩
theorem Qga {bt:Nat}{c:Cd}{t:LI}(E:Q9 w.heap bt 56 [vt])(G:CdA w.heap c)(H:QP [] w.heap vt t)(I:c.rg t.length)(J:∀i,i<t.length->0<=O2 t i/\O2 t i<=4096):
  Q3 prog 256 ([c.val]++[.pointer (some ⟨bt,0,none⟩)]) w λr w'=>r=.bool (c.vio t)/\O1 [] w w':=by
 obtain⟨gq,fn,cap,O,T,hcall⟩:=Qlo G H I J;rw[O];refine Zq func256 ?_;refine Qc<|Qb<|Qm<|X2 E U U<|Qe<|xc (g:=gq) (fn:=fn) (first:=[]) (capt:=[cap]) U<|hcall.mono ?_;rintro V Y ⟨rfl,S⟩;refine Qb<|Qk ⟨[_],La,U,S⟩
theorem QaC {v:OY}{cds:List Cd}{t:LI}(h:Zm L w.heap v cds.length 1 (cds.flatMap Us))(J:∀c∈cds,CdA w.heap c)(H:QP [] w.heap vt t)(O:∀c∈cds,c.rg t.length)(S:∀i,i<t.length->0<=O2 t i/\O2 t i<=4096):
  Q3 prog 191 [v,vt] w λr w'=>r=oE oF (fix (Cd.vio t) 0 cds)/\O1 [] w w':=by
 refine Zq func191 ?_;refine Qc<|Qe<|QW (us:=[vt]) H.cells λT w1 G ha V=>Qb<|Qm<|x Zz<|ZO<|(Qm7 (q:=Cd.vio t) (cap:=[.pointer (some ⟨T,0,none⟩)]) (h.I G) (λc I Y E=>Qga (V.I E) (((J c I).I G).I E) ((H.I G).I E) (O c I) S)).mono ?_;rintro r2 Y ⟨rfl,E⟩;refine Qb<|Qk ⟨[_],La,U,G.D E⟩
theorem QiE {sz t:LI}(I:QP [] w.heap vs sz)(G:QP [] w.heap vt t)(h:QlJ sz t):
  Q3 prog 254 [.agg #[vs,vx,vk],vt] w λr w'=>r=oE oF 0/\O1 [] w w':=by
 have he:=G.le;have h0:=h.1;refine Zq func254 ?_;refine Qc<|Qe<|QW (us:=[vs,vx,vk]) U λb2 T E hf J=>Qb<|Qd<|Qm<|QI (G.I E) U<|Qs U J U U<|QI (I.I E) U<|x (Xr U U) <|
  xe ?_
 refine QH rfl (λO=>?_) (λO=>?_)
 ·refine Qh<|Qd<|Qm<|QI (G.I E) U<|Qa<|xe<|Qg<|QD (α:=Nat) [(4,6),(15,31)] (λz=>[(15,oE oF z)]) (λz w'=>z<=t.length/\w'=T) (λz=>t.length - z) ol 0 La ⟨Lo _,U⟩ ?_;rintro k g V ⟨hk,rfl⟩;refine Qc<|Q0 U U<|xe<|Qd<|QH U (λS=>?_) (λS=>?_)
  ·refine Qz<|Qc<|Qb<|Qk ⟨[_],La,U,E⟩
  have H:k<t.length:=by have hg:(k:Int)<(t.length:Int):=S;omega
  have hb:=h.2 k H;refine Qh<|Qd<|Qg<|Qm<|xic (i:=k) (G.I E) U U H λhh Y=>x (QA Y U)<|x Ql<|Qb<|Za (α:=Unit) [(20,30)] (λz=>[(30,.bool false)]) (λz w'=>w'=V) ol ?_ ?_
  ·refine Qw<|Qa<|xb (YP U U) (λha=>oa) (λha=>?_);refine Qa<|Qa<|Qs U J U U<|Qa<|xic (i:=k) (I.I E) U U oa λhi hc=>x (QA hc U) <|
    x (Yw rfl U)<|QG U<|xe ?_
   exact⟨(),⟨OR Value.bool (OV oa),Z⟩,U⟩
  rintro _ g w3 rfl;refine ZS U<|Qh<|Qw<|QS U U<|Qa<|xe ?_;exact⟨k+1,oa,La,H,U⟩
 exact OS (show(t.length:Int)=(sz.length:Int) by omega) O
theorem yD {sz t:LI}{qx:List XV}{ks:List KV}(H:QP [] w.heap vs sz)(S:yp [] w.heap vx qx)(hK:yB [] w.heap vk ks)(T:QP [] w.heap vt t)(V:YB sz (qx.map (·.x)) (ks.map (·.k))=0)(h:QlJ sz t):
  Q3 prog 190 [.agg #[vs,vx,vk],vt] w λr w'=>r=oE oF 0/\O1 [] w w':=by
 refine Zq func190 ?_;refine Qc<|Qe<|QW (us:=[vs,vx,vk]) U λb2 w1 E ha I=>Qb<|Qd<|Qc<|Q6 I U U<|QM<|(zR (H.I E) (S.I E) (hK.I E)).mono ?_;rintro r2 w2 ⟨J,O⟩;rw[V]at J;subst J;refine Qb<|Qm<|ZB U U<|xe<|ZS rfl<|Qh ?_;have G:=E.D O;refine Qc<|Q6 (I.I O) U U<|Qa<|QM<|(QiE (H.I G) (T.I G) h).mono ?_;rintro r3 w3 ⟨rfl,Y⟩;refine Qb<|Qk ⟨[_],La,U,G.D Y⟩
def VW (qx:List UA)(ks:List xG)(t:LI):Int×Int×Bool :=
 if 0<=fix (Vy t) 0 qx then(1,fix (Vy t) 0 qx,true)else if 0<=fix (UD t) 0 ks then(2,fix (UD t) 0 ks,true)else(0,0,false)
theorem QkS {cds:List Cd}{qx:List XV}{ks:List KV}(t:LI)(h:cds.map Cd.src=qx.map Sum.inl++ks.map Sum.inr):
  fix (Cd.vio t) 0 cds=if 0<=fix (Vy t) 0 (qx.map (·.x))then fix (Vy t) 0 (qx.map (·.x))else if 0<=fix (UD t) 0 (ks.map (·.k))then fix (UD t) 0 (ks.map (·.k))+qx.length else -1:=by
 have E:fix (Cd.vio t) 0 cds=fix (QeA t) 0 (cds.map Cd.src):=(Vb (QeA t) Cd.src cds 0).symm;rw[E,h,zO,Vb,Lh,jh,Vb (QeA t) Sum.inr ks 0];have e1:fix (λa=>QeA t (Sum.inl a)) 0 qx=fix (Vy t) 0 (qx.map (·.x)):=(Vb (Vy t) XV.x qx 0).symm;have e2:fix (λa=>QeA t (Sum.inr a)) 0 ks=fix (UD t) 0 (ks.map (·.k)):=(Vb (UD t) KV.k ks 0).symm;rw[e1,e2]
theorem Qmk {P:Int×Int×Bool}{a b:Int}{c:Bool}(h:P=(a,b,c)):(Value.tuple #[oE oF a,oE oF b,.bool c,oE oF 0])=.tuple #[oE oF P.1,oE oF P.2.1,.bool P.2.2,oE oF 0]:=by rw[h]
theorem qd {sz t:LI}{qx:List XV}{ks:List KV}(hS:QP [] w.heap vs sz)(S:yp [] w.heap vx qx)(hK:yB [] w.heap vk ks)(ht:QP [] w.heap vt t)(hc:YB sz (qx.map (·.x)) (ks.map (·.k))=0)(h:QlJ sz t):
  Q3 prog 127 [.agg #[vs,vx,vk],vt] w λr w'=>O1 [] w w'/\r=.tuple #[oE oF (VW (qx.map (·.x)) (ks.map (·.k)) t).1,oE oF (VW (qx.map (·.x)) (ks.map (·.k)) t).2.1,.bool (VW (qx.map (·.x)) (ks.map (·.k)) t).2.2,oE oF 0]:=by
 have T:=K0 hc;have hu:qx.length<=32:=by have:=T.xl;simpa using this
 have hv:ks.length<=32:=by have:=T.kl;simpa using this
 refine Zq func127 ?_;refine Qc<|Qe<|QW (us:=[vs,vx,vk]) U λb2 w1 V h6 hj=>x Ql<|x Ql<|x Ql<|Qb<|Qd<|Qc<|Q6 hj U U<|Qa<|QM<|(yD (hS.I V) (S.I V) (hK.I V) (ht.I V) hc h).mono ?_;rintro r2 w2 ⟨rfl,hk⟩;refine Qb<|Qm<|ZB U U<|xe<|ZS rfl<|Qh ?_;have he:=V.D hk;have hl:=hj.I hk;refine Qc<|Q6 hl U U<|QM<|(Qis (S.I he) (hK.I he) hu hv).mono ?_;rintro r3 w3 ⟨hn,cds,hL,hf⟩;have hb:=he.D hn;have h7:cds.length=qx.length+ks.length:=by have:=OR oO hf;simpa using this
 have hw:∀i,i<t.length->0<=O2 t i/\O2 t i<=4096:=λi hi=>by
  have H:=h.2 i hi;have Y:i<sz.length:=by rw[<-h.1];exact hi
  have h3:=T.s _ (Lk Y);rw[ZG Y]at h3;omega
 have ho:∀c∈cds,c.src∈qx.map Sum.inl++ks.map Sum.inr:=λc I=>by rw[<-hf];exact LJ I
 have hy:∀c∈cds,CdA w3.heap c:=λc I=>by
  have H:=ho c I;have Y:=(hL.bx c I).1;cases c with
  | ex b q =>
   have G:q∈qx:=by simpa[Cd.src]using H
   exact⟨Y,(S.each q G).I hb⟩
  | co b q =>
   have G:q∈ks:=by simpa[Cd.src]using H
   exact⟨Y,(hK.each q G).I hb⟩
 have hz:∀c∈cds,c.rg t.length:=λc I=>by
  have H:=ho c I;rw[h.1];cases c with
  | ex b q =>
   have G:q∈qx:=by simpa[Cd.src]using H
   exact T.x q.x (LJ G)
  | co b q =>
   have G:q∈ks:=by simpa[Cd.src]using H
   exact T.k q.k (LJ G)
 have h0:=QkS t hf;have g1:=QcF (Vy t) (qx.map (·.x)) 0;have g2:=QcF (UD t) (ks.map (·.k)) 0;simp only[Ol]at g1 g2;refine Qa<|QM<|(QaC (QK (L:=[]) hL.own oa oe) hy (ht.I hb) hz hw).mono ?_;rintro r4 w4 ⟨rfl,hp⟩;rw[h0];have ha:=hb.D hp;refine Zo (VW (qx.map (·.x)) (ks.map (·.k)) t) λP J=>?_;rw[J];unfold VW at J;refine Zo (fix (Vy t) 0 (qx.map (·.x))) λO hg=>?_;refine Zo (fix (UD t) 0 (ks.map (·.k))) λi2 hh=>?_;rw[hg,hh]at J;rw[hg]at g1;rw[hh]at g2;refine Zo (if 0<=O then O else if 0<=i2 then i2+(qx.length:Int)else -1) λr E=>?_
 rw[hg,hh,E];refine Qb<|Qg<|Qm<|Q0 U U<|Qb<|QX U (λh4=>?_) (λh4=>?_)
 ·have n1:¬0<=O:=λh=>by rw[OQ h]at E;omega
  have n2:¬0<=i2:=λh=>by rw[OP n1,OQ h]at E;omega
  refine Qc<|x Ql<|x Ql<|x Ql<|Qb<|Qk ⟨[_,_,_,_],oB,ha,Qmk (by rw[<-J,OP n1,OP n2])⟩
 have hs:=(hl.I hn).I hp;refine Qm<|Qs U hs U U<|QI (S.I ha).arr U<|Q0 U U<|Qb<|QX U (λh5=>?_) (λh5=>?_)
 ·have p1:0<=O:=by
   refine Ln.1 λn1=>?_;by_cases h:0<=i2
   ·rw[OP n1,OQ h]at E;omega
   rw[OP n1,OP h]at E;omega
  have e:r=O:=by rw[OQ p1]at E;exact E.symm
  refine Qm<|x Ql<|x Ql<|x Ql<|Qb<|Qk ⟨[_,_,_,_],oB,ha,Qmk (by rw[<-J,OQ p1,e])⟩
 have n1:¬0<=O:=λh=>by rw[OQ h]at E;omega
 have p2:0<=i2:=by
  refine Ln.1 λn2=>?_;rw[OP n1,OP n2]at E;omega
 have e:r - (qx.length:Int)=i2:=by rw[OP n1,OQ p2]at E;omega
 refine Qd<|ZI [] (Xx 0 9 [])<|p QF<|p (QR U)<|pq (λ_ hc=>Qr (hs.I hc) U U)<|p (λ_=>Yv (S.I ha).arr U) <|
  p (λ_=>Jo U U ⟨oa,oa⟩)<|p ZM<|p ZM<|p ZM<|p ZM <|
  pe ?_
 exact Qk ⟨[_,_,_,_],oB,ha.D (O1.C _ _),Qmk (by rw[<-J,OP n1,OQ p2,<-e])⟩
def YH (base:Nat)(av:LN)(H:xu)(v:OY)(n sz:Nat)(cs:LV):Prop:=∀L:LN,(∀b∈L,b<base\/b∈av)->Zm L H v n sz cs
theorem YH.I {base:Nat}{av:LN}{w w':OX}{v:OY}{n sz:Nat}{cs:LV}(h:YH base av w.heap v n sz cs)(E:O1 [] w w'):YH base av w'.heap v n sz cs:=λL G=>(h L G).I E
theorem YH.app {base:Nat}{I:LN}{v:OY}(h:YH base av w.heap v n sz cs)(J:O1 av w w')(O:∀b∈I,b∈av\/w.heap.size<=b):YH base I w'.heap v n sz cs:=by
 intro L S;have T:Zm (av++L.filter λb=>decide (b<base)) w.heap v n sz cs:=h _ (λb E=>by
  rcases Lc.1 E with E|E
  ·exact .inr E
  exact .inl (by simpa using(Md.1 E).2))
 refine T.grow J (λb E=>Lc.2 (.inl E)) λb E=>?_;rcases S b E with G|G
 ·exact .inl (Lc.2 (.inr (Md.2 ⟨E,oy G⟩)))
 rcases O b G with H|H
 ·exact .inl (Lc.2 (.inl H))
 exact .inr H
theorem YH.of_own {base:Nat}{v:OY}{e:Nat}(h:w.ownsRow N e sz v n cs)(H:n<=1099511627776)(E:base<=N)(I:∀b∈av,b<N):YH base av w.heap v n sz cs:=λL J =>
 QK h H λb E hbL=>by
  have O:=(Qi h b E).1;rcases J b hbL with G|G
  ·omega
  have:=I b G;omega
structure Yu {α:Type}(g:α->LV)(sz T:Nat)(p:α->OY×Nat×Nat×LV)(base:Nat)(w:OX)(v:OY)(l:List α):Prop where
 own:w.ownsRow base T sz v l.length (l.flatMap g)
 each:∀q∈l,YH base (ob v) w.heap (p q).1 (p q).2.1 (p q).2.2.1 (p q).2.2.2
theorem Yu.nil {g:α->LV}{p:α->OY×Nat×Nat×LV}{base:Nat}:Yu g sz T p base w (nS) []:=⟨QJ _ _ _ _,λq E=>by cases E⟩
theorem Yu.I {α:Type}{g:α->LV}{sz T:Nat}{p:α->OY×Nat×Nat×LV}{base:Nat}{w w':OX}{v:OY}{l:List α}(h:Yu g sz T p base w v l)(E:O1 [] w w'):Yu g sz T p base w' v l:=⟨Qq h.own E,λq G=>(h.each q G).I E⟩
theorem Yu.app {α:Type}{g:α->LV}{sz T:Nat}{p:α->OY×Nat×Nat×LV}{base N e:Nat}{w E G:OX}{v H:OY}{l:List α}{q:α}(h:Yu g sz T p base w v l)(S:O1 [] w E)
  (V:E.ownsRow N e (p q).2.2.1 (p q).1 (p q).2.1 (p q).2.2.2) (Y:(p q).2.1<=1099511627776) (hN:w.heap.size<=N) (I:base<=w.heap.size)
  (ho:G.ownsRow base T sz H (l.length+1) (l.flatMap g++g q)) (J:O1 (ob v) E G) (O:∀b∈ob H,b∈ob v\/E.heap.size<=b):Yu g sz T p base G H (l++[q]):=by
 have ha:=Zf h.own;refine⟨?_,λd hd=>?_⟩
 ·rw[Ll,LB];simpa using ho
 rcases Lc.1 hd with hd|hd
 ·exact((h.each d hd).I S).app J O
 simp only[oH]at hd;subst hd;exact(YH.of_own V Y oa (λb I=>ot (ha b I))).app J O
theorem QbZ {ha hb hc:OY}{b:Q2}(h:ZH L w.heap va vm ve a)(h':ZH L' w.heap ha hb hc b):
  Q3 prog 55 [.agg #[va,oE oF a.st,vm,ve],.agg #[ha,oE oF b.st,hb,hc]] w λr w'=>r=.bool (decide (a.st=b.st/\a.al=b.al/\a.mr=b.mr/\a.ed=b.ed))/\O1 [] w w':=by
 refine Zq func55 ?_;refine Qc<|Qe<|QW (us:=[va,oE oF a.st,vm,ve]) U λb2 w1 hh hl hi=>Qe<|QW (us:=[ha,oE oF b.st,hb,hc]) U λb3 w2 he E H=>Qb ?_;have I:=hh.D he;have J:=hi.I he;refine Za (α:=Bool) [(4,30)] (λz=>[(4,.bool z)]) (λz w'=>O1 [] w w'/\z=decide (a.st=b.st/\a.al=b.al/\a.mr=b.mr/\a.ed=b.ed)) ol ?_ ?_
 ·refine Qw<|Qs U J U U<|Qs U H U U<|xb (QY U U) (λh9=>?_) (λh9=>?_)
  ·refine Qa<|Qs U J U U<|Qs U H U U<|QM<|(Vc (h.al.I I) (h'.al.I I)).mono ?_;rintro r3 w3 ⟨O,S⟩;have T:=I.D S;refine Qh2 (decide (a.al=b.al)) (λE=>?_) (λE=>?_)
   ·rw[E]at O;subst O;refine QG U<|Qa<|Qs U (J.I S) U U<|Qs U (H.I S) U U<|QM<|(Vc (h.mr.I T) (h'.mr.I T)).mono ?_;rintro r4 w4 ⟨V,hf⟩;have Y:=T.D hf;have hg:=S.D hf;refine Qh2 (decide (a.mr=b.mr)) (λG=>?_) (λG=>?_)
    ·rw[G]at V;subst V;refine QG U<|Qa<|Qs U (J.I hg) U U<|Qs U (H.I hg) U U<|QM<|(Qfm (h.ed.I Y) (h'.ed.I Y)).mono ?_;rintro r5 w5 ⟨rfl,hj⟩;refine QG U<|Qb<|⟨_,La,Y.D hj,bD ⟨λe=>⟨h9,OU E,OU G,e⟩,λe=>e.2.2.2⟩⟩
    rw[G]at V;subst V;refine QG U<|Qa<|Qp<|Qp<|Qp<|Qp<|Qp<|QG U<|Qb<|⟨_,La,Y,bF (λe=>OW G e.2.2.1)⟩
   rw[E]at O;subst O;refine QG U<|Qa<|Qp<|Qp<|Qp<|Qp<|Qp<|QG U<|Qa<|Qp<|Qp<|Qp<|Qp<|Qp<|x (zh U) <|
    Qb<|⟨_,La,T,bF (λe=>OW E e.2.1)⟩
  refine Qa<|Qp<|Qp<|Qp<|Qp<|Qp<|QG U<|Qa<|Qp<|Qp<|Qp<|Qp<|Qp<|x (zh U) <|
   Qa<|Qp<|Qp<|Qp<|Qp<|Qp<|QG U<|Qb<|⟨_,La,I,bF (λe=>h9 e.1)⟩
 rintro z g w6 ⟨hk,rfl⟩;exact Qk ⟨[_],La,U,hk⟩
theorem Qjg (h:ZH L w.heap va vm ve a):
  Q3 prog 149 [.agg #[va,oE oF a.st,vm,ve]] w λr w'=>r=.bool (KS a)/\O1 [] w w':=by
 refine Zq func149 ?_;refine Qc<|Qe<|QW (us:=[va,oE oF a.st,vm,ve]) U λb1 S hb hg G=>Qb<|Za (α:=Bool) [(2,11)] (λz=>[(2,.bool z)]) (λz w'=>O1 [] w w'/\z=KS a) ol ?_ ?_
 ·refine ZI [] (Xx 0 10 [1,6,7]) ?_;have T:=hb.D (O1.C [] S);refine pq (λ_ E=>ZT (G.J E oe) rfl rfl)<|pk<|xg<|(X1 (h.I T)).mono ?_;rintro r2 w2 ⟨rfl,V⟩;have H:=T.D V;have I:=(O1.C [] S).D V;refine⟨I,?_⟩;refine pb (λ_=>QY U U) (λJ=>?_) (λJ=>?_)
  ·have E:X9 a=0:=J;refine p QF<|pq (λ_ E=>ZT (G.J E oe) rfl rfl)<|pq (λ_ E=>ZT (G.J E oe) rfl rfl) <|
    pk<|xg<|(Jf (h.I H) ((Z0 a).1 E)).mono ?_
   rintro r3 w3 ⟨O,hh,hi,hj,rfl,he⟩;have Y:=H.D O;refine⟨I.D O,?_⟩;refine pk<|xg<|(QbZ (h.I Y) (he [] oe)).mono ?_;rintro r4 w4 ⟨rfl,ha⟩;refine⟨(I.D O).D ha,?_⟩;refine p (Xf U)<|p ZM<|pe ?_;refine⟨_,La,Y.D ha,?_⟩;unfold KS;rw[OT E,OH];exact bD ⟨λe=>⟨e.1.symm,e.2.1.symm,e.2.2.1.symm,e.2.2.2.symm⟩,λe=>⟨e.1.symm,e.2.1.symm,e.2.2.1.symm,e.2.2.2.symm⟩⟩
  have E:¬X9 a=0:=J;refine p QF<|ps<|ps<|ps<|ps<|p (Xf U)<|p ZM<|pe ?_;exact⟨_,La,H,by unfold KS;rw[OV E];rfl⟩
 rintro z g w5 ⟨hf,rfl⟩;exact Qk ⟨[_],La,U,hf⟩
section
variable {pS:String}
theorem Zs [Ag P t sz]{x:OZ}{o:Nat}(h:Q9 w.heap b T cs)(hx:ev f x=.pointer (some ⟨b,o,none⟩))(hl:us.length=sz)(G:(cs.drop o).take sz=us):
  (execOp (ev f) ⟨d,.load t x,ty,pS,af,gd⟩).run P w=.ok (.value (.agg us.toArray)) w:=jV hx hl λj v E=>by
 rw[Ub,jt,h.cell];rw[<-G,LX]at E;split at E
 ·simpa using E
 cases E
end
theorem Qcz {v:OY}{qs:List IV}(h:XH L w.heap v qs):
  Q3 prog 186 [v] w λr w'=>O1 [] w w'/\w'.ownsRow w.heap.size 59 4 r (qs.map (·.p)).length ((qs.map (·.p)).flatMap ZV):=by
 have ho:=h.arr.le;refine Zq func186 ?_;refine Qc<|Qb<|Qc<|Qb<|Qd<|Qm<|QI h.arr U<|Qa<|xe<|Qg<|QD (α:=Nat×OY) [(3,3),(5,5),(8,17)] (λz=>[(3,z.2),(8,oE oF z.1)]) (λz w'=>z.1<=qs.length/\O1 [] w w'/\w'.ownsRow w.heap.size 59 4 z.2 z.1 (((qs.take z.1).map (·.p)).flatMap ZV)) (λz=>qs.length - z.1) ol (0,nS) oz
  ⟨Lo _,O1.Z _ _,QJ _ _ _ _⟩ ?_
 rintro⟨k,vo⟩ g w1 ⟨hk,H,I⟩;simp only[]at hk I;refine Qc<|Q0 U U<|xe<|Qd<|QH U (λO=>?_) (λO=>?_)
 ·refine Qz ?_;have hc:k=qs.length:=by have J:¬(k:Int)<(qs.length:Int):=O;omega
  subst hc;rw[Lr (Lv _)]at I;refine Qm<|Qb<|Qk ⟨[_],La,H,by rw[Lh];exact I⟩
 have E:k<qs.length:=by have J:(k:Int)<(qs.length:Int):=O;omega
 have V:=Lk E;have Y:qs.take (k+1)=qs.take k++[qs[k]'E]:=Lm E;refine Qh<|Qd<|Qg<|Qc<|O4 Ys (h.arr.I H) U U E λhp J=>?_;refine Zo (qs[k]'E) λq hq=>?_;rw[hq]at J V Y;have G:=h.each q V;refine x (Qx J U U)<|Qe<|Qo (us:=[.string .empty,nS,oE oF 0,nS,nS]) U λb5 w2 he hf S=>Qe<|Qj (us:=QO q) S U U U U ⟨U,G.al.one,U,G.mr.one,G.ed.one,Z⟩ λw3 hg S =>
  xe ?_
 have hh:O1 [] w1 w3:=he.O hg hf;refine Qw<|Qa<|Q7 U<|x (Zs (us:=ZV q.p) S U U U)<|Qe<|QB (us:=[ZV q.p]) U U og oe ⟨rfl,rfl,Z⟩ λhr w4 hi hs hj=>?_;have T:=hh.D hi;have ha:=Qq I T;have ht:=(H.D T).size;have hl:∀u∈ZV q.p,u.oneCell'=true:=by
  intro u hu;simp only[oK,oI,or_false]at hu;rcases hu with rfl|rfl|rfl|rfl
  ·exact G.al.one
  ·rfl
  ·exact G.mr.one
  exact G.ed.one
 refine Qe<|Zb (news:=ZV q.p) (L:=[]) ha U U U (hj.at oe) hl oa oa λv5 w5 hm hn hv=>Qb ?_;have hge:=Qi ha;refine Qw<|QS U U<|Qa<|xe<|⟨(k+1,v5),oh,oz,E,(H.D T).then hn (λb hb=>.inr (hge b hb).1),?_⟩;simp only[];rw[Y,Lt,LB];simpa using hm
theorem QhE {r:OY}{base e:Nat}{ps:List AV}(h:w.ownsRow base e 4 r ps.length (ps.flatMap ZV))(E:ps.length<=1099511627776)(G:∀b∈L,b<base)(H:∀p∈ps,ZH L w.heap p.va p.vm p.ve p.a):Kf L w.heap r ps :=
 ⟨QK h E (λb I hbL=>ou (Qi h b I).1 (G b hbL)),H⟩
theorem QhD {n m:Int}(E:Q9 w.heap b 3 [oE oF m]):
  Q3 prog 151 ([oE oF n]++[.pointer (some ⟨b,0,none⟩)]) w λr w'=>r=.bool (decide (m<=n))/\O1 [] w w':=by
 refine Zq func151 ?_;refine Qc<|Qb<|Qm<|X2 E U U<|x (Yw U U)<|Qb<|Qk ⟨[_],La,U,O1.Z _ _⟩
abbrev Ue (n:Int):LV:=[oE oF n]
theorem Qm8 (n:Int):(Ue n).length=1:=rfl
theorem Ql4:∀l:LI,l.flatMap Ue=l.map (.int .i64)
 | []=>rfl
 | a::l=>by rw[LG,Ql4 l];rfl
theorem QP.fl {v:OY}(h:QP L H v l):Zm L H v l.length 1 (l.flatMap Ue):=by
 rw[Ql4 l];exact h
theorem Qm4 {gp:Nat}[Fu prog gp fn]{cap:LV}{q:Int->Bool}{v:OY}(h:Zm L w.heap v l.length 1 (l.flatMap Ue))
  (Y:∀e∈l,∀(G:OX),O1 [] w G->Q3 prog gp ([oE oF e]++cap) G λr w'=>r=.bool (q e)/\O1 [] G w'):
  Q3 prog 74 [v,.func (.func gp) #[] cap.toArray] w λr w'=>r=oE oF (fix q 0 l)/\O1 [] w w':=by
 have hc:=h.le;refine Zq func74 ?_;refine Qc<|Qb<|Qd<|Qm<|QI h U<|Qa<|xe<|Qg<|QD (α:=Nat) [(4,5),(8,18)] (λz=>[(8,oE oF z)]) (λz w'=>z<=l.length/\O1 [] w w'/\fix q z (l.drop z)=fix q 0 l) (λz=>l.length - z) ol 0 La
  ⟨Lo _,O1.Z _ _,U⟩ ?_
 rintro k g G ⟨hk1,H,E⟩;refine Qc<|Q0 U U<|xe<|Qd<|QH U (λJ=>?_) (λJ=>?_)
 ·refine Qz ?_;have ha:l.length<=k:=by have hb:¬(k:Int)<(l.length:Int):=J;omega
  rw[Lp ha]at E;refine Qc<|Qb<|Qk ⟨[_],La,by rw[<-E];rfl,H⟩
 have I:k<l.length:=by have hb:(k:Int)<(l.length:Int):=J;omega
 rw[Zd I,Yz]at E;have S:=Lk I;refine Qh<|Qd<|Qg<|Qm<|Qb<|Qm<|Qa<|Qa<|O4 Qm8 (h.I H) U U I λhf T=>?_;refine Zo (l[k]'I) λe he=>?_;rw[he]at T E S;refine x (QA T U)<|Qe<|xc (first:=[]) (capt:=cap) U<|(Y e S G H).mono ?_;rintro r2 w2 ⟨rfl,V⟩;refine xe<|QQ rfl (λO=>?_) (λO=>?_)
 ·rw[OQ O]at E;refine Qm<|Qb<|Qk ⟨[_],La,by rw[<-E];rfl,H.D V⟩
 rw[OP (by rw[O];decide)]at E;refine Qh<|Qw<|QS U U<|Qa<|xe ?_;exact⟨k+1,oa,La,I,H.D V,E⟩
theorem QnA {gp:Nat}[Fu prog gp fn]{cap:LV}{q:Int->Bool}{v:OY}(h:Zm L w.heap v l.length 1 (l.flatMap Ue))
  (G:∀e∈l,∀(E:OX),O1 [] w E->Q3 prog gp ([oE oF e]++cap) E λr w'=>r=.bool (q e)/\O1 [] E w'):
  Q3 prog 150 [v,.func (.func gp) #[] cap.toArray] w λr w'=>r=.bool (l.any q)/\O1 [] w w':=by
 refine Zq func150 ?_;refine Qc<|Qb<|Qm<|Qa<|ZO<|(Qm4 h G).mono ?_;rintro I E ⟨rfl,H⟩;refine x (Yw U U)<|Qb<|Qk ⟨[_],La,OR Value.bool (Qag q l 0),H⟩
theorem QdO {q:IV}{nev:Nat}{vg:OY}{amg:LI}{bm:Nat}{seen:List ByteArray}(hA:ZH L w.heap q.p.va q.p.vm q.p.ve q.p.a)(h1:J0 q.nm)(hg:QP L' w.heap vg amg)(hD:amg.length<=4096)(hm:Yi Jt w.heap bm (nmM seen))(hbL:bm∈L)(h2:bm∈L'):
  Q3 prog 82 [.agg (QO q).toArray,oE oF nev,vg,.map (some bm)] w λr w'=>r=oE oF (Yb nev amg seen q.it)/\O1 [bm] w w'/\(Yb nev amg seen q.it=0->Yi Jt w'.heap bm (nmM (seen++[q.nm]))):=by
 have E:Yb nev amg seen q.it=(if JE q.nm=false then 7 else if q.nm∈seen then 8 else if X9 q.p.a≠0 then X9 q.p.a else if KS q.p.a=false then 6 else if q.p.a.st=0 then 12 else
  if(q.p.a.al.any λe=>decide ((nev:Int)<=e))=true then 2 else if(mns q.p.a.al amg).length≠0 then 9 else 0):=rfl
 refine Zo (Yb nev amg seen q.it) λR hR=>?_;rw[hR]at E ⊢;refine Zq func82 ?_;refine Qc<|Qe<|QW (us:=QO q) U λb4 w1 ht hE h3=>Qe<|QW (us:=[oE oF nev]) U λb5 w2 T hF h4=>Qb ?_;have V:=ht.D T;have Y:=h3.I T;refine Qd<|Qg<|Qc<|Qs U Y U U<|ZO<|(Vi q.nm h1 w2).mono ?_;rintro r3 w3 ⟨rfl,rfl⟩;refine x (ZC U)<|Qb<|QQ U (λhi=>?_) (λhi=>?_)
 ·have G:JE q.nm=false:=by simpa using hi
  rw[OQ G]at E;subst E;refine Qc<|Qb<|Qk ⟨[_],La,U,V.any,λe=>OS e og⟩
 have G:¬JE q.nm=false:=by simpa using hi
 rw[OP G]at E;have hu:=hm.I V;refine Qm<|Qs U Y U U<|x (QaZ hu U U)<|Qb<|QX U (λha=>?_) (λha=>?_)
 ·rw[OQ ha]at E;subst E;refine Qc<|Qb<|Qk ⟨[_],La,U,V.any,λe=>OS e og⟩
 rw[OP ha]at E;refine Qh ?_;have hG:=hm.lt;refine Qm<|Qs U Y U U<|Qe<|Xv (k:=q.nm) hu U U λw4 hj hv=>xe ?_;rw[show ev _ _=Value.bool true from rfl,Qdv ha]at hv;have H:O1 [bm] w w4:=V.any.Q hj;have hH:=ht.size;have hc:=Y.J hj (by simp;omega);have h5:=h4.J hj (by simp;omega);have hf:ZH L w4.heap q.p.va q.p.vm q.p.ve q.p.a:=hA.st (H.mono (λb I=>by simp at I;subst I;exact hbL));have h6:QP L' w4.heap vg amg:=hg.st (H.mono (λb I=>by simp at I;subst I;exact h2));refine Qd<|Qc<|Q7 U<|x (Zs (us:=ZV q.p) hc U U U)<|ZO<|(X1 hf).mono ?_;rintro r5 w5 ⟨rfl,hh⟩;refine Qb<|Qm<|ZB U U<|xe<|QX rfl (λJ=>?_) (λJ=>?_)
 ·rw[OQ J]at E;subst E;refine Qm<|Qb<|Qk ⟨[_],La,U,H.D hh,λe=>OS e J⟩
 rw[OP J]at E;have h7:=(Z0 q.p.a).1 (Ln.1 J);refine Qh<|Qd<|Qg<|Qc<|Q7 U<|x (Zs (us:=ZV q.p) (hc.I hh) U U U)<|ZO<|(Qjg (hf.I hh)).mono ?_;rintro r6 w6 ⟨rfl,h8⟩;have O:=hh.D h8;have hw:=H.D O;have hy:=hc.I O;refine x (ZC U)<|Qb<|QQ U (λhk=>?_) (λhk=>?_)
 ·have G:KS q.p.a=false:=by simpa using hk
  rw[OQ G]at E;subst E;refine Qc<|Qb<|Qk ⟨[_],La,U,hw,λe=>OS e og⟩
 have G:¬KS q.p.a=false:=by simpa using hk
 rw[OP G]at E;refine Qc<|Q7 U<|Qs U hy U U<|x (QY U U)<|Qb<|QX U (λhl=>?_) (λhl=>?_)
 ·have ho:q.p.a.st=0:=hl;rw[OQ ho]at E;subst E;refine Qc<|Qb<|Qk ⟨[_],La,U,hw,λe=>OS e og⟩
 have ho:¬q.p.a.st=0:=hl;rw[OP ho]at E;refine Qc<|Q7 U<|Qs U hy U U<|x Zz<|ZO<|(QnA (q:=λe=>decide ((nev:Int)<=e)) (cap:=[.pointer (some ⟨b5,0,none⟩)]) (QP.fl (hf.al.I O)) (λe he w2 T=>QhD ((h5.I O).I T))).mono ?_;rintro r7 w7 ⟨rfl,h9⟩;have S:=O.D h9;have hB:=H.D S;refine Qb<|QQ U (λhp=>?_) (λhp=>?_)
 ·rw[OQ hp]at E;subst E;refine Qc<|Qb<|Qk ⟨[_],La,U,hB,λe=>OS e og⟩
 rw[OP (by rw[hp];decide)]at E;have hI:=h7.al_le;refine Qc<|Q7 U<|Qs U (hc.I S) U U<|Qa<|ZO<|(QfO (hf.al.I S) (h6.I S) oa).mono ?_;rintro r8 w8 ⟨hC,rfl⟩;have hz:=S.D hC;have h0:=H.D hz;refine x (zi U)<|Qb<|QX U (λhq=>?_) (λhq=>?_)
 ·have hs:(mns q.p.a.al amg).length≠0:=λe=>hq (Ls e);rw[OQ hs]at E;subst E;refine Qc<|Qb<|Qk ⟨[_],La,U,h0,λe=>OS e og⟩
 have hs:¬(mns q.p.a.al amg).length≠0:=λe=>hq (λh=>e (by rw[show mns q.p.a.al amg=[] from h];rfl));rw[OP hs]at E;subst E;refine Qh<|Qc<|Qb<|Qk ⟨[_],La,U,h0,λ_=>hv.I hz⟩
theorem jo {v:OY}{l:xq}(h:yz L w.heap v l):
  Q3 prog 90 [v] w λr w'=>O1 [] w w'/\w'.ownsRow w.heap.size 118 2 r l.length (l.flatMap QN):=by
 have hc:=h.le;refine Zq func90 ?_;refine Qc<|Qb ?_;obtain⟨ao,cap,G⟩:=h.shape;refine Qd<|Qm<|x (Xs (show ev _ _=_ from G) U)<|xe<|QQ rfl (λH=>?_) (λH=>?_)
 ·refine Qc<|Qb<|Qk ⟨[nS],La,O1.Z _ _,?_⟩;rcases h.2.2 with⟨E,I⟩|⟨a,c,E,_⟩
  ·have:l=[]:=Ls I;subst this;exact QJ _ _ _ _
  rw[E]at G;cases G;cases H
 rcases h.2.2 with⟨E,I⟩|⟨a,c,E,I,V⟩
 ·rw[E]at G;injection G with e1;subst e1;cases H
 refine Qh<|Qc ?_;have Y:∀u∈l.flatMap QN,u.oneCell'=true:=by
  intro u hu;obtain⟨p,_,J⟩:=Ma.1 hu;simp only[oK,oI,or_false]at J;rcases J with rfl|rfl <;> rfl
 refine Qe<|Xw λb5 w1 O S T=>Qa<|Qe<|Zb (base:=w.heap.size) (T.own (n:=0) (sz:=2) U oa S) U (show ev _ _=_ from E) h.1 (V.I O) Y oa (ot T.lt) λv2 w2 ha hb he=>Qb<|Qk ⟨[v2],La,O.O hb S,?_⟩;simpa[tup]using ha
theorem jn {v:OY}{l:xq}(h:yz L w.heap v l):
  Q3 prog 91 [v] w λr w'=>O1 [] w w'/\w'.ownsRow w.heap.size 123 2 r l.length (l.flatMap QN):=by
 have hc:=h.le;refine Zq func91 ?_;refine Qc<|Qb ?_;obtain⟨ao,cap,G⟩:=h.shape;refine Qd<|Qm<|x (Xs (show ev _ _=_ from G) U)<|xe<|QQ rfl (λH=>?_) (λH=>?_)
 ·refine Qc<|Qb<|Qk ⟨[nS],La,O1.Z _ _,?_⟩;rcases h.2.2 with⟨E,I⟩|⟨a,c,E,_⟩
  ·have:l=[]:=Ls I;subst this;exact QJ _ _ _ _
  rw[E]at G;cases G;cases H
 rcases h.2.2 with⟨E,I⟩|⟨a,c,E,I,V⟩
 ·rw[E]at G;injection G with e1;subst e1;cases H
 refine Qh<|Qc ?_;have Y:∀u∈l.flatMap QN,u.oneCell'=true:=by
  intro u hu;obtain⟨p,_,J⟩:=Ma.1 hu;simp only[oK,oI,or_false]at J;rcases J with rfl|rfl <;> rfl
 refine Qe<|Xw λb5 w1 O S T=>Qa<|Qe<|Zb (base:=w.heap.size) (T.own (n:=0) (sz:=2) U oa S) U (show ev _ _=_ from E) h.1 (V.I O) Y oa (ot T.lt) λv2 w2 ha hb he=>Qb<|Qk ⟨[v2],La,O.O hb S,?_⟩;simpa[tup]using ha
theorem YH.low {base:Nat}{v:OY}(h:YH base av w.heap v n sz cs)(G:O1 X w w')(H:∀b∈X,b<base):YH base av w'.heap v n sz cs:=by
 intro L I;have J:Zm (X++L) w.heap v n sz cs:=h _ (λb E=>by
  rcases Lc.1 E with E|E
  ·exact .inl (H b E)
  exact I b E)
 exact(J.J G (λb E=>Lc.2 (.inl E))).up (λb E=>.inl (Lc.2 (.inr E)))
theorem Yu.low {α:Type}{g:α->LV}{sz T:Nat}{p:α->OY×Nat×Nat×LV}{base:Nat}{X:LN}{w w':OX}{v:OY}{l:List α}(h:Yu g sz T p base w v l)(E:O1 X w w')(G:∀b∈X,b<base):Yu g sz T p base w' v l :=
 ⟨Qf h.own E (λb H I=>ou (Qi h.own b H).1 (G b I)),λq J=>(h.each q J).low E G⟩
theorem Yu.arr {g:α->LV}{p:α->OY×Nat×Nat×LV}{base:Nat}{v:OY}{l:List α}(h:Yu g sz T p base w v l)(E:l.length<=1099511627776)(G:∀b∈L,b<base):Zm L w.heap v l.length sz (l.flatMap g):=
 QK h.own E (λb H hbL=>ou (Qi h.own b H).1 (G b hbL))
abbrev xvP (q:XV):OY×Nat×Nat×LV:=(q.v,q.ls.length,2,q.ls.flatMap QN)
abbrev kvP (q:KV):OY×Nat×Nat×LV:=(q.v,q.ts.length,2,q.ts.flatMap QN)
abbrev XvN (base:Nat)(w:OX)(v:OY)(l:List XV):Prop:=Yu Q8 2 116 xvP base w v l
abbrev KvN (base:Nat)(w:OX)(v:OY)(l:List KV):Prop:=Yu Q5 3 121 kvP base w v l
theorem XvN.xcs {base:Nat}{v:OY}{l:List XV}{qs:List XV}(h:XvN base w v l)(J:l.map (·.x)=qs.map (·.x))(E:∀q∈qs,J0 q.nm)(O:l.length<=1099511627776)(G:∀b∈L,b<base):yp L w.heap v l:=by
 refine⟨h.arr O G,λq E=>h.each q E L (λb S=>.inl (G b S)),λq T=>?_⟩;have V:q.x∈qs.map (·.x):=by rw[<-J];exact LJ T
 obtain⟨H,Y,e⟩:=LC.1 V;have I:=E H Y;have h3:H.nm=q.nm:=OR UA.nm e;rw[h3]at I;exact I
theorem KvN.kcs {base:Nat}{v:OY}{l:List KV}{qs:List KV}(h:KvN base w v l)(J:l.map (·.k)=qs.map (·.k))(E:∀q∈qs,J0 q.nm)(O:l.length<=1099511627776)(G:∀b∈L,b<base):yB L w.heap v l:=by
 refine⟨h.arr O G,λq E=>h.each q E L (λb S=>.inl (G b S)),λq T=>?_⟩;have V:q.k∈qs.map (·.k):=by rw[<-J];exact LJ T
 obtain⟨H,Y,e⟩:=LC.1 V;have I:=E H Y;have h3:H.nm=q.nm:=OR xG.nm e;rw[h3]at I;exact I
theorem Qu {base e:Nat}{v:OY}(h:w.ownsRow base e sz v n cs):v.oneCell'=true:=by
 rcases h.2 with⟨E,_⟩|⟨g,cap,cur,E,_⟩ <;> subst E <;> rfl
theorem xH {base e:Nat}{v:OY}(h:w.ownsRow base e sz v n cs):v.cells=#[v]:=by
 rcases h.2 with⟨E,_⟩|⟨g,cap,cur,E,_⟩ <;> subst E <;> rfl
theorem Qdb {q:XV}(h:q.v.oneCell'=true):∀u∈Q8 q,u.oneCell'=true:=by
 intro u E;simp only[oK,oI,or_false]at E;rcases E with rfl|rfl
 ·rfl
 exact h
theorem QdI {q:KV}(h:q.v.oneCell'=true):∀u∈Q5 q,u.oneCell'=true:=by
 intro u E;simp only[oK,oI,or_false]at E;rcases E with rfl|rfl|rfl
 ·rfl
 ·exact h
 rfl
def QpW (N:Nat)(w:OX)(r:OY)(sz:LI)(ex:List UA)(cs:List xG):Prop:=∃vs vx vk qx ks,r=.agg #[vs,vx,vk]/\qx.map (·.x)=ex/\ks.map (·.k)=cs/\∀L:LN,(∀b∈L,b<N)->QP L w.heap vs sz/\yp L w.heap vx qx/\yB L w.heap vk ks
theorem jy {c:CL}(h:ZJ L w.heap c):
  Q3 prog 85 [c.val] w λr w'=>O1 [] w w'/\QpW w.heap.size w' r (szs c.V.co) c.V.ex c.V.cs:=by
 have m9:=h.co.arr.le;have pa:=h.ex.arr.le;have pc:=h.cs.arr.le;refine Zq func85 ?_;refine Qc<|Qe<|QW (us:=c.cells) U λb1 w1 ga pd gb=>Qe<|Qo (us:=[nS,nS,nS]) U λb2 w2 gc pf gg=>xe ?_;have pg:=ga.size;have ph:=gb.lt;have pj:=gg.lt;refine Qc<|x (Qy Z)<|Qe<|Qo (us:=[nS,nS,nS]) U λG w3 g8 g9 h8=>Qe<|Qj (us:=[nS,nS,nS]) h8 U U U U oA λw4 ka h8 =>
  xe ?_
 have pm:=h8.lt;have V:O1 [] w2 w4:=g8.O ka g9;have gh:O1 [] w w4:=(ga.D gc).D V;have gi:=(gb.I gc).I V;have kb:=gg.I V;have h4:=h.I gh;have pn:b1<G:=oa
 have po:b2<G:=oa
 have kc:w.heap.size<=G:=oa
 have hJ:∀{wa wb:OX},O1 [G] wa wb->O1 [] w wa->O1 [] w wb:=λha E=>E.O ha kc;refine Qd<|Qc<|Qs U gi U U<|QI h4.co.arr U<|Qa<|xe<|Qg<|QD (α:=Nat×OY) [(5,5),(14,26)] (λz=>[(14,oE oF z.1)]) (λz w'=>z.1<=c.co.length/\O1 [G] w4 w'/\Q9 w'.heap G 206 [z.2,nS,nS]/\Qv 3 w4.heap.size w' z.2 ((c.co.take z.1).map (·.p.a.st))) (λz=>c.co.length - z.1) ol (0,nS) La
  ⟨Lo _,O1.Z _ _,h8,QJ _ _ _ _⟩ ?_
 rintro⟨k,vs⟩ g w5 ⟨hk,hv,h9,O⟩;simp only[]at hk h9 O;have gj:=hJ hv gh;have h5:=h.I gj;have gk:=gi.J hv (by simp;omega);have ke:=kb.J hv (by simp;omega);have pp:=hv.size;refine Qc<|Q0 U U<|xe<|Qd<|QH U (λhK=>?_) (λhK=>?_)
 ·refine Qz ?_;have kf:c.co.length<=k:=by have T:¬(k:Int)<(c.co.length:Int):=hK;omega
  rw[Lr kf]at O;refine Qd<|Qc<|Qs U gk U U<|QI h5.ex.arr U<|Qa<|xe<|Qg<|QD (α:=Nat×OY×List XV) [(7,7),(30,45)] (λz=>[(30,oE oF z.1)]) (λz w'=>z.1<=c.ex.length/\O1 [G] w5 w'/\Q9 w'.heap G 206 [vs,z.2.1,nS]/\XvN w5.heap.size w' z.2.1 z.2.2/\z.2.2.map (·.x)=(c.ex.take z.1).map (·.x)) (λz=>c.ex.length - z.1) ol (0,nS,[]) La
   ⟨Lo _,O1.Z _ _,h9,Yu.nil,U⟩ ?_
  rintro⟨j,vx,qx⟩ g w6 ⟨hj,Y,hM,hf,hg⟩;simp only[]at hj hM hf hg;have gl:=hJ Y gj;have h6:=h.I gl;have kg:=gk.J Y (by simp;omega);have kh:=ke.J Y (by simp;omega);have pu:=Y.size;have pw:qx.length=j:=by have:=OR oO hg;simp at this;omega
  refine Qc<|Q0 U U<|xe<|Qd<|QH U (λhN=>?_) (λhN=>?_)
  ·refine Qz ?_;have ki:c.ex.length<=j:=by have T:¬(j:Int)<(c.ex.length:Int):=hN;omega
   rw[Lr ki]at hg;refine Qd<|Qc<|Qs U kg U U<|QI h6.cs.arr U<|Qa<|xe<|Qg<|QD (α:=Nat×OY×List KV) [(9,9),(49,66)] (λz=>[(49,oE oF z.1)]) (λz w'=>z.1<=c.cs.length/\O1 [G] w6 w'/\Q9 w'.heap G 206 [vs,vx,z.2.1]/\KvN w6.heap.size w' z.2.1 z.2.2/\z.2.2.map (·.k)=(c.cs.take z.1).map (·.k)) (λz=>c.cs.length - z.1) ol (0,nS,[]) La
    ⟨Lo _,O1.Z _ _,hM,Yu.nil,U⟩ ?_
   rintro⟨i,vk,ks⟩ g w7 ⟨hi,hh,hO,hn,ho⟩;simp only[]at hi hO hn ho;have gm:=hJ hh gl;have h7:=h.I gm;have kj:=kh.J hh (by simp;omega);have pz:=hh.size;have p0:ks.length=i:=by have:=OR oO ho;simp at this;omega
   refine Qc<|Q0 U U<|xe<|Qd<|QH U (λhP=>?_) (λhP=>?_)
   ·refine Qz ?_;have kk:c.cs.length<=i:=by have T:¬(i:Int)<(c.cs.length:Int):=hP;omega
    rw[Lr kk]at ho;have kn:Zp [vs,vx,vk]:=⟨Qu O,Qu hf.own,Qu hn.own,Z⟩;refine Qc<|Q6 hO U U<|Qe<|Qj (us:=[vs,vx,vk]) kj U U U U kn λw8 hA ko=>xe ?_;refine Qk ⟨[.agg #[vs,vx,vk]],⟨⟨_,U,Qn U (ko.at (L:=[]) oe).cells⟩,Z⟩,gm.O hA oa,?_⟩;have kq:=Qf ((Qf O Y (λb E H=>by have:=(Qi O b E).1;simp at H;omega))) hh (λb E H=>by have:=(Qi O b E).1;simp at H;omega);have kr:=Qf kq hA (λb E H=>by have:=(Qi O b E).1;simp at H;omega);have kt:=(Yu.low hf hh (by simp;omega)).low hA (by simp;omega);have ku:=Yu.low hn hA (by simp;omega);refine⟨vs,vx,vk,qx,ks,U,hg,ho,λL hL=>⟨?_,XvN.xcs kt hg h.ex.nm oa (λb E=>ot (hL b E)),KvN.kcs ku ho h.cs.nm oa (λb E=>ot (hL b E))⟩⟩;have he:szs c.V.co=c.co.map (·.p.a.st):=by show((c.co.map IV.it).map _)=_;rw[MB];rfl
    rw[he];exact Qv.ints kr (by rw[Lh];omega) (λb E=>ot (hL b E))
   have hp:i<c.cs.length:=by have T:(i:Int)<(c.cs.length:Int):=hP;omega
   have gn:=Lk hp;have go:c.cs.take (i+1)=c.cs.take i++[c.cs[i]'hp]:=Lm hp;refine Qh<|Qd<|Qg<|Qc<|O4 Xg h7.cs.arr U U hp λp1 gp=>?_;refine Zo (c.cs[i]'hp) λq hq=>?_;rw[hq]at gp gn go;have J:=h7.cs.each q gn;refine x (Qx gp U U)<|Qe<|Qo (us:=[.string .empty,nS,oE oF 0]) U λb9 w9 kv kw hw=>Qe<|Qj (us:=Q5 q) hw U U U U ⟨U,J.one,U,Z⟩ λhr kx hw =>
    xe ?_
   have hB:O1 [] w7 hr:=kv.O kx kw;have gq:=hO.I hB;have hQ:=Qi hn.own;have S:G∉ob vk:=λH=>ot (hQ G H).1
   have hR:b9∉ob vk:=λH=>ot (hQ b9 H).2
   refine ZI (ob vk) [oC 0,oC 1,oC 2,oC 3,oC 4,oC 5,oC 7,oC 8,oD 6,oC 9,oD 10,oD 11,oC 12,oD 13] ?_;have kz:=hB.D (O1.C [] hr);refine p (QR U)<|pq (λ_ I=>Qr (gq.J I S) U U)<|p (QR U)<|pq (λ_ I=>Qr (hw.J I hR) U U) <|
    p (QR rfl)<|pq (λ_ I=>Qr (hw.J I hR) U U)<|p (QR U)<|pq (λ_ I=>Qr (hw.J I hR) U U) <|
    pk<|xg<|(jn (J.I kz)).mono ?_
   rintro hy p2 ⟨k0,hS⟩;have hz:=(O1.C [] hr).D k0;refine⟨hz.any,?_⟩;refine p (λ_=>Qy ⟨U,xH hS,U,Z⟩)<|pk<|QB (us:=[Q5 ⟨q.nm,hy,q.ts,q.bd⟩]) U U og oe ⟨rfl,rfl,Z⟩ λp3 p4 h0 p5 k4=>⟨(hz.D h0).any,?_⟩;have hC:=(hB.D hz).D h0;have hT:hr.heap.size=({ hr with drawn:=hr.drawn+1 }:OX).heap.size:=rfl
   have p6:=hB.size;have p7:=hC.size;refine pk<|Zb (news:=Q5 ⟨q.nm,hy,q.ts,q.bd⟩) (L:=[]) (Qq hn.own hC) U U U (k4.at oe) (QdI (q:=⟨q.nm,hy,q.ts,q.bd⟩) (Qu hS)) oa oa λhU gr gs hD k5=>⟨((hz.D h0).any (L:=ob vk)).Q hD,?_⟩;have k6:KvN w6.heap.size gr hU (ks++[⟨q.nm,hy,q.ts,q.bd⟩]):=Yu.app hn hC (Qq hS h0) J.le (by rw[<-hT];omega) oa gs hD k5;have k7:=(gq.J ((hz.D h0).any (L:=ob vk)) S).J hD S;refine p (QR U)<|pkl (hl:=by kernel_rfl)<|QE (j:=2) (u:=hU) k7 U U oe (Qu gs) λp8 gt k8=>pe ?_;have k9:O1 [G] w6 gr:=(hh.D hC).then hD (λb E=>.inr (hQ b E).1);refine Qw<|QS U U<|Qa<|xe<|⟨(i+1,hU,ks++[⟨q.nm,hy,q.ts,q.bd⟩]),oh,La,hp,?_,k8,Yu.low k6 gt (by simp;omega),?_⟩
   ·exact k9.Q gt
   simp only[];rw[Lt,ho,go,Lt];rfl
  have hs:j<c.ex.length:=by have T:(j:Int)<(c.ex.length:Int):=hN;omega
  have gu:=Lk hs;have gv:c.ex.take (j+1)=c.ex.take j++[c.ex[j]'hs]:=Lm hs;refine Qh<|Qd<|Qg<|Qc<|O4 Xq h6.ex.arr U U hs λp9 gw=>?_;refine Zo (c.ex[j]'hs) λq hq=>?_;rw[hq]at gw gu gv;have J:=h6.ex.each q gu;refine x (Qx gw U U)<|Qe<|Qo (us:=[.string .empty,nS]) U λb7 qc ma mf hE=>Qe<|Qj (us:=Q8 q) hE U U U U ⟨U,J.one,Z⟩ λht mg hE =>
   xe ?_
  have hF:O1 [] w6 ht:=ma.O mg mf;have gx:=hM.I hF;have hV:=Qi hf.own;have S:G∉ob vx:=λH=>ot (hV G H).1
  have gy:b7∉ob vx:=λH=>ot (hV b7 H).2
  refine ZI (ob vx) (Xx 0 12 [6,8,9,11]) ?_;have mh:=hF.D (O1.C [] ht);refine p (QR U)<|pq (λ_ I=>Qr (gx.J I S) U U)<|p (QR U)<|pq (λ_ I=>Qr (hE.J I gy) U U) <|
   p (QR rfl)<|pq (λ_ I=>Qr (hE.J I gy) U U)<|pk<|xg<|(jo (J.I mh)).mono ?_
  rintro h1 qo ⟨mi,hW⟩;have h2:=(O1.C [] ht).D mi;refine⟨h2.any,?_⟩;refine p (λ_=>Qy ⟨U,xH hW,Z⟩)<|pk<|QB (us:=[Q8 ⟨q.nm,h1,q.ls⟩]) U U og oe ⟨rfl,rfl,Z⟩ λqr q0 h3 q1 mj=>⟨(h2.D h3).any,?_⟩;have hG:=(hF.D h2).D h3;have hT:ht.heap.size=({ ht with drawn:=ht.drawn+1 }:OX).heap.size:=rfl
  have q2:=hF.size;have q3:=hG.size;refine pk<|Zb (news:=Q8 ⟨q.nm,h1,q.ls⟩) (L:=[]) (Qq hf.own hG) U U U (mj.at oe) (Qdb (q:=⟨q.nm,h1,q.ls⟩) (Qu hW)) oa oa λhX gz g0 hH mn=>⟨((h2.D h3).any (L:=ob vx)).Q hH,?_⟩;have mo:XvN w5.heap.size gz hX (qx++[⟨q.nm,h1,q.ls⟩]):=Yu.app hf hG (Qq hW h3) J.le (by rw[<-hT];omega) oa g0 hH mn;have mq:=(gx.J ((h2.D h3).any (L:=ob vx)) S).J hH S;have ms:O1 [G] w5 gz:=(Y.D hG).then hH (λb E=>.inr (hV b E).1);refine p (QR U)<|pkl (hl:=by kernel_rfl)<|QE (j:=1) (u:=hX) mq U U oe (Qu g0) λq4 g2 mt=>pe ?_;refine Qw<|QS U U<|Qa<|xe<|⟨(j+1,hX,qx++[⟨q.nm,h1,q.ls⟩]),oh,La,hs,?_,mt,Yu.low mo g2 (by simp;omega),?_⟩
  ·exact ms.Q g2
  simp only[];rw[Lt,hg,gv,Lt];rfl
 have hu:k<c.co.length:=by have T:(k:Int)<(c.co.length:Int):=hK;omega
 have g3:=Lk hu;have g4:c.co.take (k+1)=c.co.take k++[c.co[k]'hu]:=Lm hu;have q6:((c.co.take k).map (·.p.a.st)).length=k:=by simp;omega
 refine Qh<|Qd<|Qg<|Qc<|O4 Ys h5.co.arr U U hu λza T=>?_;refine Zo (c.co[k]'hu) λq hq=>?_;rw[hq]at T g3 g4;have J:=h5.co.each q g3;refine x (Qx T U U)<|Qe<|Qo (us:=[.string .empty,nS,oE oF 0,nS,nS]) U λb5 zb mu mv hY=>Qe<|Qj (us:=QO q) hY U U U U ⟨U,J.al.one,U,J.mr.one,J.ed.one,Z⟩ λmw my hY =>
  xe ?_
 have g5:O1 [] w5 mw:=mu.O my mv;have mz:=h9.I g5;refine Qw<|Qs U mz U U<|Q7 U<|Qs U hY U U<|Qe<|QB (us:=[[oE oF q.p.a.st]]) U U og oe ⟨rfl,rfl,Z⟩ λzv z0 m2 z1 m3=>?_;have hI:=g5.D m2;have z2:=hI.size;have g6:=Qi O;have S:G∉ob vs:=λH=>ot (g6 G H).1
 refine Qe<|Zb (news:=[oE oF q.p.a.st]) (L:=[]) (Qq O hI) U U U (m3.at oe) (by simp[Value.oneCell']) oa oa λv24 m4 hZ V z3=>?_;have m5:=(h9.I hI).J V S;have m6:O1 [G] w4 m4:=(hv.D hI).then V (λb E=>.inr (g6 b E).1);refine Q7 rfl<|Qe<|QE (j:=0) (u:=v24) m5 U U oe (Qu hZ) λz4 g7 m7 =>
  xe ?_
 have m8:=Qf hZ g7 (λb E H=>by have:=(Qi hZ b E).1;simp at H;omega);refine Qw<|QS U U<|Qa<|xe<|⟨(k+1,v24),oh,La,hu,m6.Q g7,m7,?_⟩;simp only[];rw[g4,Lt];exact Qv.snoc (n:=q.p.a.st) m8
theorem QaE (n:Nat):Vl (n+1)=Vl n++[(n:Int)]:=by unfold Vl;rw[ND,Lt];rfl
theorem jK (n:Nat):(Vl n).length=n:=by unfold Vl;simp
theorem JP {k:Nat}{l:List IV}(h:k<l.length):(l.drop k).map (·.it)=(l[k]'h).it::(l.drop (k+1)).map (·.it):=by rw[Zd h];rfl
theorem z8 {s:List ByteArray}{x:YU}(h:Yb n u s x=0):ZD x.a:=by
 unfold Yb at h;split at h
 ·cases h
 split at h
 ·cases h
 split at h
 ·rename_i E G;exact OS h G
 rename_i E;exact(Z0 _).1 (Ln.1 E)
theorem Kp {s:List ByteArray}{x:YU}{l:List YU}:Yn n al s u (x::l)=if Yb n al s x≠0 then(Yb n al s x,s,u)else Yn n al (s++[x.nm]) (mrg (· || ·) u x.a.al) l:=rfl
theorem VM {s:List ByteArray}{x:YU}{l:List YU}:Jz n u s (x::l)=if Yb n u s x≠0 then Yb n u s x else Jz n u (s++[x.nm]) l:=rfl
theorem XS {c:CL}(h:ZJ L w.heap c):
  Q3 prog 43 [c.val] w λr w'=>r=oE oF (Zi c.V)/\O1 [] w w':=by
 have kc:=h.co.arr.le;have ke:=h.rq.arr.le;have E:Zi c.V=(if KC c.ev≠0 then KC c.ev else if c.co.length=0 then 12 else if 8<c.co.length\/12<c.co.length+c.rq.length then 3 else
  if(Yn c.ev.length (Vl c.ev.length) [] [] (c.co.map (·.it))).1≠0 then(Yn c.ev.length (Vl c.ev.length) [] [] (c.co.map (·.it))).1 else
  if Jz c.ev.length (Yn c.ev.length (Vl c.ev.length) [] [] (c.co.map (·.it))).2.2 (Yn c.ev.length (Vl c.ev.length) [] [] (c.co.map (·.it))).2.1 (c.rq.map (·.it))≠0 then Jz c.ev.length (Yn c.ev.length (Vl c.ev.length) [] [] (c.co.map (·.it))).2.2 (Yn c.ev.length (Vl c.ev.length) [] [] (c.co.map (·.it))).2.1 (c.rq.map (·.it))else
  YB (szs c.V.co) c.V.ex c.V.cs):=by
  unfold Zi;rw[show c.V.co.length=c.co.length from Lh ..,show c.V.rq.length=c.rq.length from Lh ..];rfl
 refine Zo (Zi c.V) λR hR=>?_;rw[hR]at E ⊢;refine Zo (Yn c.ev.length (Vl c.ev.length) [] [] (c.co.map (·.it))) λCO h6=>?_;rw[h6]at E;refine Zq func43 ?_;refine Qc<|Qe<|QW (us:=c.cells) U λb1 w1 h7 kf h8=>Qb<|Qd<|Qc<|Qs U h8 U U<|QM<|(zS (h.ev.I h7)).mono ?_;rintro r2 w2 ⟨rfl,h9⟩;refine Qb ?_;have Y:=h7.D h9;have hl:=h8.I h9;have h2:=h.I Y;refine Qm<|ZB U U<|xe<|QX rfl (λhm=>?_) (λhm=>?_)
 ·rw[OQ hm]at E;subst E;refine Qm<|Qb<|Qk ⟨[_],La,U,Y⟩
 rw[OP hm]at E;have kg:c.ev.length<=32:=by
  refine Ln.1 λhn=>?_;apply hm;unfold KC;rw[OQ oa];decide
 refine Qh<|Qd<|Qc<|Qs U hl U U<|QI h2.co.arr U<|Qb<|Qg<|Qm<|x (QY U U)<|Qb<|QX U (λhu=>?_) (λhu=>?_)
 ·have hv:c.co.length=0:=by have hX:(c.co.length:Int)=0:=hu;omega
  rw[OQ hv]at E;subst E;refine Qc<|Qb<|Qk ⟨[_],La,U,Y⟩
 have hv:¬c.co.length=0:=by have hX:¬(c.co.length:Int)=0:=hu;omega
 rw[OP hv]at E;refine Za (α:=Bool) [(27,37)] (λz=>[(27,.bool z)]) (λz w'=>w'=w2/\z=decide (8<c.co.length\/12<c.co.length+c.rq.length)) ol ?_ ?_
 ·refine Qw<|Qa<|xb (Yg U U) (λhY=>?_) (λhY=>?_)
  ·refine Qa<|Qp<|Qp<|Qp<|Qp<|Qp<|Qp<|QG U<|Qb<|⟨_,La,U,bT (.inl oa)⟩
  refine Qa<|Qa<|Qs U hl U U<|QI h2.rq.arr U<|x (Xu U U ⟨oa,oa⟩) <|
   x (Yg rfl U)<|QG U<|Qb<|⟨_,La,U,bD oa⟩
 rintro z g w3 ⟨rfl,rfl⟩;refine QX rfl (λhw=>?_) (λhw=>?_)
 ·rw[OQ hw]at E;subst E;refine Qc<|Qb<|Qk ⟨[_],La,U,Y⟩
 rw[OP hw]at E;refine Qh<|Qc<|Qe<|Yy Jt λbm w4 hA kh hB=>Qb ?_;have ki:=hB.lt;have kj:=hl.lt;have hC:=Y.D hA;have hD:=hl.I hA;have hE:b1≠bm:=oa
 have hge:w.heap.size<=bm:=oa
 have hM:ZJ [bm] w.heap c:=h.up (λb hb=>.inr (by simp at hb;omega));have hG:=hM.I hC;refine Qc<|x Ql<|Qb<|Qd<|Qc<|Qs U hD U U<|QI hG.ev.arr U<|Qa<|xe<|Qg<|QD (α:=Nat×OY) [(6,6),(8,8),(42,49)] (λz=>[(6,z.2),(42,oE oF z.1)]) (λz w'=>z.1<=c.ev.length/\O1 [] w4 w'/\Qv 3 w4.heap.size w' z.2 (Vl z.1)) (λz=>c.ev.length - z.1) ol (0,nS) oz
  ⟨Lo _,O1.Z _ _,QJ _ _ _ _⟩ ?_
 rintro⟨k,vg⟩ g w5 ⟨hk,ha,ho⟩;simp only[]at hk ho;have kk:=jK k;refine Qc<|Q0 U U<|xe<|Qd<|QH U (λhy=>?_) (λhy=>?_)
 ·refine Qz ?_;have hc:k=c.ev.length:=by have he:¬(k:Int)<(c.ev.length:Int):=hy;omega
  subst hc;have hZ:QP [bm] w5.heap vg (Vl c.ev.length):=Qv.ints ho oa (by simp;omega);have ga:=hB.I ha;have hH:=hD.I ha;have hI:=hG.I ha;have gb:=hC.D ha;refine Qd<|Qc<|Qs U hH U U<|QI hI.co.arr U<|Qa<|xe<|Qg<|QD (α:=Nat×OY×List ByteArray×LI) [(2,2),(7,7),(10,11),(53,72)] (λz=>[(7,z.2.1),(53,oE oF z.1)]) (λz w'=>z.1<=c.co.length/\O1 [bm] w5 w'/\Yi Jt w'.heap bm (nmM z.2.2.1)/\QP [bm] w'.heap z.2.1 z.2.2.2/\z.2.2.2.length<=32*z.1/\Yn c.ev.length (Vl c.ev.length) z.2.2.1 z.2.2.2 ((c.co.drop z.1).map (·.it))=CO) (λz=>c.co.length - z.1) ol (0,nS,[],[]) oz
   ⟨Lo _,O1.Z _ _,ga,Zm.nil _ _ _,oe,h6⟩ ?_
  rintro⟨k,vu,sn,u⟩ g w6 ⟨hk,hf,hp,hz,gc,H⟩;simp only[]at hk hp hz gc H;have hJ:O1 [] w w6:=gb.O hf hge;have h0:=hH.J hf (oy hE);have S:=hI.st hf;refine Qc<|Q0 U U<|xe<|Qd<|QH U (λh1=>?_) (λh1=>?_)
  ·refine Qz ?_;have hc:k=c.co.length:=by have he:¬(k:Int)<(c.co.length:Int):=h1;omega
   subst hc;rw[Lp (Lv _)]at H;have gg:CO=(0,sn,u):=H.symm;subst gg;rw[OP oe]at E;simp only[]at E;refine Zo (Jz c.ev.length u sn (c.rq.map (·.it))) λRQ hK=>?_;rw[hK]at E;refine Qd<|Qc<|Qs U h0 U U<|QI S.rq.arr U<|Qa<|xe<|Qg<|QD (α:=Nat×List ByteArray) [(2,2),(13,14),(76,90)] (λz=>[(76,oE oF z.1)]) (λz w'=>z.1<=c.rq.length/\O1 [bm] w6 w'/\Yi Jt w'.heap bm (nmM z.2)/\Jz c.ev.length u z.2 ((c.rq.drop z.1).map (·.it))=RQ) (λz=>c.rq.length - z.1) ol (0,sn) La
    ⟨Lo _,O1.Z _ _,hp,hK⟩ ?_
   rintro⟨k,sm⟩ g w7 ⟨hk,hg,hL,I⟩;simp only[]at hk hL I;have hN:O1 [] w w7:=hJ.O hg hge;have hO:=h0.J hg (oy hE);have hh:=S.st hg;have gh:=hz.st hg;refine Qc<|Q0 U U<|xe<|Qd<|QH U (λh3=>?_) (λh3=>?_)
   ·refine Qz ?_;have hc:c.rq.length<=k:=by have he:¬(k:Int)<(c.rq.length:Int):=h3;omega
    rw[Lp hc]at I;have gi:RQ=0:=I.symm;rw[OP (by rw[gi];decide)]at E;refine Qc<|Q6 hO U U<|QM<|(jy hh).mono ?_;rintro r8 w8 ⟨gj,vs,vx,vk,qx,ks,rfl,gk,gl,hF⟩;obtain⟨gm,gn,go⟩:=hF [] oe;refine QM<|(zR gm gn go).mono ?_;rintro r9 w9 ⟨rfl,gp⟩;rw[gk,gl,<-E];refine Qb<|Qk ⟨[_],La,U,(hN.D gj).D gp⟩
   have G:k<c.rq.length:=by have he:(k:Int)<(c.rq.length:Int):=h3;omega
   have O:=Lk G;rw[JP G,VM]at I;refine Qh<|Qd<|Qg<|Qc<|O4 Ys hh.rq.arr U U G λkn hP=>?_;refine Zo (c.rq[k]'G) λq hq=>?_;rw[hq]at hP O I;have J:=hh.rq.each q O;refine x (Qx hP U U)<|Qe<|Qo (us:=[.string .empty,nS,oE oF 0,nS,nS]) U λb13 ko gq gr h4=>Qe<|Qj (us:=QO q) h4 U U U U ⟨U,J.al.one,U,J.mr.one,J.ed.one,Z⟩ λgs gt h4 =>
    xe ?_
   have T:O1 [] w7 gs:=gq.O gt gr;refine Qc<|Q6 h4 U U<|Qs U (hO.I T) U U<|QI (hh.ev.I T).arr U<|Qa<|Qa<|QM<|(QdO (J.I T) (hh.rq.nm q O) (gh.I T) oa (hL.I T) oe oe).mono ?_;rintro kq kr ⟨rfl,hQ,gu⟩;refine Qb<|Qm<|ZB U U<|xe<|QX U (λhi=>?_) (λhi=>?_)
   ·rw[OQ hi]at I;rw[OQ (by rw[<-I];exact hi)]at E;refine Qm<|Qb<|Qk ⟨[_],La,by rw[E,<-I];rfl,(hN.D T).O hQ hge⟩
   rw[OP hi]at I;refine Qh<|Qw<|QS U U<|Qa<|xe ?_;exact⟨(k+1,sm++[q.nm]),oh,La,G,(hg.D T).Q hQ,gu (Ln.1 hi),I⟩
  have G:k<c.co.length:=by have he:(k:Int)<(c.co.length:Int):=h1;omega
  have O:=Lk G;rw[JP G,Kp]at H;refine Qh<|Qd<|Qg<|Qc<|O4 Ys S.co.arr U U G λkt hS=>?_;refine Zo (c.co[k]'G) λq hq=>?_;rw[hq]at hS O H;have J:=S.co.each q O;have gv:=hZ.st hf;refine x (Qx hS U U)<|Qe<|Qo (us:=[.string .empty,nS,oE oF 0,nS,nS]) U λku kv gw gx hs=>Qe<|Qj (us:=QO q) hs U U U U ⟨U,J.al.one,U,J.mr.one,J.ed.one,Z⟩ λgy gz hs =>
   xe ?_
  have V:O1 [] w6 gy:=gw.O gz gx;have kw:=hp.lt;refine Qd<|Qc<|Q6 hs U U<|Qs U (h0.I V) U U<|QI (S.ev.I V).arr U<|Qa<|Qa<|QM<|(QdO (J.I V) (S.co.nm q O) (gv.I V) oa (hp.I V) oe oe).mono ?_;rintro kx g0 ⟨rfl,h5,g2⟩;refine Qb<|Qm<|ZB U U<|xe<|QX U (λhj=>?_) (λhj=>?_)
  ·rw[OQ hj]at H;rw[OQ (by rw[<-H];exact hj)]at E;refine Qm<|Qb<|Qk ⟨[_],La,by rw[E,<-H];rfl,(hJ.D V).O h5 hge⟩
  rw[OP hj]at H;have hT:Yb c.ev.length (Vl c.ev.length) sn q.it=0:=Ln.1 hj;have g3:=(z8 hT).al_le;have kz:q.p.a.al.length<=32:=g3;refine Qh ?_;have ht:O1 [bm] w6 g0:=V.any.Q h5;have g4:=hz.st ht;have k0:=ht.size;refine Qw<|Qa<|Q7 U<|Qs U (hs.J h5 (by simp;omega)) U U<|QM<|(QbW g4 (S.st ht |>.co.each q O |>.al) oa).mono ?_;rintro g5 k4 ⟨hU,g6⟩;refine Qb ?_;have k5:=j4 (· || ·) u q.p.a.al;refine Qw<|QS U U<|Qa<|xe ?_;exact⟨(k+1,g5,sn++[q.nm],mrg (· || ·) u q.p.a.al),oh,oz,G,(hf.Q ht).D hU,(g2 hT).I hU,Qv.ints g6 (by show(mrg _ _ _).length<=_;omega) (by simp;omega),oh,H⟩
 have G:k<c.ev.length:=by have he:(k:Int)<(c.ev.length:Int):=hy;omega
 refine Qh<|Qd<|Qg<|Qm<|Qb<|Qw<|Qa<|Qa<|Qe<|QB (us:=[[oE oF k]]) U U og oe ⟨rfl,rfl,Z⟩ λk6 k7 hV k8 g7=>?_;have hW:=ha.D hV;have k9:=hW.size;have g8:=Qi ho;refine Qe<|Zb (news:=[oE oF k]) (L:=[]) (Qq ho hV) U U U (g7.at oe) (by simp[Value.oneCell']) oa oa λg9 ma ka kb mf =>
  Qb<|Qw<|QS U U<|Qa<|xe ?_
 refine⟨(k+1,g9),oh,oz,G,hW.then kb (λb hb=>.inr (g8 b hb).1),?_⟩;simp only[];rw[QaE];exact Qv.snoc (n:=(k:Int)) ka
theorem Qpv {pS:String}{C:xt}
  {e bys:Nat}  {x G I:OZ}  {v:OY}    {k:IntKind}  [h:Sl P t e sz bys z]
  (J:QV ops E=⟨d,.slice t x none (some G) (some I),ty,pS,af,gd⟩) (O:Zm L H v n sz cs) (hx:ev f x=v) (S:ev f G=.int k hi) (T:ev f I=.int k' hi) (V:hi<=n)
  (hK:∀v',Zm L H v' hi sz (cs.take (hi*sz))->XP P ops C K pl (QT f d v') w)
  (Y:Ya ops f (QV ops E)=true:=by rfl):XP P ops C K ((E,true)::pl) f w:=by
 obtain⟨v',h3,h4⟩:=QgL (P:=P) (d:=d) (ty:=ty) (pS:=pS) (af:=af) (gd:=gd) (t:=t) O hx S T V;exact Lg.p (λw'=>by rw[J];exact h4 w') (by rw[J];exact hK v' h3) Y
structure Qjl (c:Zx):Prop where
 ev:c.ev.length<=32
 c0:c.co.length≠0
 c8:c.co.length<=8
 cr:c.co.length+c.rq.length<=12
 co:∀x∈c.co,ZD x.a
 rq:∀x∈c.rq,ZD x.a
 ce:∀x∈c.co,∀e∈x.a.al,e<(c.ev.length:Int)
 re:∀x∈c.rq,∀e∈x.a.al,e<(c.ev.length:Int)
 cd:YB (szs c.co) c.ex c.cs=0
 e0:KC c.ev=0
theorem QbH {s:List ByteArray}{x:YU}(h:Yb n u s x=0):∀e∈x.a.al,e<(n:Int):=by
 unfold Yb at h;split at h
 ·cases h
 split at h
 ·cases h
 split at h
 ·rename_i E G;exact OS h G
 split at h
 ·cases h
 split at h
 ·cases h
 split at h
 ·cases h
 rename_i E;intro e H;refine Ln.1 λI=>E ?_;rw[List.any_eq_true];exact⟨e,H,OT oa⟩
theorem QbK {n:Nat}{al:LI}:∀{l:List YU}{s:List ByteArray}{u:LI},(Yn n al s u l).1=0->∀x∈l,ZD x.a/\∀e∈x.a.al,e<(n:Int)
 | [],_,_,_,x,hx=>by cases hx
 | y::l,s,u,h,x,hx=>by
  rw[Kp]at h;by_cases E:Yb n al s y≠0
  ·rw[OQ E]at h;exact OS h E
  rw[OP E]at h;have G:Yb n al s y=0:=Ln.1 E;rcases Li.1 hx with rfl|hx
  ·exact⟨z8 G,QbH G⟩
  exact QbK h x hx
theorem QbE {n:Nat}{u:LI}:∀{l:List YU}{s:List ByteArray},Jz n u s l=0->∀x∈l,ZD x.a/\∀e∈x.a.al,e<(n:Int)
 | [],_,_,x,hx=>by cases hx
 | y::l,s,h,x,hx=>by
  rw[VM]at h;by_cases E:Yb n u s y≠0
  ·rw[OQ E]at h;exact OS h E
  rw[OP E]at h;have G:Yb n u s y=0:=Ln.1 E;rcases Li.1 hx with rfl|hx
  ·exact⟨z8 G,QbH G⟩
  exact QbE h x hx
theorem ZZ {c:Zx}(h:Zi c=0):Qjl c:=by
 unfold Zi at h;by_cases E:KC c.ev≠0
 ·rw[OQ E]at h;exact OS h E
 rw[OP E]at h;by_cases I:c.co.length=0
 ·rw[OQ I]at h;cases h
 rw[OP I]at h;by_cases J:8<c.co.length\/12<c.co.length+c.rq.length
 ·rw[OQ J]at h;cases h
 rw[OP J]at h;by_cases G:(Yn c.ev.length (Vl c.ev.length) [] [] c.co).1≠0
 ·rw[OQ G]at h;exact OS h G
 rw[OP G]at h;by_cases H:Jz c.ev.length (Yn c.ev.length (Vl c.ev.length) [] [] c.co).2.2 (Yn c.ev.length (Vl c.ev.length) [] [] c.co).2.1 c.rq≠0
 ·rw[OQ H]at h;exact OS h H
 rw[OP H]at h;have a4:=QbK (Ln.1 G);have O:=QbE (Ln.1 H);have S:c.ev.length<=32:=by
  refine Ln.1 λT=>?_;apply E;unfold KC;rw[OQ oa];decide
 exact⟨S,I,oa,oa,λx hx=>(a4 x hx).1,λx hx=>(O x hx).1,λx hx=>(a4 x hx).2,λx hx=>(O x hx).2,h,Ln.1 E⟩
theorem YL.e {c:Int}(h:YL N H aa va vt c):c=QaJ aa:=by
 unfold YL at h;unfold QaJ;by_cases E:Uz aa≠0
 ·rw[OQ E]at h ⊢;exact h.1
 rw[OP E]at h ⊢;cases G:xd aa with
 | none=>rw[G]at h;exact h.1
 | some z=>rw[G]at h;exact h.1
theorem YL.bad {c:Int}(h:YL N H aa va vt c)(I:c≠0):va=zA/\vt=Z8:=by
 unfold YL at h;by_cases E:Uz aa≠0
 ·rw[OQ E]at h;exact h.2
 rw[OP E]at h;cases G:xd aa with
 | none=>rw[G]at h;exact h.2
 | some z=>rw[G]at h;exact OS h.1 I
theorem YL.good {c:Int}(h:YL N H aa va vt c)(G:c=0):Kg N H va (syA aa)/\QcZ N H vt (syQ aa)/\xd aa=some (syA aa,syQ aa)/\Uz aa=0:=by
 unfold YL at h;unfold syA syQ;by_cases E:Uz aa≠0
 ·rw[OQ E]at h;exact OS (h.1.symm.D G) E
 rw[OP E]at h;cases I:xd aa with
 | none=>rw[I]at h;rw[h.1]at G;cases G
 | some z=>rw[I]at h;exact⟨h.2.1,h.2.2,U,Ln.1 E⟩
theorem YL.st1 {c:Int}(h:YL N w.heap aa va vt c)(G:b<N)(H:O1 [b] w w'):YL N w'.heap aa va vt c:=by
 unfold YL at *;split
 ·rename_i E;rw[OQ E]at h;exact h
 rename_i E;rw[OP E]at h;cases I:xd aa with
 | none=>rw[I]at h;exact h
 | some z=>rw[I]at h;exact⟨h.1,Uy h.2.1 G H,Qi7 h.2.2 G H⟩
theorem YL.mono {N M:Nat}{H:xu}{aa:List Q2}{va vt:OY}{c:Int}(h:YL N H aa va vt c)(hM:M<=N):YL M H aa va vt c:=by
 unfold YL at *;split
 ·rename_i E;rw[OQ E]at h;exact h
 rename_i E;rw[OP E]at h;cases G:xd aa with
 | none=>rw[G]at h;exact h
 | some z=>rw[G]at h;exact⟨h.1,h.2.1.mono hM,h.2.2.mono hM⟩
theorem QjV (c:Zx):YS c=if Zi c≠0 then Zi c else if QaJ (O3 c.co)≠0 then QaJ (O3 c.co)else QaJ (O3 c.co++O3 c.rq):=by
 unfold YS;split
 ·rfl
 have e:QaJ (O3 c.co)=if Uz (O3 c.co)≠0 then Uz (O3 c.co)else match xd (O3 c.co)with|none=>3|some _=>0:=rfl
 by_cases E:Uz (O3 c.co)≠0
 ·rw[OQ E]at e;rw[OQ E,e,OQ E]
 rw[OP E]at e;rw[OP E];cases G:xd (O3 c.co)with
 | none=>rw[G]at e;simp only[]at e;rw[e];rfl
 | some z=>rw[G]at e;simp only[]at e;rw[e];rfl
theorem Qeo (c:CL):(c.co.map (·.p)).map (·.a)=O3 c.V.co:=by unfold O3;show _=(c.co.map IV.it).map _;rw[MB,MB];rfl
theorem QlD (c:CL):(c.rq.map (·.p)).map (·.a)=O3 c.V.rq:=by unfold O3;show _=(c.rq.map IV.it).map _;rw[MB,MB];rfl
theorem Qdt {ps:List AV}(h:∀p∈ps,ZD p.a):∀p∈ps,p.a.st<=4096:=λp E=>(h p E).st1
def jF (N:Nat)(H:xu)(c:Zx)(va vt:OY)(e:Int):Prop:=if Zi c≠0 then e=Zi c/\va=zA/\vt=Z8 else YL N H (O3 c.co) va vt e
theorem Qjb {c:CL}(h:ZJ L w.heap c)(hh:Kb w 4096):
  Q3 prog 185 [c.val] w λr w'=>O1 [] w w'/\∃va vt e,r=.tuple #[va,vt,oE oF e]/\jF w.heap.size w'.heap c.V va vt e:=by
 refine Zq func185 ?_;refine Qc<|Qe<|QW (us:=c.cells) U λb1 w1 Y hv hi=>Qe<|Qo (us:=[nS,oE oF 0,nS,nS]) U λb2 w2 ha hw J=>x Ql<|Qb ?_;have hb:=Y.D ha;have hy:=Y.size;have hc:=hi.I ha;refine Qd<|Qc<|Q6 hc U U<|QM<|(XS (h.I hb)).mono ?_;rintro r3 w3 ⟨rfl,E⟩;refine Qb ?_;have O:=hb.D E;have hz:=J.lt;refine Qm<|ZB U U<|xe<|QX rfl (λH=>?_) (λH=>?_)
 ·refine Qc<|x (Qy Z)<|Qa<|Qe<|Qj (us:=[nS,oE oF 0,nS,nS]) (J.I E) U U U U oB λw4 hj hk=>x Ql<|Qb<|Qk ⟨[zA,Z8,oE oF (Zi c.V)],⟨⟨_,U,Qn U (hk.at (L:=[]) oe).cells⟩,rfl,rfl,Z⟩,O.O hj oa,zA,Z8,_,rfl,by unfold jF;rw[OQ H];exact⟨U,U,U⟩⟩
 have hl:=ZZ (Ln.1 H);refine Qh<|Qc ?_;have h3:=h.I O;refine Qs rfl (hc.I E) U U<|QM<|(Qcz h3.co).mono ?_;rintro r5 w5 ⟨S,hm⟩;have I:=O.D S;have hn:∀p∈c.co.map (·.p),ZD p.a:=λp T=>by
  obtain⟨q,V,rfl⟩:=LC.1 T;exact hl.co q.it (LJ V)
 have h0:=h.co.arr.le;have ho:Kf [] w5.heap r5 (c.co.map (·.p)):=QhE hm (by rw[Lh];omega) oe (λp T=>by
  obtain⟨q,V,rfl⟩:=LC.1 T;exact(((h.co.each q V).up (L':=[]) oe).I I))
 refine QM<|(QbX (km:=4096) ho (hh.I I) og (Qdt hn)).mono ?_;rintro r6 w6 ⟨hf,va,vt,e,rfl,hR⟩;rw[Qeo]at hR;have hr:=I.D hf;have hs:=I.size;have ht:∃us,va=.agg us.toArray/\us.length=4/\Zp us:=by
  by_cases he:e=0
  ·exact VT (hR.good he).1
  exact⟨[nS,oE oF 0,nS,nS],(hR.bad he).1,U,U,U,U,U,Z⟩
 refine Exists.elim ht λus G=>?_;refine QZ rfl U<|QZ U U<|QZ U U<|Qe<|Qj (us:=us) ((J.I E).I (S.D hf)) U G.1 G.2.1 U G.2.2 λw7 hg hu =>
  x Ql<|Qb<|Qk ⟨[.agg us.toArray,vt,oE oF e],⟨⟨_,U,Qn G.2.1 (hu.at (L:=[]) oe).cells⟩,rfl,rfl,Z⟩,hr.O hg oa,va,vt,e,by rw[G.1];rfl,?_⟩
 unfold jF;rw[OP H];exact(hR.st1 (ou S.size E.size) hg).mono hs
theorem Qan {v:OY}{m:Int}(h:QP L w.heap v l)(O:Kb w m)(hb:∀n∈l,0<=n/\n<m)(hl:l.length<=1000000):
  Q3 prog 126 [v] w λr w'=>r=.string ⟨(JD l).toArray⟩/\O1 [] w w':=by
 refine Zq func126 ?_;refine Qc<|Qb<|Qc<|Qe<|Qo (us:=[.pointer none,nS]) U λH w1 ha S hc=>xe ?_;refine Qd<|Qm<|QI h U<|Qa<|xe<|Qg<|QD (α:=Nat×OY) [(5,5),(8,16)] (λz=>[(8,oE oF z.1)]) (λz w'=>z.1<=l.length/\O1 [] w w'/\(z.2=.pointer none\/z.2=me H)/\Bl z.2 H (JD (l.take z.1)) w'/\(JD (l.take z.1)).length<=8*z.1) (λz=>l.length - z.1) ol (0,.pointer none) La
  ⟨Lo _,ha,.inl U,⟨_,hc,QJ _ _ _ _⟩,Lv _⟩ ?_
 rintro⟨k,p⟩ g w2 ⟨hk,E,I,G,he⟩;simp only[]at hk I G he;refine Qc<|Q0 U U<|xe<|Qd<|QH U (λh9=>?_) (λh9=>?_)
 ·refine Qz<|Qc ?_;rw[Lr oa]at G;refine ZO<|(yK E S I G).mono ?_;rintro r3 w3 ⟨rfl,hf⟩;refine Qb<|Qk ⟨[.string ⟨(JD l).toArray⟩],La,U,hf⟩
 have J:k<l.length:=oa
 have hm:=hb l[k] (Lk J);obtain⟨q,hq⟩:∃q:Nat,l[k]=q:=⟨l[k].toNat,oa⟩;have hg:l[k].toNat=q:=oa
 have hn:=UV 7 q (ot O.le);have T:JD (l.take (k+1))=JD (l.take k)++(Lib.decDigits q++[32]):=by
  rw[Lm J];unfold JD;rw[LB,List.flatMap_singleton,hg]
 refine Qh<|Qd<|Qg<|Qc<|xii (h.I E) U U J λho hh=>x (QA hh U)<|Qb<|Qw<|Qa<|Qe<|xf ?_;refine(show Q3 _ _ [oE oF l[k]] _ _ by rw[hq];exact(QdM q oa w2 (O.I E))).mono ?_;rintro r4 w4 ⟨rfl,V⟩;have hi:(⟨(Lib.decDigits q).toArray⟩:ByteArray).size+(⟨#[32]⟩:ByteArray).size<=1000000000:=by show(Lib.decDigits q).toArray.size+1<=_;simp;omega
 refine x (Ja U U hi)<|ZO<|(KI (E.D V) S I (G.I V) ((⟨(Lib.decDigits q).toArray⟩:ByteArray)++(⟨#[32]⟩:ByteArray)) (by rw[ByteArray.size_append];show _+((Lib.decDigits q).toArray.size+1)<=_;simp;omega)).mono ?_;rintro r5 w5 ⟨hj,Y⟩;refine xe<|Qw<|QS U U<|Qa<|xe<|⟨(k+1,me H),oh,La,oh,hj,.inr U,?_,?_⟩
 ·simp only[];rw[T];have e:((⟨(Lib.decDigits q).toArray⟩++⟨#[32]⟩:ByteArray)).data.toList=Lib.decDigits q++[32]:=by rw[ByteArray.data_append];simp
  rw[e]at Y;exact Y
 simp only[];rw[T];simp;omega
end Go.Lg
