/- Merged out of 60 texts. -/
import Derived.Test.YteekilnpgonojaaGreatDoorNda
import Derived.Laws.Strings
import Derived.RangeFuncNested
import Derived.RangeFuncLeaves
import Derived.RangeFuncCalls
import Derived.OrdersIn
import Derived.TacticsIn
set_option maxHeartbeats 40000000
set_option maxRecDepth 100000
set_option linter.all false
open Go Go.Lg
open Go.Value renaming int->oF
open Go.IntKind renaming i64->oG
open _root_.List renaming mem_singleton->oI,not_mem_nil->oJ,mem_cons->oL,length_append->oM,replicate->oN,length_singleton->oO,length->oP,getD->oQ,range'->oR,all_cons->oS,range->oT,mem_append->oU,append_assoc->oV,length_cons->oW,map_cons->oY,getElem?_toArray->o0,cons_append->Ob,length_map->Oc,size_toArray->Od,flatMap_cons->Oe,getElem?_eq_getElem->Of,headD_cons->Ol,all_eq_true->Om,tail_cons->Oo,singleton_append->Ov,append_nil->Ox,mem_map->Oz,mem_range'_1->OA,range'_succ->OB,mem_filter->OF,take_append->OK,map_nil->OL,flatMap_nil->OM
open _root_.Bool renaming and_eq_true->oK,not_eq_true'->Og,or_eq_false_iff->Oh,true_and->OO
open _root_.Array renaming replicate->oX
open _root_.Int renaming toNat_natCast->On
open _root_.Nat renaming add_mul->Oq,add_assoc->ON,zero_mul->OQ,beq->OS
open _root_.Option renaming map_some->Oy
open Go renaming World->O1,Value->O2,Operand->O3,Program->O4
open Go.Proofs Go.Proofs.Tryz
variable {w w' W':O1}{L L' X ds ns av:LN}{n t i sz b j T E g N id o ty cap b1 B kt lo hi b2 et G M gf gp:Nat}{cs us news capt:LV}{a:Q0}{H:xC}{α β:Type}{y:O3}{z va ve vm vt v' vs vl vx vk:O2}{l u al ul out rs:LI}{f f1:Fr}{P:O4}{aa:List Q0}{fn:Func}{s:Int}{es:List Ed}{d:xF}{af:xD}{gd:xt}{K:xz}{k':IntKind}{at_:Array Nat}{ops:xE}{rest:xu}{ls:xx}{Φ:O2→O1→Prop}
namespace Go.Lg
theorem Qbr (h:ZG L w.heap va vm ve a):
  Q6 prog 199 [.agg #[va,oF oG a.st,vm,ve]] w λr w'=>O5 [] w w'/\∃v,r=.tuple #[v,oF oG (JD a)]/\(JD a≠0->v=zA)/\(JD a=0->Jw w.heap.size w'.heap v (Yr a)):=by
 refine Zo func199 ?_;refine Qc<|Qe<|QV (us:=[va,oF oG a.st,vm,ve]) U λb1 w1 T hl V=>Qe<|Qo (us:=[nS,oF oG 0,nS,nS]) U λb2 w2 G hm H=>Qb ?_;have I:=T.D G;refine Qd<|Qc<|Q9 (V.I G) U U<|QN<|(Jf (h.I I)).mono ?_;rintro r3 w3 ⟨rfl,E⟩;refine Qb ?_;have hn:=T.size;refine Qm<|ZD U U<|xe<|QZ rfl (λJ=>?_) (λJ=>?_)
 ·refine Qc<|x (Qx Z)<|Qa<|Qe<|Qj (us:=[nS,oF oG 0,nS,nS]) (H.I E) U U U U oC λw4 hf hg=>Qb<|Qk ⟨[zA,oF oG (JD a)],⟨⟨_,U,Qp U (hg.at (L:=[]) oe).cells⟩,rfl,Z⟩,(I.D E).O hf oa,zA,rfl,λ_=>rfl,λe=>OW e J⟩
 have O:JD a=0:=Lo.1 J;have hh:=(ZQ a).1 O;have ho:=H.lt;have S:=I.D E;refine Qh<|Qc<|Q9 ((V.I G).I E) U U<|QN<|(Jv (h.I S) hh).mono ?_;rintro v w5 ⟨Y,hF⟩;obtain⟨us,ha,hb,hi⟩:=JS hF;have hp:=E.size;have hj:=S.size;refine Qe<|Qj (us:=us) ((H.I E).I Y) U ha hb U hi λw6 he hk =>
  Qb<|Qk ⟨[.agg us.toArray,oF oG 0],⟨⟨_,U,Qp hb (hk.at (L:=[]) oe).cells⟩,rfl,Z⟩,(S.D Y).O he oa,v,by rw[O,ha];rfl,λe=>OW O e,λ_=>?_⟩
 exact(Kx hF oa he).mono hj
def gget:List ((Int×Int)×Int)->Int×Int->Option Int
 | [],_=>none
 | (k',v)::m,k=>if k'=k then some v else gget m k
def gput:List ((Int×Int)×Int)->Int×Int->Int->List ((Int×Int)×Int)
 | [],k,v=>[(k,v)]
 | (k',v')::m,k,v=>if k'=k then(k',v)::m else(k',v')::gput m k v
def Qrp (s:Q0)(cls:LI)(x:Nat)(m:List ((Int×Int)×Int))(v:Int):List ((Int×Int)×Int):=gput m (O6 cls x,v) (O6 cls (to0 s x v).toNat)
def Qrm (s:Q0)(l:List Um)(cls:LI)(z:LI×List ((Int×Int)×Int))(x:Nat):LI×List ((Int×Int)×Int):=
 if O6 cls x<0 then z else(if((lget l x).mk' && (lget l x).ps)=true then QnW z.1 (O6 cls x)else z.1,(lget l x).en.foldl (Qrp s cls x) z.2)
def Qp7 (s:Q0)(l:List Um)(cls:LI):LI×List ((Int×Int)×Int):=(oR 0 cls.length).foldl (Qrm s l cls) ([],[])
def Qro (m:List ((Int×Int)×Int))(c:Nat)(v:Int):Option Ed:=(gget m ((c:Int),v)).map λt=>((c:Int),v,t)
def Qrn (m:List ((Int×Int)×Int))(al:LI)(n:Nat):List Ed:=(oR 0 n).flatMap λc=>al.filterMap (Qro m c)
def Qrq (s:Q0)(l:List Um)(cls:LI):Q0:=⟨s.al,Qqk cls+1,(Qp7 s l cls).1,Qrn (Qp7 s l cls).2 s.al (Qqk cls+1).toNat⟩
def red (p s:Q0):Q0:=Qrq s (ctls p s (opQ p s)) (QqN p s (opQ p s))
def xJ (p s:Q0):Int:=if opE p s≠0 then opE p s else if opQ p s=[]then 0 else JD (red p s)
theorem Ks (h:i<l.length):O6 l i∈l:=by rw[<-ZE h];exact Ll h
theorem Zj (a:α){Q:Prop}(h:∀b,a=b->Q):Q:=h a U
theorem exN {a:Int}(E:0<=a){Q:Prop}(h:∀u:Nat,a=u->Q):Q:=h a.toNat (Int.toNat_of_nonneg E).symm
theorem Qas {J n1 I:Nat}(S:Q7 H b1 3 (a.al.map (.int .i64)))(T:Q7 H b2 3 (a.mr.map (.int .i64)))(V:Q7 H J 167 (a.ed.flatMap QE))(g1:N<=b1)(g2:N<=b2)(g3:N<=J)
  (Y:a.al.length=n1) (l2:a.mr.length=G) (l3:a.ed.length=I) (m1:n1<=1000) (m2:G<=1000) (m3:I<=1000):
  Jw N H (.agg #[.slice (some ⟨b1,0,none⟩) n1 n1,oF oG a.st,.slice (some ⟨b2,0,none⟩) G G,.slice (some ⟨J,0,none⟩) I I]) a:=by
 subst Y l2 l3;refine⟨_,_,_,U,λL O=>⟨?_,?_,?_⟩⟩
 ·exact S.arr (λE=>ou (O _ E)) oe oa (Lx _)
 ·exact T.arr (λE=>ou (O _ E)) oe oa (Lx _)
 exact V.arr (λE=>ou (O _ E)) (by rw[Y8 _ 3 J5]) oa (Lx _)
section
variable {pS:String}
class Ay (P:O4)(t:Nat)(m e sz:outParam Nat):Prop where
 u:P.underlying t=some (.array m e)
 i:(P.info? e).map (·.size)=some sz
theorem Ye {x:O3}{m e:Nat}[h:Ay P t m e sz]{k:IntKind}(hx:ev f x=.pointer (some ⟨b,o,none⟩))(G:ev f y=.int k i)(H:i<m):
  (execOp (ev f) ⟨d,.indexAddr t x y,ty,pS,af,gd⟩).run P w=.ok (.value (.pointer (some ⟨b,o+i*sz,none⟩))) w:=by
 have hi:=h.i;cases E:P.info? e with
 | none=>simp[E]at hi
 | some ii =>
  simp[E]at hi;simp[execOp,hx,G,Instr.indexAt,asIntOf,run_underlying h.u,Instr.sureAddr,sizeOf,typeInfo,E,hi,Kp];intro I;omega
theorem Qnf {a:Nat}(E:a<256):inK .u8 ((a &&& b:Nat):Int):=by
 have:a &&& b<=a:=Nat.and_le_left;exact⟨oa,oa⟩
theorem ye {x:O3}{a:Nat}(hx:ev f x=.int .u8 a)(H:ev f y=.int .u8 b)(E:a<256)(I:b<256):
  (execOp (ev f) ⟨d,.binOp .and t x y G,ty,pS,af,gd⟩).run P w=.ok (.value (.int .u8 ((a &&& b:Nat):Int))) w:=by
 refine Jj hx H ?_;simp only[binOp,Op.intBits,BitVec.ofInt_natCast,ne_eq,not_true_eq_false,if_false,Sem.run_pure];rw[BitVec.toNat_and,BitVec.toNat_ofNat,BitVec.toNat_ofNat,Nh (show a<2 ^ IntKind.u8.bits from E),Nh (show b<2 ^ IntKind.u8.bits from I),YL (Qnf E)]
theorem QaB (m i:Nat):((m:Int) / 2 ^ i)=((m / 2 ^ i:Nat):Int):=by rw[Int.natCast_ediv,Int.natCast_pow];rfl
end
inductive Pt where
 | pl (l:xu)
 | fk (pre:xu) (i j:Nat) (t1 t2:Pt)
def Pt.len:Pt->Nat
 | .pl l=>l.length
 | .fk pre _ _ t1 _=>pre.length+(1+t1.len)
def KB (all:Array Oper):xu->Array Bool->Bool
 | [],_=>true
 | (k,q)::pl,ls=>q && (Region.ready .any all ls).contains k && Region.free .any all ls k && KB all pl (ls.setIfInBounds k true)
def Z9:xu->Array Bool->Array Bool
 | [],ls=>ls
 | (k,_)::pl,ls=>Z9 pl (ls.setIfInBounds k true)
def XT (P:O4)(all:xE)(C:xA)(K:xz):Pt->Fr->O1->Prop
 | .pl l=>XP P all C K l
 | .fk pre i j t1 t2=>XP P all C (λf w=>(Yd all f (QU all i)=true/\XO P (QU all i) f w λE w'=>C w'/\XT P all C K t1 E w') /\
   (Yd all f (QU all j)=true/\XO P (QU all j) f w λE w'=>C w'/\XT P all C K t2 E w')) pre
section
variable {all:xE}{C:xA}{B:xz}
theorem YO:∀(pl:xu) (ls:Array Bool),(Z9 pl ls).size=ls.size
 | [],_=>rfl
 | (k,q)::pl,ls=>by rw[Z9,YO];simp
theorem YK {m:Nat}(O:Region.noSelect all.toArray=true):∀(pl:xu) (ls:Array Bool) (f:Fr) (w:O1),C w->KB all.toArray pl ls=true ->
  (∀f,B f w->XA P all C K m (Z9 pl ls) f w)->XP P all C B pl f w->XA P all C K (pl.length+m) ls f w
 | [],ls,f,w,E,S,H,h=>by
  simp only[XP]at h;rw[Np,LS];exact H f h
 | (I,q)::pl,ls,f,w,E,S,H,h=>by
  simp only[KB,oK]at S;obtain⟨⟨⟨rfl,hr⟩,hf⟩,Y⟩:=S;simp only[XP]at h;have T:I∈Region.ready .any all.toArray ls:=by simpa using hr
  have e:(oP ((I,true)::pl))+m=(pl.length+m)+1:=by simp;omega
  rw[e];cases G:all[I]? with
  | none =>
   exfalso;obtain⟨_,o,hc,_⟩:=mem_ready.1 T;simp[G]at hc
  | some o =>
   rw[Zk G]at h;have ha:∀(j:Nat) (o:Oper) cs b,all[j]?=some o->o.op≠.select cs b:=λj o cs b V=>Region.noSelect_spec O j o cs b (oz V);have hb:=λj oj V=>Region.free_spec (ops:=all.toArray) (md:=.any) (i:=I) (oi:=o) (listed:=ls) (oz G) hf j oj (oz V);cases J:Yd all f o with
   | false =>
    rw[J]at h;exact Xn (v:=undef) (D:=λw=>U8 o=true->C w) G (λ_ h=>h) ha _ ls f w (λ_=>E) hb T (.inr ⟨J,U⟩) (YK O pl _ _ _ E Y H h)
   | true =>
    rw[J]at h;simp only[cond_true]at h;obtain⟨v,hv,hx⟩:=h;exact Xn (v:=v) (D:=λw=>U8 o=true->C w) G (λ_ h=>h) ha _ ls f w (λ_=>E) hb T (.inl ⟨J,hv⟩) (YK O pl _ _ _ E Y H hx)
end
theorem YW.lt_of {a:Int}(h:YW (a::l)){x:Int}(hx:x∈l):a<x:=(L4.1 h).1 x hx
theorem YW.tail {a:Int}(h:YW (a::l)):YW l:=(L4.1 h).2
theorem QlW (keep:Bool->Bool->Bool):∀(n:Nat) (a b:LI),a.length+b.length<=n->YW a->YW b->∀x,x∈mrg keep a b↔(x∈a\/x∈b)/\keep (decide (x∈a)) (decide (x∈b))=true:=by
 intro n;induction n with
 | zero =>
  intro a b h _ _ x;have S:a=[]:=Lq oa;have T:b=[]:=Lq oa;subst S T;simp[KG]
 | succ n ih =>
  intro a b H ia ib x;cases a with
  | nil =>
   cases b with
   | nil=>simp[KG]
   | cons y b =>
    rw[Ko keep oe];have:=ih [] b (by simp at H ⊢;omega) ia ib.tail x;have G:y∉b:=λh=>ou (ib.lt_of h)
    simp only[Jq,tl,hx,cond_true,cond_false,Oo,Ol,oU];rw[this];by_cases e:x=y
    ·subst e;cases E:keep false true <;> simp[E,G]
    cases keep false true <;> simp[e]
  | cons u a =>
   cases b with
   | nil =>
    rw[Ko keep oe];have:=ih a [] (by simp at H ⊢;omega) ia.tail ib x;have G:u∉a:=λh=>ou (ia.lt_of h)
    simp only[Jq,tl,hx,cond_true,cond_false,Oo,Ol,oU];rw[this];by_cases e:x=u
    ·subst e;cases E:keep true false <;> simp[E,G]
    cases keep true false <;> simp[e]
   | cons y b =>
    rw[Ko keep oe];have O:u∉a:=λh=>ou (ia.lt_of h)
    have G:y∉b:=λh=>ou (ib.lt_of h)
    rcases Int.lt_trichotomy u y with I|I|I
    ·have J:u∉y::b:=λh=>by
      rcases Li.1 h with h|h
      ·omega
      have:=ib.lt_of h;omega
     have:=ih a (y::b) (by simp at H ⊢;omega) ia.tail ib x;have e1:decide (u<=y)=true:=OX oa;have e2:decide (y<=u)=false:=OZ oa;simp only[Jq,tl,hx,e1,e2,cond_true,cond_false,Oo,Ol,oU];rw[this];by_cases e:x=u
     ·subst e;cases E:keep true false <;> simp[E,O,J]
     cases keep true false <;> simp[e]
    ·subst I;have:=ih a b (by simp at H ⊢;omega) ia.tail ib.tail x;have e1:decide (u<=u)=true:=OX oa;simp only[Jq,tl,hx,e1,cond_true,Oo,Ol,oU];rw[this];by_cases e:x=u
     ·subst e;cases E:keep true true <;> simp[E,O,G]
     cases keep true true <;> simp[e]
    have J:y∉u::a:=λh=>by
     rcases Li.1 h with h|h
     ·omega
     have:=ia.lt_of h;omega
    have:=ih (u::a) b (by simp at H ⊢;omega) ia ib.tail x;have e1:decide (u<=y)=false:=OZ oa;have e2:decide (y<=u)=true:=OX oa;simp only[Jq,tl,hx,e1,e2,cond_true,cond_false,Oo,Ol,oU];rw[this];by_cases e:x=y
    ·subst e;cases E:keep false true <;> simp[E,G,J]
    cases keep false true <;> simp[e]
theorem zy {keep:Bool->Bool->Bool}{a b:LI}(ia:YW a)(ib:YW b)(x:Int):x∈mrg keep a b↔(x∈a\/x∈b)/\keep (decide (x∈a)) (decide (x∈b))=true :=
 QlW keep _ a b (Lx _) ia ib x
def setK (m k:Nat):LI:=((oR 0 k).filter λi=>decide (((m / 2 ^ i) &&& 1)=1)).map λi:Nat=>(i:Int)
theorem U5 (m k:Nat):setK m (k+1)=if(m / 2 ^ k) &&& 1=1 then setK m k++[(k:Int)]else setK m k:=by
 unfold setK;rw[MA,L6,Ls,LS];by_cases h:(m / 2 ^ k) &&& 1=1
 ·rw[OU h,Me,OU (OX h)];rfl
 rw[OT h,Me,OT (by rw[OZ h];simp),Nq,Nt,LQ]
theorem JG (m:Nat):∀k,(setK m k).length<=k
 | 0=>by simp[setK]
 | k+1=>by
  have:=JG m k;rw[U5];split
  ·simp;omega
  omega
theorem QbO (m k:Nat):YW (setK m k):=by
 unfold setK YW;rw[MF];refine List.Pairwise.sublist M1 ?_;exact(Nm (s:=0) (n:=k)).imp (λh=>oa)
instance ayCx1:Ay prog 113 4 5 1:=⟨od,od⟩
section
variable {pS:String}
theorem q6 {e bys:Nat}[h:Sl P t e sz bys z]{base:Nat}{v:O2}(E:w.ownsRow base e sz v n cs):
  (Builtin.append_ #[t,t] ty #[v,nS]).run P w=.ok v w:=by
 obtain⟨i,hi,_,H,_⟩:=Sl.info h;rcases E.2 with⟨rfl,rfl⟩|⟨g,cap,cur,rfl,I,J,G,O,S,T⟩
 ·simp[Builtin.append_,run_underlying h.u,sizeOf,typeInfo,hi,Builtin.lenOf,Builtin.firstCells]
 simp[Builtin.append_,run_underlying h.u,sizeOf,typeInfo,hi,Builtin.lenOf,Builtin.firstCells,G,storeCells]
theorem QaL {e bys:Nat}[h:Sl P t e sz bys z]{s:O3}{base:Nat}{v:O2}(E:w.ownsRow base e sz v n cs)(I:ev f s=v)
  {v2:O2} {m:Nat}   (G:Zp L w.heap v2 m sz news) (J:ev f y=v2) (O:∀u∈news,u.oneCell'=true)
  (H:n+m<=1099511627776) (S:base<=w.heap.size)
  (hK:∀v' w',w'.ownsRow base e sz v' (n+m) (cs++news)->O5 (ob v) w w'->(∀b∈ob v',b∈ob v\/w.heap.size<=b)->K (QW f d v') w') (T:bys<=128:=by decide):
  XO P ⟨d,.call ⟨.builtin .append,#[s,y],#[t,t]⟩,ty,pS,af,gd⟩ f w K:=by
 rcases G.2.2 with⟨e1,e2⟩|⟨a,c,e1,_,e3⟩
 ·subst e2;have V:news=[]:=Lq (by have:=G.1;simpa using this);subst V;have Y:(execOp (ev f) ⟨d,.call ⟨.builtin .append,#[s,y],#[t,t]⟩,ty,pS,af,gd⟩).run P w=.ok (.value v) w:=by
   simp[execOp,resolve,invoke,builtin,I,J,e1,q6 (ty:=ty) E]
  exact xv Y (hK v w (oz E) (O5.Z _ _) (λb H=>.inl H))
 exact Q8 E I (J.D e1) G.1 e3 O H S hK T
end
theorem Qe6 {v:O2}(h:QR L w.heap v l)(x:Int):
  Q6 prog 217 [v,oF oG x] w λr w'=>r=.bool (decide (x∈l))/\w'=w:=by
 have S:=h.le;refine Zo func217 ?_;refine Qc<|Lg.Qb<|Qd<|Qc<|Lg.Qb<|Qg<|QC (α:=Nat) [(4,17)] (λk=>[(5,oF oG k)]) (λk w'=>w'=w/\k<=l.length/\(x∈l↔x∈l.drop k)) (λk=>l.length - k) ol 0 La ⟨U,Ln _,oe⟩ ?_;rintro k g w' ⟨rfl,T,G⟩;refine Qd<|Qc<|Lg.Qa<|Lg.Qa<|Lg.x (YX h U)<|Lg.QY U U<|xe<|QH rfl (λJ=>?_) (λJ=>?_)
 ·refine Qz<|Qc<|Lg.Qb<|Qk ⟨[.bool false],La,?_,U⟩;rw[Lr oa]at G;simp[tup,G]
 have I:k<l.length:=oa
 have hd:=Zf I;refine Qh<|Qd<|Qg<|Qc<|Lg.Qa<|Lg.Qa<|xii h U U I λV O=>Lg.x (QD O U)<|Lg.Qa<|Lg.x (Q2 U U)<|xe<|QZ rfl (λH=>?_) (λH=>?_)
 ·refine Qc<|Lg.Qb<|Qk ⟨[.bool true],La,?_,U⟩;have:x∈l:=by rw[G,hd,H];exact Lp
  simp[tup,this]
 refine Qh<|Qv<|Lg.Qa<|Lg.QP U U<|Lg.Qb<|⟨k+1,oa,La,U,oa,?_⟩;rw[G,hd,Li];exact⟨λh=>h.resolve_left (λe=>H e.symm),.inr⟩
theorem QbH (h:zm L w.heap ve a.ed)(s e:Int)(st:Int):
  Q6 prog 218 [.agg #[va,oF oG st,vm,ve],oF oG s,oF oG e] w λr w'=>r=oF oG (xj a.ed s e)/\O5 [] w w':=by
 have he:=h.le;refine Zo func218 ?_;refine Qc<|Qe<|QV (us:=[va,oF oG st,vm,ve]) U λb3 T J hf G=>Lg.Qb ?_
 replace h:=h.I J;refine Qd<|Qc<|Lg.Qb<|Qg<|QC (α:=Nat) [(6,38)] (λk=>[(7,oF oG k)]) (λk w'=>w'=T/\k<=a.ed.length/\xj (a.ed.drop k) s e=xj a.ed s e) (λk=>a.ed.length - k) ol 0 La ⟨U,Ln _,U⟩ ?_;rintro k g V ⟨rfl,hk,H⟩;refine Qd<|Qc<|Lg.Qa<|Lg.Zc U<|Lg.x (Qq G U U)<|Lg.x (YX h U)<|Lg.QY U U<|xe<|QH rfl (λY=>?_) (λY=>?_)
 ·refine Qz<|Qc<|Lg.Qb<|Qk ⟨[oF oG (-1)],La,?_,J⟩;rw[Lr oa]at H;rw[<-H];rfl
 have I:k<a.ed.length:=oa
 have hd:=Zf I;refine Qh<|Qd<|Qg<|Q3 (α:=Bool) [(15,32)] (λz=>[(32,.bool z)]) (λz w'=>w'=V/\z=decide (a.ed[k].1=s/\a.ed[k].2.1=e)) ol ?_ ?_
 ·refine Qv<|Lg.Zc U<|Lg.x (Qq G U U)<|Lg.Qa<|xie h U U I λhg ha=>Lg.x (Zs U)<|Lg.x (QD (ha.fld 0 _ U) U) <|
   Lg.Qa<|xb (Q2 U U) (λO=>?_) (λO=>?_)
  ·refine Lg.Qa<|Lg.Zc U<|Lg.x (Qq G U U)<|Lg.Qa<|xie h U U I λhh hb=>Lg.x (Zs U)<|Lg.x (QD (hb.fld 1 _ U) U) <|
    Lg.Qa<|Lg.x (Q2 U U)<|Lg.QJ U<|xe ?_
   exact⟨_,La,U,by simp[O]⟩
  refine Lg.Qa<|Qr<|Qr<|Qr<|Qr<|Qr<|Qr<|Qr<|Qr<|Lg.QJ U<|xe ?_;exact⟨_,La,U,by simp[O]⟩
 rintro z g w3 ⟨rfl,rfl⟩;refine QZ rfl (λS=>?_) (λS=>?_)
 ·refine Qc<|Lg.Zc U<|Lg.x (Qq G U U)<|Lg.Qa<|xie h U U I λhi hc=>Lg.x (Zs U)<|Lg.x (QD (hc.fld 2 _ U) U) <|
   Lg.Qb<|Qk ⟨[oF oG a.ed[k].2.2],La,?_,J⟩
  rw[<-H,hd,xj,OU S];rfl
 refine Qh<|Qv<|Lg.Qa<|Lg.QP U U<|Lg.Qb<|⟨k+1,oa,La,U,oa,?_⟩;rw[<-H,hd,xj,OT S]
def yz (l:LI)(n:Int):Int:=if n∈l then(l.idxOf n:Int)else -1
theorem Qja {n:Int}{k:Nat}(h:n∉l.take k)(G:k<l.length)(H:O6 l k=n):yz l n=k:=by
 have I:n∈l:=by rw[<-H,<-ZE G];exact Ll G
 unfold yz;rw[OU I];have J:l=l.take k++l.drop k:=(MM k l).symm;have:l.idxOf n=k:=by
  rw[J,MC,OT h,LF G,List.idxOf_cons,show l[k]=n by rw[ZE G];exact H];simp;omega
 rw[this]
theorem Qgz {v:O2}(h:QR L w.heap v l)(n:Int):
  Q6 prog 219 [v,oF oG n] w λr w'=>r=oF oG (yz l n)/\w'=w:=by
 have S:=h.le;refine Zo func219 ?_;refine Qc<|Qb<|Qd<|Qc<|Qb<|Qg<|QC (α:=Nat) [(4,18)] (λz=>[(5,oF oG z)]) (λz w'=>w'=w/\z<=l.length/\n∉l.take z) (λz=>l.length - z) ol 0 La ⟨U,Ln _,oe⟩ ?_;rintro k g T ⟨rfl,V,H⟩;refine Qd<|Qm<|Qa<|QL h U<|QY U U<|xe<|QH rfl (λJ=>?_) (λJ=>?_)
 ·refine Qz<|Qc<|Qb ?_;rw[Lt oa]at H;exact Qk ⟨[oF oG (-1)],La,by unfold yz;rw[OT H];rfl,U⟩
 have G:k<l.length:=oa
 refine Qh<|Qd<|Qg<|Qm<|Qa<|xic (i:=k) h U U G λY O=>x (QD O U)<|Qa<|x (Q2 U U)<|xe<|QZ rfl (λI=>?_) (λI=>?_)
 ·refine Qm<|Qb<|Qk ⟨[oF oG k],La,by rw[Qja H G I];rfl,U⟩
 refine Qh<|Qv<|Qa<|QP U U<|Qb<|⟨k+1,oa,La,U,G,?_⟩;rw[Lm G,ZE G];simp only[oU,oI,not_or];exact⟨H,λe=>I e.symm⟩
theorem qt {v:O2}(h:QR L w.heap v l)(hl:l.length<=1000000):
  Q6 prog 140 [v] w λr w'=>O5 [] w w'/\∃va,r=.agg #[va,oF oG 0,nS,nS]/\Qu 3 w.heap.size w' va l:=by
 refine Zo func140 ?_;refine Qc<|Qe<|Qo (us:=[nS,oF oG 0,nS,nS]) U λb2 G T he V=>xe ?_;have hf:=T.size;have hg:=V.lt;refine Qc<|Qe<|X4 λb3 w2 H hh hi=>Qa<|?_;have Y:=T.D H;have hp:=H.size;have I:w2.ownsRow G.heap.size 3 1 (.slice (some ⟨b3,0,none⟩) 0 0) 0 []:=hi.own (n:=0) (sz:=1) U oa hh;refine Qe<|QaL I U (h.I Y) U (Uz l) oa oa λva J hj ha hq=>?_;have O:Qu 3 G.heap.size J va l:=by
  have:J.ownsRow G.heap.size 3 1 va (0+l.length) ([]++l.map (.int .i64)):=hj;rw[LS,Mb]at this;exact this
 have hA:=Qu.ints (L:=[]) O oa oe;have hk:=(V.I H).J ha (QS I hg);have hm:O5 [] w J:=Y.then ha (λb S=>.inr (ou (Qi I b S).1));refine x (Qx ⟨hA.cells,Z⟩)<|Qe<|Qj (us:=[va,oF oG 0,nS,nS]) hk U U U U ⟨hA.one,U,U,U,Z⟩ λw4 hc hn=>xe ?_;have ho:=Qf O hc (λb S=>by have:=(Qi O b S).1;simp;omega);exact Qk ⟨[.agg #[va,oF oG 0,nS,nS]],⟨⟨_,U,Qp U (hn.at (L:=[]) oe).cells⟩,Z⟩,hm.O hc he,va,rfl,Zu ho hf⟩
theorem xH:∀(n:Nat) (l:LI),l.Nodup->(∀x∈l,0<=x/\x<n)->l.length<=n
 | 0,l,_,h=>by
  cases l with
  | nil=>simp
  | cons a l=>have:=h a Lp;omega
 | n+1,l,hd,h=>by
  by_cases G:(n:Int)∈l
  ·have I:=xH n (l.erase (n:Int)) (hd.erase _) (λx hx=>by
    have H:=(List.Nodup.mem_erase_iff hd).1 hx;have J:=h x H.2;have O:x≠(n:Int):=H.1;omega)
   rw[List.length_erase_of_mem G]at I;omega
  have:=xH n l hd (λx hx=>by
   have J:=h x hx;have O:x≠(n:Int):=λe=>G (by rw[<-e];exact hx);omega)
  omega
def Uk (a:Q0)(s:Int)(out:LI)(v:Int):LI:=if 0<=xj a.ed s v/\xj a.ed s v∉out then out++[xj a.ed s v]else out
def fdR (a:Q0)(out:LI)(s:Int):LI:=a.al.foldl (Uk a s) out
def j3 (a:Q0):Nat->Nat->LI->LI
 | 0,_,out=>out
 | f+1,i,out=>if i<out.length then j3 a f (i+1) (fdR a out (O6 out i))else out
def fd0 (a:Q0):LI:=if 0<a.st then[0]else[]
def xq (a:Q0):LI:=j3 a a.st.toNat 0 (fd0 a)
structure zl (a:Q0)(out:LI):Prop where
 b:∀x∈out,0<=x/\x<a.st
 d:out.Nodup
theorem zl.len (h:zl a out)(G:0<=a.st):out.length<=a.st.toNat:=xH _ _ h.d (λx hx=>ou (h.b x hx))
theorem QaM {v:Int}(h:0<=xj es s v):(s,v,xj es s v)∈es:=by
 induction es with
 | nil=>simp[xj]at h
 | cons e es ih =>
  rw[xj]at h ⊢;split at h
  ·rename_i G;rw[OU G];obtain⟨p,q,r⟩:=e;obtain⟨H,I⟩:=G;simp only[]at H I;subst H I;exact Lp
  rename_i G;rw[OT G];exact Lj _ (ih h)
theorem Qjw (I:ZA a)(h:zl a out)(s v:Int):zl a (Uk a s out v):=by
 unfold Uk;split
 ·rename_i G;have J:=I.ed _ (QaM G.1);refine⟨λx hx=>?_,?_⟩
  ·rcases Lc.1 hx with hx|hx
   ·exact h.b x hx
   simp only[oI]at hx;subst hx;exact⟨G.1,J.2.2.2.2⟩
  rw[ME];refine⟨h.d,oe,λx hx y H=>?_⟩;simp only[oI]at H;subst H;exact λe=>G.2 (by rw[<-e];exact hx)
 exact h
theorem Qmp {v:Int}:∀x∈out,x∈Uk a s out v:=λx hx=>by unfold Uk;split;exact Md _ hx;exact hx
theorem Qo2 {v:Int}(h:0<=xj a.ed s v):xj a.ed s v∈Uk a s out v:=by
 unfold Uk;by_cases G:xj a.ed s v∈out
 ·rw[OT (λe=>e.2 G)];exact G
 rw[OU ⟨h,G⟩];simp
theorem Qju {a:Q0}(G:ZA a)(s:Int):∀(vs:LI) (out:LI),zl a out->zl a (vs.foldl (Uk a s) out)
 | [],_,h=>h
 | v::vs,_,h=>Qju G s vs _ (Qjw G h s v)
theorem Qa9 {a:Q0}{s:Int}:∀(vs:LI) (out:LI),∀x∈out,x∈vs.foldl (Uk a s) out
 | [],_,_,hx=>hx
 | _::vs,_,x,hx=>Qa9 vs _ x (Qmp x hx)
theorem Qjv {a:Q0}{s:Int}:∀(vs:LI) (out:LI),∀v∈vs,0<=xj a.ed s v->xj a.ed s v∈vs.foldl (Uk a s) out
 | v::vs,out,u,G,h=>by
  rcases Li.1 G with rfl|G
  ·exact Qa9 vs _ _ (Qo2 h)
  exact Qjv vs _ u G h
theorem Qe9 {a:Q0}{s:Int}:∀(vs:LI) (out:LI),∃r,vs.foldl (Uk a s) out=out++r
 | [],out=>⟨[],oe⟩
 | v::vs,out=>by
  obtain⟨r,G⟩:=Qe9 (a:=a) (s:=s) vs (Uk a s out v);rw[LZ,G];unfold Uk;split
  ·exact⟨[xj a.ed s v]++r,oe⟩
  exact⟨r,U⟩
theorem yU {r:LI}(h:i<l.length):O6 (l++r) i=O6 l i:=by
 rw[<-ZE h,<-ZE (by simp;omega),MB h]
def Cl (a:Q0)(out:LI)(i:Nat):Prop:=∀j,j<i->j<out.length->∀v∈a.al,0<=xj a.ed (O6 out j) v->xj a.ed (O6 out j) v∈out
theorem Cl.next (h:Cl a out i)(hi:i<out.length):Cl a (fdR a out (O6 out i)) (i+1):=by
 intro j S T v H G;obtain⟨r,O⟩:=Qe9 (a:=a) (s:=O6 out i) a.al out;have I:fdR a out (O6 out i)=out++r:=O;have J:j<out.length:=oa
 rw[I,yU J]at G ⊢;by_cases e:j=i
 ·subst e;have:=Qjv a.al out v H G;rw[<-I];exact this
 exact Md _ (h j oa J v H G)
theorem Qjt {a:Q0}(H:ZA a):∀(f i:Nat) (out:LI),zl a out->Cl a out i->i+f=a.st.toNat->zl a (j3 a f i out)/\Cl a (j3 a f i out) (j3 a f i out).length
 | 0,i,out,h,G,O=>by
  have:=h.len H.st0;exact⟨h,λj J I=>G j (by rw[j3]at J;omega) I⟩
 | f+1,i,out,h,G,O=>by
  rw[j3];split
  ·rename_i hi;exact Qjt H f (i+1) _ (Qju H _ _ _ h) (G.next hi) oa
  rename_i hi;exact⟨h,λj J I=>G j oa I⟩
theorem Qjx (a:Q0):zl a (fd0 a):=by
 unfold fd0;split
 ·rename_i h;exact⟨λx hx=>by simp only[oI]at hx;subst hx;exact⟨oa,h⟩,oe⟩
 exact⟨oe,oe⟩
theorem yE (I:ZA a):zl a (xq a)/\∀s∈xq a,∀v∈a.al,0<=xj a.ed s v->xj a.ed s v∈xq a:=by
 obtain⟨J,O⟩:=Qjt I a.st.toNat 0 (fd0 a) (Qjx a) (λj G=>oa) oa;refine⟨J,λs S v T H=>?_⟩;obtain⟨j,G,rfl⟩:=LG S;have:=O j G G v T;unfold xq at G H ⊢;rw[ZE G]at H ⊢;exact this H
def KP (a:Q0)(fd:LI)(i:Nat)(v:Int):Option Ed:=if 0<=xj a.ed (O6 fd i) v then some ((i:Int),v,yz fd (xj a.ed (O6 fd i) v))else none
def Xf (a:Q0)(fd:LI)(n:Nat):LI:=((oR 0 n).filter λi=>decide (O6 fd i∈a.mr)).map λi:Nat=>(i:Int)
def Xu (a:Q0)(fd:LI)(n:Nat):List Ed:=(oR 0 n).flatMap λi=>a.al.filterMap (KP a fd i)
def Xj (a:Q0):Q0:=⟨a.al,(xq a).length,Xf a (xq a) (xq a).length,Xu a (xq a) (xq a).length⟩
theorem Jo {β:Type}{r:Int->Int->Prop}{q:β->β->Prop}{g:Int->Option β}(G:∀x y u v,r x y->g x=some u->g y=some v->q u v):∀{l:LI},l.Pairwise r->(l.filterMap g).Pairwise q
 | [],_=>oe
 | x::l,h=>by
  obtain⟨I,H⟩:=L4.1 h;rw[Mz];split
  ·exact Jo G H
  rename_i u J;refine L4.2 ⟨λv O=>?_,Jo G H⟩;obtain⟨y,S,T⟩:=MZ.1 O;exact G x y u v (I y S) J T
theorem Qbg (H:ZA a):ZA (Xj a)/\(Xj a).al=a.al/\(Xj a).st<=a.st:=by
 obtain⟨Y,h2⟩:=yE H;have hl:=Y.len H.st0;have h0:=H.st0;have h4:=H.st1;refine⟨⟨H.al,H.ali,by simp[Xj],by simp only[Xj];omega,λs S=>?_,?_,λe J=>?_,?_⟩,U,by simp only[Xj];omega⟩
 ·simp only[Xj,Xf,Oz,OF,OA]at S;obtain⟨i,⟨hi,_⟩,rfl⟩:=S;simp only[Xj];omega
 ·simp only[Xj,Xf];unfold YW;rw[MF];refine List.Pairwise.sublist M1 ?_;exact(Nm (s:=0) (n:=(xq a).length)).imp (λh=>oa)
 ·simp only[Xj,Xu,List.mem_flatMap,List.mem_filterMap,OA]at J;obtain⟨i,⟨_,hi⟩,v,I,G⟩:=J;unfold KP at G;split at G
  ·rename_i hn;cases G
   have T:i<(xq a).length:=oa
   have V:=h2 (O6 (xq a) i) (by rw[<-ZE T];exact Ll T) v I hn;have hx:=ML V;simp only[Xj];unfold yz;rw[OU V];exact⟨oa,oa,I,oa,oa⟩
  cases G
 simp only[Xj,Xu];have key:∀(is:LN),is.Pairwise (·<·)->(is.flatMap λi=>a.al.filterMap (KP a (xq a) i)).Pairwise λx y:Ed=>x.1<y.1\/(x.1=y.1/\x.2.1<y.2.1):=by
  intro is;induction is with
  | nil=>intro _;simp
  | cons i is ih =>
   intro hp;obtain⟨p1,p2⟩:=L4.1 hp;rw[LM,MK];have from_i:∀(i:Nat) (e:Ed),e∈a.al.filterMap (KP a (xq a) i)->e.1=i:=by
    intro i e J;obtain⟨v,_,G⟩:=MZ.1 J;unfold KP at G;split at G
    ·cases G;rfl
    cases G
   refine⟨?_,ih p2,λe J e' ha=>?_⟩
   ·refine Jo (r:=(·<·)) (λx y u v hb O I=>?_) H.ali;unfold KP at O I;split at O
    ·cases O;split at I
     ·cases I;exact .inr ⟨U,hb⟩
     cases I
    cases O
   obtain⟨j,hj,hc⟩:=Mf.1 ha;have e1:=from_i i e J;have e2:=from_i j e' hc;have:=p1 j hj;left;omega
 exact key _ (Nm (s:=0) (n:=(xq a).length))
theorem QgB (h:ZG L w.heap va vm ve a)(ho:ZA a):
  Q6 prog 216 [.agg #[va,oF oG a.st,vm,ve]] w λr w'=>O5 [] w w'/\Qu 3 w.heap.size w' r (xq a):=by
 have h0:=ho.st0;have h1:=ho.st1;have hU:=ho.al_le;refine Zo func216 ?_;refine Qc<|Qe<|QV (us:=[va,oF oG a.st,vm,ve]) U λb1 O hh hV hs=>Qb<|Qc<|Qb ?_;have h8:=hh.size;refine Q3 (α:=O2) [(3,3),(7,12)] (λz=>[(3,z)]) (λz w'=>O5 [] O w'/\Qu 3 O.heap.size w' z (fd0 a)) ol ?_ ?_
 ·refine Qc<|Qs U hs U U<|x (Z6 U U)<|xe<|QH U (λh9=>?_) (λh9=>?_)
  ·refine Qh ?_;exact⟨nS,La,O5.Z _ _,by unfold fd0;rw[OT h9];exact QI _ _ _ _⟩
  refine Qv<|Qa<|Qe<|QA (us:=[[oF oG 0]]) U U og oe ⟨rfl,rfl,Z⟩ λhW w2 hv hX hA=>?_;have hn:w2.ownsRow O.heap.size 3 1 (nS) 0 []:=QI _ _ _ _;have hY:=hv.size;refine Qe<|Q8 (news:=[oF oG 0]) (L:=[]) hn U U U (hA.at oe) (by simp[Value.oneCell']) oa oa λv3 w3 hB hC hZ =>
   Qb<|⟨v3,La,hv.then hC (λb hb=>by simp[ob]at hb),?_⟩
  unfold fd0;rw[OU h9];exact hB
 rintro v0 g4 w4 ⟨hD,hE⟩;refine Zj (xq a) λT hT=>?_;have hF:j3 a a.st.toNat 0 (fd0 a)=T:=hT;refine Qd<|Qc<|Qb<|Qg<|QC (α:=Nat×LI×O2) [(3,6),(13,48)] (λz=>[(3,z.2.2),(4,oF oG z.1)])
  (λz w'=>O5 [] O w'/\Qu 3 O.heap.size w' z.2.2 z.2.1/\zl a z.2.1/\z.1<=z.2.1.length/\j3 a (a.st.toNat - z.1) z.1 z.2.1=T) (λz=>a.st.toNat - z.1) ol (0,fd0 a,v0) oA
  ⟨hD,hE,Qjx a,Ln _,hF⟩ ?_
 rintro⟨i,out,v⟩ g5 w5 ⟨hj,V,G,hi,Y⟩;simp only[]at V G hi Y;have hw:=G.len h0;have hy:=Qu.ints (L:=[]) V oa oe;refine Qd<|Qm<|Qa<|QL hy U<|QY U U<|xe<|QH rfl (λhz=>?_) (λhz=>?_)
 ·have e:out=T:=by
   rw[<-Y];generalize a.st.toNat - i=f;cases f with
   | zero=>rfl
   | succ f=>rw[j3,OT oa]
  refine Qz<|Qm<|Qb ?_;rw[e]at V;exact Qk ⟨[v],La,hh.D hj,by rw[hT];exact Zu V h8⟩
 have I:i<out.length:=oa
 have hG:a.st.toNat - i=(a.st.toNat - (i+1))+1:=oa
 rw[hG,j3,OU I]at Y;refine Zj (O6 out i) λs J=>?_;rw[J]at Y;refine Zj (fdR a out s) λR hR=>?_;rw[hR]at Y;unfold fdR at hR;refine Qh<|Qd<|Qg<|Qc<|Qb<|Qg<|QC (α:=Nat×LI×O2) [(3,3),(5,6),(19,48)] (λz=>[(3,z.2.2),(5,oF oG z.1)])
  (λz w'=>O5 [] O w'/\Qu 3 O.heap.size w' z.2.2 z.2.1/\zl a z.2.1/\z.1<=a.al.length/\i<z.2.1.length/\O6 z.2.1 i=s/\(a.al.drop z.1).foldl (Uk a s) z.2.1=R) (λz=>a.al.length - z.1) ol (0,out,v) oA
  ⟨hj,V,G,Ln _,I,J,hR⟩ ?_
 clear hj V G hi hw hy I J hR hz;rintro⟨k,out,v⟩ g6 w6 ⟨ha,he,G,hk,I,J,H⟩;simp only[]at he G hk I J H;have hw:=G.len h0;have h2:=(h.al.I hh).I ha;have hl:=hs.I ha;have h3:=Qu.ints (L:=[]) he oa oe;refine Qd<|Qm<|Qs U hl U U<|QL h2 U<|QY U U<|xe<|QH rfl (λhH=>?_) (λhH=>?_)
 ·refine Qz<|Qv<|Qa<|QP U U<|Qb ?_;rw[Lr oa]at H;have hI:out=R:=H;exact⟨(i+1,out,v),oh,oA,ha,he,G,I,by simp only[];rw[hI];exact Y⟩
 have hf:k<a.al.length:=oa
 rw[LF hf,LZ,ZE hf]at H;refine Zj (O6 a.al k) λu hu=>?_;rw[hu]at H;have hJ:=(h.ed.I hh).I ha;refine Zj (xj a.ed s u) λt ht=>?_;have hK:Uk a s out u=if 0<=t/\t∉out then out++[t]else out:=by unfold Uk;rw[ht]
 have hm:=Qjw ho G s u;rw[hK]at H hm;refine Qh<|Qd<|Qg<|Qd<|ZF [] (Xi 0 12 [10])<|pq (λ_ S=>Z1 (hl.I S) U U)<|p QF<|p QF<|pic (i:=i) U h3 U U I λga h4=>?_;rw[J]at h4;refine pq (λ_ S=>QD (h4.I S) U)<|p (QQ U)<|pq (λ_ S=>Qq (hl.I S) U U)<|p QF <|
  pic (i:=k) U h2 U U hf λgb h5=>?_
 rw[hu]at h5;have hsr:=QbH (va:=va) (vm:=vm) (a:=a) (hJ.I (O5.C [] w6)) s u a.st;rw[ht]at hsr;refine pq (λ_ S=>QD (h5.I S) U)<|pk<|xg<|hsr.mono ?_;rintro r7 w7 ⟨rfl,hL⟩;have hg:=(O5.C [] w6).D hL;refine⟨hg,p ZI<|pe ?_⟩;have h6:=Qn he hg;have hM:=h3.I hg;refine Q3 (α:=Unit) [(37,44)] (λz=>[(44,.bool (decide (0<=t/\t∉out)))]) (λz w'=>w'=w7) ol ?_ ?_
 ·refine Qv<|Qa<|xb (Yw U U) (λhp=>?_) (λhp=>?_)
  ·refine Qa<|Qa<|Qa<|QN<|(Qe6 hM t).mono ?_;rintro r8 w8 ⟨rfl,rfl⟩;refine x (ZB U)<|QJ U<|xe<|⟨(),⟨OV Value.bool ?_,Z⟩,U⟩;show(!decide (t∈out))=_;rw[Bool.eq_iff_iff];simp[hp]
  refine Qa<|Qr<|Qr<|Qr<|Qr<|QJ U<|xe ?_;exact⟨(),⟨OV Value.bool (OZ (λe=>hp e.1)).symm,Z⟩,U⟩
 rintro _ g9 w9 rfl;refine QH rfl (λhq=>?_) (λhq=>?_)
 ·rw[OT hq]at H;refine Qh<|Qv<|Qa<|QP U U<|Qb<|⟨(k+1,out,v),oh,oA,ha.D hg,h6,G,hf,I,J,H⟩
 rw[OU hq]at H hm;have h7:=ha.D hg;have gc:=h7.size;refine Qv<|Qa<|Qa<|Qe<|QA (us:=[[oF oG t]]) U U og oe ⟨rfl,rfl,Z⟩ λgg gh hr gi hN=>?_;have hO:=Qn h6 hr;have gj:=hr.size;refine Qe<|Q8 (news:=[oF oG t]) (L:=[]) hO U U U (hN.at oe) (by simp[Value.oneCell']) oa oa λhP gk hQ hS gl =>
  Qb ?_
 have hge:=Qi he;refine Qv<|Qa<|QP U U<|Qb<|⟨(k+1,out++[t],hP),oh,oA,(h7.D hr).then hS (λb hb=>.inr (hge b hb).1),Qu.snoc hQ,hm,hf,by simp;omega,?_,H⟩;simp only[];rw[yU I];exact J
structure CrI (w7:O1)(b4:Nat)(vcl:O2)(n:Int)(vm vd:O2)(M:LI)(E:List Ed)(w:O1):Prop where
 st:O5 [b4] w7 w
 B:Q7 w.heap b4 59 [vcl,oF oG n,vm,vd]
 m:Qu 3 w7.heap.size w vm M
 e:YJ 167 w7.heap.size w vd E
 dj:Dj vm vd
section
variable {w7 w'':O1}{b4:Nat}{vcl:O2}{n:Int}{vd:O2}{M:LI}{E:List Ed}
theorem CrI.I (h:CrI w7 b4 vcl n vm vd M E w)(G:O5 [] w w'):CrI w7 b4 vcl n vm vd M E w':=⟨h.st.D G,h.B.I G,Qn h.m G,Qn h.e G,h.dj⟩
theorem CrI.setM (h:CrI w7 b4 vcl n vm vd M E w)(J:b4<w7.heap.size){G:O2}{M':LI}(O:O5 (ob vm) w w')(S:Qu 3 w7.heap.size w' G M')(T:∀b∈ob G,b∈ob vm\/w.heap.size<=b)(H:O5 [b4] w' w'')
  (V:Q7 w''.heap b4 59 [vcl,oF oG n,G,vd]):CrI w7 b4 vcl n G vd M' E w'' :=
 ⟨(h.st.then O (λb J=>.inr (Qi h.m b J).1)).Q H,V,Qf S H (λb I=>by have:=(Qi S b I).1;simp;omega),
  Qf (Qf h.e O h.dj.symm) H (λb I=>by have:=(Qi h.e b I).1;simp;omega),(h.dj.symm.grow T (Zb h.e)).symm⟩
theorem CrI.setE (h:CrI w7 b4 vcl n vm vd M E w)(J:b4<w7.heap.size){G:O2}{E':List Ed}(O:O5 (ob vd) w w')(S:YJ 167 w7.heap.size w' G E')(T:∀b∈ob G,b∈ob vd\/w.heap.size<=b)(H:O5 [b4] w' w'')
  (V:Q7 w''.heap b4 59 [vcl,oF oG n,vm,G]):CrI w7 b4 vcl n vm G M E' w'' :=
 ⟨(h.st.then O (λb J=>.inr (Qi h.e b J).1)).Q H,V,Qf (Qf h.m O h.dj) H (λb I=>by have:=(Qi h.m b I).1;simp;omega),
  Qf S H (λb I=>by have:=(Qi S b I).1;simp;omega),h.dj.grow T (Zb h.m)⟩
end
theorem Qah (a:Q0)(fd:LI)(k:Nat):Xf a fd (k+1)=if O6 fd k∈a.mr then Xf a fd k++[(k:Int)]else Xf a fd k:=by
 unfold Xf;rw[MA,L6,Ls,LS];by_cases h:O6 fd k∈a.mr
 ·rw[OU h,Me,OU (OX h)];rfl
 rw[OT h,Me,OT (by rw[OZ h];simp),Nq,Nt,LQ]
theorem QcP (a:Q0)(fd:LI):∀k,(Xf a fd k).length<=k
 | 0=>by simp[Xf]
 | k+1=>by
  have:=QcP a fd k;rw[Qah];split
  ·simp;omega
  omega
theorem QgZ (a:Q0)(fd:LI)(k:Nat):Xu a fd (k+1)=Xu a fd k++a.al.filterMap (KP a fd k):=by
 unfold Xu;rw[MA,LA,LS];simp
theorem jp (h:ZG L w.heap va vm ve a)(V:ZA a):
  Q6 prog 141 [.agg #[va,oF oG a.st,vm,ve]] w λr w'=>O5 [] w w'/\Jw w.heap.size w'.heap r (Xj a):=by
 have h0:=V.st0;have h1:=V.st1;have kw:=V.al_le;have gc:=(yE V).1;have gg:=gc.len h0;refine Zo func141 ?_;refine Zj (xq a) λfd hv=>?_;rw[hv]at gg;have gh:Xj a=⟨a.al,fd.length,Xf a fd fd.length,Xu a fd fd.length⟩:=by unfold Xj;rw[hv]
 refine Qc<|Qe<|QV (us:=[va,oF oG a.st,vm,ve]) U λb1 w1 gi kx hw=>Qe<|Qo (us:=[nS,oF oG 0,nS,nS]) U λb2 w2 hz kz hF=>xe ?_;have Y:=gi.D hz;have hfr:=QgB (h.I Y) V;rw[hv]at hfr;refine Qc<|Q9 (hw.I hz) U U<|QN<|hfr.mono ?_;rintro vf w3 ⟨hp,gj⟩;refine Qb ?_;have hG:=Y.D hp;have hH:=(hw.I hz).I hp;refine Qc<|Qs U hH U U<|QN<|(qt (h.al.I hG) oa).mono ?_;rintro r4 w4 ⟨hJ,vcl,rfl,ha⟩;have hK:=Qu.ints (L:=[]) ha oa oe;refine Qe<|Qo (us:=[nS,oF oG 0,nS,nS]) U λb4 w5 gk gl gm =>
  Qe<|Qj (us:=[vcl,oF oG 0,nS,nS]) gm U U U U ⟨hK.one,U,U,U,Z⟩ λw6 gn hL=>xe ?_
 have h2:O5 [] w4 w6:=gk.O gn gl;have he:=hJ.D h2;have hM:=Qu.ints (L:=[]) gj oa oe;have k0:=hp.size;have k4:=hJ.size;have k5:=h2.size;have k6:=hw.lt;have k7:=hF.lt;have k8:=hL.lt;refine Qm<|QL hM U<|Zc U<|Qe<|QB (u:=oF oG fd.length) hL U U oe rfl λw7 S go=>xe ?_;have k9:=S.size;have ma:O5 [b4] w3 w7:=(he.any (L:=[b4])).Q S;have hN:O5 [] w w7:=(hG.D he).O S oa;have hO:QR [b4] w7.heap vf fd:=((hM.up (L':=[b4]) (λb G=>.inr (by simp at G;omega))).I he).st S;have h3:ZG [b4] w7.heap va vm ve a:=(h.up (λb G=>.inr (by simp at G;omega))).I hN;have gp:Qu 3 w3.heap.size w7 vcl a.al:=Qf (Qn ha h2) S (λb G=>by have:=Zb ha b G;simp;omega);have hP:=(hH.I he).J S (by simp;omega);have gq:=((hF.I hp).I he).J S (by simp;omega);have hf:b4<w7.heap.size:=oa
 have n1:b1∉[b4]:=by simp;omega
 have n2:b2∉[b4]:=by simp;omega
 refine Qd<|Qc<|Qb<|Qg<|QC (α:=Nat×O2×O2) [(5,7),(16,69)] (λz=>[(5,oF oG z.1)])
  (λz w'=>z.1<=fd.length/\CrI w7 b4 vcl fd.length z.2.1 z.2.2 (Xf a fd z.1) (Xu a fd z.1) w'/\(Xu a fd z.1).length<=z.1*32) (λz=>fd.length - z.1) ol (0,nS,nS) La
  ⟨Ln _,⟨O5.Z _ _,go,QI _ _ _ _,QI _ _ _ _,Dj.nil' _⟩,Ln _⟩ ?_
 rintro⟨i,v1,v2⟩ g8 w8 ⟨hi,I,h4⟩;simp only[]at hi I h4;have gr:=QcP a fd i;have hQ:=hO.st I.st;refine Qd<|Qm<|Qa<|QL hQ U<|QY U U<|xe<|QH rfl (λgs=>?_) (λgs=>?_)
 ·have gt:i=fd.length:=oa
  rw[gt]at I h4 gr;refine Qz ?_;have gu:=Qu.ints (L:=[]) I.m oa oe;have gv:=YJ.eds (L:=[]) I.e oa oe;refine Qc<|Q9 I.B U U<|Qe<|Qj (us:=[vcl,oF oG fd.length,v1,v2]) (gq.J I.st n2) U U U U ⟨hK.one,U,gu.one,gv.one,Z⟩ λw9 hq gw=>xe ?_;refine Qk ⟨[.agg #[vcl,oF oG fd.length,v1,v2]],⟨⟨_,U,Qp U (gw.at (L:=[]) oe).cells⟩,Z⟩,(hN.O I.st oa).O hq oa,?_⟩;rw[gh];have k1:=Qf (Qf gp I.st (λb G=>by have:=Zb ha b G;simp;omega)) hq (λb G=>by have:=(Qi ha b G).1;simp;omega);have k2:=Qf I.m hq (λb G=>by have:=(Qi I.m b G).1;simp;omega);have k3:=Qf I.e hq (λb G=>by have:=(Qi I.e b G).1;simp;omega);refine⟨vcl,v1,v2,U,λL' h5=>⟨?_,?_,?_⟩⟩
  ·exact Qu.ints k1 (by show a.al.length<=_;omega) (λb G=>ou (h5 b G))
  ·exact Qu.ints k2 (by show(Xf a fd fd.length).length<=_;omega) (λb G=>ou (h5 b G))
  exact YJ.eds k3 (by show(Xu a fd fd.length).length<=_;omega) (λb G=>ou (h5 b G))
 have h6:i<fd.length:=oa
 refine Zj (O6 fd i) λs hr=>?_;have hg:=Qah a fd i;rw[hr]at hg;refine Qh<|Qd<|Qg<|Q3 (α:=O2) [(22,34)] (λz=>[]) (λz w'=>CrI w7 b4 vcl fd.length z v2 (Xf a fd (i+1)) (Xu a fd i) w') ol ?_ ?_
 ·have gx:=h3.st I.st;have gy:=hP.J I.st n1;refine Qd<|ZF [] (Xi 0 7 [6])<|p (QQ U)<|pq (λ_ H=>Qq (gy.I H) U U)<|p QF<|p QF<|pic (i:=i) U hQ U U h6 λmf hR=>?_;rw[hr]at hR;refine pq (λ_ H=>QD (hR.I H) U)<|pk<|xg<|(Qe6 (gx.mr.I (O5.C [] w8)) s).mono ?_;rintro mg mh ⟨rfl,rfl⟩;have h7:=I.I (O5.C [] w8);refine⟨O5.C _ _,pe ?_⟩;refine QH U (λh8=>?_) (λh8=>?_)
  ·rw[OT h8]at hg;refine Qh ?_;exact⟨v1,Z,by rw[hg];exact h7⟩
  rw[OU h8]at hg;refine Qv<|Qs U h7.B U U<|Qa<|Qe<|QA (us:=[[oF oG i]]) U U og oe ⟨rfl,rfl,Z⟩ λmj mo gz mq g0=>?_;have hh:=h7.I gz;refine Qe<|Q8 (news:=[oF oG i]) (L:=[]) hh.m U U U (g0.at oe) (by simp[Value.oneCell']) oa hh.st.size λhS g2 g3 Y g4=>?_;have hT:Qu 3 w7.heap.size g2 hS (Xf a fd i++[(i:Int)]):=Qu.snoc g3;refine Zc U<|Qe<|QB (hh.B.J Y (QS hh.m hf)) U U oe (Qu.ints (L:=[]) hT (by simp;omega) oe).one λms g5 g6 =>
   xe ?_
  exact⟨hS,Z,by rw[hg];exact hh.setM hf Y hT g4 g5 g6⟩
 rintro v3 mt mu g7;refine Zj (Xu a fd (i+1)) λE1 h9=>?_;have hU:=QgZ a fd i;rw[h9]at hU;refine Qc<|Qb<|Qg<|QC (α:=Nat×List Ed×O2) [(6,7),(35,69)] (λz=>[(6,oF oG z.1)])
  (λz w'=>z.1<=a.al.length/\CrI w7 b4 vcl fd.length v3 z.2.2 (Xf a fd (i+1)) z.2.1 w'/\z.2.1.length<=i*32+z.1/\z.2.1++(a.al.drop z.1).filterMap (KP a fd i)=E1) (λz=>a.al.length - z.1) ol (0,Xu a fd i,v2) La
  ⟨Ln _,g7,h4,hU.symm⟩ ?_
 rintro⟨k,E,vd⟩ mv hV ⟨hk,O,g9,J⟩;simp only[]at hk O g9 J;have hA:=h3.st O.st;have hs:=hP.J O.st n1;have hW:=hO.st O.st;refine Qd<|Qm<|Qs U hs U U<|QL hA.al U<|QY U U<|xe<|QH rfl (λka=>?_) (λka=>?_)
 ·refine Qz<|Qv<|Qa<|QP U U<|Qb ?_;rw[Lr oa,List.filterMap_nil,LQ]at J;refine⟨(i+1,v3,vd),oh,La,h6,?_,?_⟩
  ·simp only[];rw[h9,<-J];exact O
  simp only[];rw[h9,<-J];omega
 have T:k<a.al.length:=oa
 refine Zj (O6 a.al k) λu hu=>?_;rw[LF T,ZE T,hu,Mz]at J;refine Zj (xj a.ed s u) λt ht=>?_;have kb:KP a fd i u=if 0<=t then some ((i:Int),u,yz fd t)else none:=by unfold KP;rw[hr,ht]
 rw[kb]at J;have hsr:=QbH (va:=va) (vm:=vm) (a:=a) (hA.ed.I (O5.C [] hV)) s u a.st;rw[ht]at hsr;refine Qh<|Qd<|Qg<|Qd<|ZF [] (Xi 0 12 [10])<|pq (λ_ H=>Z1 (hs.I H) U U)<|p QF<|p QF<|pic (i:=i) U hW U U h6 λmw hX=>?_;rw[hr]at hX;refine pq (λ_ H=>QD (hX.I H) U)<|p (QQ U)<|pq (λ_ H=>Qq (hs.I H) U U)<|p QF <|
  pic (i:=k) U hA.al U U T λmy hY=>?_
 rw[hu]at hY;refine pq (λ_ H=>QD (hY.I H) U)<|pk<|xg<|hsr.mono ?_;rintro mz hB ⟨rfl,kc⟩;have hj:=(O5.C [] hV).D kc;refine⟨hj,p ZI<|pe ?_⟩;have hm:=O.I hj;have ke:=hs.I hj;have kf:=hW.I hj;refine Qm<|x (Yw U U)<|xe<|QH rfl (λhC=>?_) (λhC=>?_)
 ·rw[OT hC]at J;refine Qh<|Qv<|Qa<|QP U U<|Qb<|⟨(k+1,E,vd),oh,La,T,hm,oh,J⟩
 rw[OU hC]at J;have kg:=Qi O.e;have kh:QR (b4::ob vd) hB.heap va a.al:=(((h3.al.up (L':=b4::ob vd) (λb G=>by
  rcases Li.1 G with rfl|G
  ·exact .inl oe
  exact .inr (kg b G).1)).J O.st oe).I hj)
 have ki:=QS hm.e hf;have kj:b1∉ob vd:=QS hm.e oa;refine ZF (ob vd) (Xi 0 16 [10,12,13,15])<|p (QQ U)<|pq (λ_ H=>Qq (hm.B.J H ki) U U)<|p QF<|p (QQ U)<|pq (λ_ H=>Qq (ke.J H kj) U U) <|
  p QF<|pic (i:=k) U kh U U T λm2 hZ=>?_
 rw[hu]at hZ;refine pq (λ_ H=>QD (hZ.J H (λb G=>Lj _ G)) U)<|p QF<|p QF <|
  pk<|xg<|(Qgz (kf.I (O5.C [] hB)) t).mono ?_
 rintro m3 m4 ⟨rfl,rfl⟩;refine⟨O5.C _ _,p (λ_=>Qx ⟨U,U,U,Z⟩)<|pk<|QA (us:=[QE ((i:Int),u,yz fd t)]) U U og (by exact(by decide:1*3<=1000000)) oA λm5 m6 kk m7 kn=>?_⟩;have hD:=(O5.C [] hB).D kk;have hn:=hm.I hD;refine⟨hD.any,?_⟩;refine pk<|Q8 (news:=QE ((i:Int),u,yz fd t)) (L:=[]) hn.e U U U (kn.at oe) (λy hy=>by simp only[QE,oL,oJ,or_false]at hy;rcases hy with rfl|rfl|rfl <;> rfl) oa hn.st.size λga ko kq hE kr=>⟨(hD.any (L:=ob vd)).Q hE,?_⟩
 have gb:YJ 167 w7.heap.size ko ga (E++[((i:Int),u,yz fd t)]):=YJ.snoc kq;refine p (QQ U)<|pkl (hl:=by kernel_rfl)<|QB (hn.B.J hE (QS hn.e hf)) U U oe (YJ.eds (L:=[]) gb (by simp;omega) oe).one λm8 kt ku =>
  pe ?_
 have kv:=hn.setE hf hE gb kr kt ku;refine Qv<|Qa<|QP U U<|Qb<|⟨(k+1,E++[((i:Int),u,yz fd t)],ga),oh,La,T,kv,by simp;omega,?_⟩;simp only[oV,Ov];exact J
section
variable {pS:String}
theorem VS {x:O3}{k:IntKind}{a b:Int}(hx:ev f x=.int k a)(H:ev f y=.int k b)(I:0<=a)(O:0<b):
  (execOp (ev f) ⟨d,.binOp .rem t x y G,ty,pS,af,gd⟩).run P w=.ok (.value (.int k (a % b))) w:=by
 refine Jj hx H ?_;have J:¬b=0:=oa
 simp[binOp,Op.intDiv,J,Int.tmod_eq_emod_of_nonneg I]
end
instance ayMa1:Ay prog 26 5 22 5:=⟨od,od⟩
instance ayMa2:Ay prog 22 5 5 1:=⟨od,od⟩
abbrev bys (ns:LN):LV:=ns.map λn:Nat=>.int .u8 (n:Int)
theorem qC (h:j<ns.length):(bys ns)[j]?=some (.int .u8 ((ns.getD j 0:Nat):Int)):=by simp[bys,oQ,h]
theorem QcR:∀(ns:LN),Zm (bys ns)
 | []=>trivial
 | _::ns=>⟨rfl,QcR ns⟩
theorem Jr (h:∀n∈ns,n<256)(j:Nat):ns.getD j 0<256:=by
 by_cases G:j<ns.length
 ·simp only[oQ,Of G,Option.getD_some];exact h _ (Ll G)
 simp[oQ,G]
structure GrI (al:LI)(S i k:Nat)(M:LI)(E:List Ed):Prop where
 mb:∀x∈M,0<=x/\x<S
 mi:YW M
 ml:∀x∈M,x<(i:Int)+1
 mn:M.length<=S
 eb:∀e∈E,0<=e.1/\e.1<S/\e.2.1∈al/\0<=e.2.2/\e.2.2<S
 ei:E.Pairwise λx y=>x.1<y.1\/(x.1=y.1/\x.2.1<y.2.1)
 el:∀e∈E,e.1<i\/(e.1=i/\e.2.1∈al.take k)
 en:E.length<=i*5+k
theorem Qmk {S:Nat}{M:LI}(G:∀x∈M,0<=x/\x<S)(hi:YW M):M.length<=S:=xH S M (hi.imp (λh=>oa)) G
theorem GrI.mark {S:Nat}{M:LI}{E:List Ed}(h:GrI al S i 0 M E)(G:∀x∈M,x<(i:Int))(hi:i<S):GrI al S i 0 (M++[(i:Int)]) E:=by
 have H:∀x∈M++[(i:Int)],0<=x/\x<S:=λx hx=>by
  rcases Lc.1 hx with hx|hx
  ·exact h.mb x hx
  simp only[oI]at hx;omega
 have I:YW (M++[(i:Int)]):=by
  refine MK.2 ⟨h.mi,oe,λx hx y J=>?_⟩;simp only[oI]at J;subst J;exact G x hx
 refine⟨H,I,λx hx=>?_,Qmk H I,h.eb,h.ei,h.el,h.en⟩;rcases Lc.1 hx with hx|hx
 ·have:=G x hx;omega
 simp only[oI]at hx;omega
theorem GrI.skip {S k:Nat}{M:LI}{E:List Ed}(h:GrI al S i k M E)(G:k<al.length):GrI al S i (k+1) M E :=
 ⟨h.mb,h.mi,h.ml,h.mn,h.eb,h.ei,λe H=>(h.el e H).imp id (λx=>⟨x.1,by rw[Lm G];exact Md _ x.2⟩),ou h.en⟩
theorem GrI.edge {S k:Nat}{M:LI}{E:List Ed}(h:GrI al S i k M E)(H:k<al.length)(O:YW al)(hi:i<S){t:Int}(T:0<=t)(V:t<S):GrI al S i (k+1) M (E++[((i:Int),O6 al k,t)]):=by
 have Y:O6 al k∈al:=Ks H;refine⟨h.mb,h.mi,h.ml,h.mn,λe G=>?_,?_,λe G=>?_,by have:=h.en;simp;omega⟩
 ·rcases Lc.1 G with G|G
  ·exact h.eb e G
  simp only[oI]at G;subst G;exact⟨oh,oh,Y,T,V⟩
 ·refine MK.2 ⟨h.ei,oe,λx hx y J=>?_⟩;simp only[oI]at J;subst J;rcases h.el x hx with I|⟨I,h2⟩
  ·left;exact I
  right;refine⟨I,?_⟩;simp only[];have hp:YW (al.take k++al.drop k):=by rw[MM];exact O
  refine(MK.1 hp).2.2 _ h2 _ ?_;rw[LF H,ZE H];exact Lp
 rw[Lm H,ZE H];rcases Lc.1 G with G|G
 ·exact(h.el e G).imp id (λx=>⟨x.1,Md _ x.2⟩)
 simp only[oI]at G;subst G;exact .inr ⟨U,Nz _ oe⟩
theorem GrI.next {S k:Nat}{M:LI}{E:List Ed}(h:GrI al S i k M E)(I:k<=5):GrI al S (i+1) 0 M E :=
 ⟨h.mb,h.mi,λx hx=>ou (h.ml x hx),h.mn,h.eb,h.ei,λe G=>by rcases h.el e G with H|H <;> (left;omega),ou h.en⟩
theorem Qgo {v:O2}(h:QR L w.heap v al)(G:∀e∈al,0<=e/\e<32)(hi:YW al)(hn:ns.length=27)(hr:∀n∈ns,n<256):
  Q6 prog 73 [v,.agg (bys ns).toArray] w λr w'=>O5 [] w w'/\∃a:Q0,Jw w.heap.size w'.heap r a/\ZA a/\a.st<=5/\a.al=al /\
   (ns.getD 0 0<250->∃a0:Q0,ZA a0/\0<a0.st/\a0.st<=((1+ns.getD 0 0 % 5:Nat):Int)/\a=Xj a0):=by
 have k0:al.length<=32:=xH 32 al (hi.imp (λh=>oa)) (λx hx=>ou (G x hx));refine Zo func73 ?_;have g0:=qC (ns:=ns) (j:=0) oa;have g1:=qC (ns:=ns) (j:=1) oa;have l0:=Jr hr 0;have l1:=Jr hr 1;refine Zj (ns.getD 0 0) λs0 hY=>?_;refine Zj (ns.getD 1 0) λm1 hZ=>?_;rw[hY]at g0 l0;rw[hZ]at g1 l1;refine Qc<|Qe<|QV (us:=bys ns) U λb3 w1 ga k4 h5=>Qe<|Qo (us:=[nS,oF oG 0,nS,nS]) U λb4 w2 h6 k5 hs=>xe ?_;have hp:=ga.D h6;have hu:=h5.I h6;have k6:=h5.lt;have k7:=hs.lt;refine Qd<|Qc<|Qs U hu U g0<|x (Yw U U)<|xe<|QZ rfl (λgb=>?_) (λgb=>?_)
 ·refine Qm<|QN<|(qt (h.I hp) oa).mono ?_;rintro r3 w3 ⟨h7,vcl,rfl,T⟩;have hv:=Qu.ints (L:=[]) T oa oe;refine Qe<|Qj (us:=[vcl,oF oG 0,nS,nS]) (hs.I h7) U U U U ⟨hv.one,U,U,U,Z⟩ λw4 h8 gc=>xe ?_;have gg:=Qf T h8 (λb G=>by have:=(Qi T b G).1;simp;omega);refine Qk ⟨[.agg #[vcl,oF oG 0,nS,nS]],⟨⟨_,U,Qp U (gc.at (L:=[]) oe).cells⟩,Z⟩,(hp.D h7).O h8 oa,⟨al,0,[],[]⟩,?_,?_,(by decide:(0:Int)<=5),rfl,λh=>OW h oa⟩
  ·exact⟨vcl,_,_,U,λL' gh=>⟨Qu.ints gg (by show al.length<=_;omega) (λb G=>ou (gh b G)),Zp.nil _ _ _,Zp.nil _ _ _⟩⟩
  exact⟨G,hi,(by decide:(0:Int)<=0),(by decide:(0:Int)<=4096),oe,oe,oe,oe⟩
 refine Qh<|Qm<|QN<|(qt (h.I hp) oa).mono ?_;rintro r5 w5 ⟨h9,vcl,rfl,T⟩;have hv:=Qu.ints (L:=[]) T oa oe;refine Qe<|Qo (us:=[nS,oF oG 0,nS,nS]) U λI w6 gi gk gl =>
  Qe<|Qj (us:=[vcl,oF oG 0,nS,nS]) gl U U U U ⟨hv.one,U,U,U,Z⟩ λw7 gm hA=>xe ?_
 have hB:O5 [] w5 w7:=gi.O gm gk;have hh:=h9.D hB;have k8:=h9.size;have k9:=hA.lt;refine Zj (1+s0 % 5) λS hS=>?_;have gn:(1:Int)+(s0:Int) % 5=(S:Int):=oa
 refine Qc<|Qs U (hu.I hh) U g0<|x (VS (a:=(s0:Int)) (b:=5) U U oa oa)<|x (Yc (k':=.i64) U ⟨oa,oa⟩)<|QP U U<|x (Va U) <|
  Qe<|QB (u:=oF oG S) hA U (OV (Value.int .i64) gn) oe rfl λJ he go=>xe ?_
 have ma:=he.size;have mf:O5 [I] w2 J:=(hh.any (L:=[I])).Q he;have hC:O5 [] w J:=(hp.D hh).O he oa;have hD:QR [I] J.heap v al:=(h.up (L':=[I]) (λb G=>.inr (by simp at G;omega))).I hC;have gp:Qu 3 w2.heap.size J vcl al:=Qf (Qn T hB) he (λb G=>by have:=Zb T b G;simp;omega);have hE:=(hu.I hh).J he (by simp;omega);have gq:=(hs.I hh).J he (by simp;omega);have hj:I<J.heap.size:=oa
 have n3:b3∉[I]:=by simp;omega
 have n4:b4∉[I]:=by simp;omega
 refine Qd<|Qc<|Qb<|Qg<|QC (α:=Nat×O2×O2×LI×List Ed) [(6,8),(22,76)] (λz=>[(6,oF oG z.1)])
  (λz w'=>z.1<=S/\CrI J I vcl S z.2.1 z.2.2.1 z.2.2.2.1 z.2.2.2.2 w'/\GrI al S z.1 0 z.2.2.2.1 z.2.2.2.2/\∀x∈z.2.2.2.1,x<(z.1:Int)) (λz=>S - z.1) ol (0,nS,nS,[],[]) La
  ⟨Ln _,⟨O5.Z _ _,go,QI _ _ _ _,QI _ _ _ _,Dj.nil' _⟩,⟨oe,oe,oe,oe,oe,oe,oe,oe⟩,oe⟩ ?_
 rintro⟨i,v1,v2,M,E⟩ g9 w9 ⟨gr,H,O,hM⟩;simp only[]at gr H O hM;have mg:=O.mn;have mh:=O.en;refine Qd<|Qm<|Qs U H.B U U<|QY U U<|xe<|QH rfl (λgs=>?_) (λgs=>?_)
 ·have mj:i=S:=oa
  refine Qz ?_;have gt:=Qu.ints (L:=[]) H.m oa oe;have gu:=YJ.eds (L:=[]) H.e oa oe;have gv:Qu 3 w2.heap.size w9 vcl al:=Qf gp H.st (λb G=>by have:=Zb T b G;simp;omega);have gw:ZG [] w9.heap vcl v1 v2 ⟨al,(S:Int),M,E⟩:=⟨Qu.ints gv (by show al.length<=_;omega) oe,gt,gu⟩;have hw:ZA ⟨al,(S:Int),M,E⟩:=⟨G,hi,oh,oh,O.mb,O.mi,O.eb,O.ei⟩;have hz:=Qbg hw;have hH:O5 [] w w9:=hC.O H.st oa;have gx:=gq.J H.st n4;have mo:=H.st.size;refine Qc<|Q9 H.B U U<|QN<|(jp (a:=⟨al,(S:Int),M,E⟩) gw hw).mono ?_;rintro vr mq ⟨hJ,hF⟩;obtain⟨us,hK,hL,gy⟩:=JS hF;refine Qe<|Qj (us:=us) (gx.I hJ) U hK hL U gy λms hN gz=>xe ?_;have g2:=hH.size;refine Qk ⟨[.agg us.toArray],⟨⟨_,U,Qp hL (gz.at (L:=[]) oe).cells⟩,Z⟩,(hH.D hJ).O hN oa,Xj ⟨al,(S:Int),M,E⟩,?_,hz.1,?_,hz.2.1,λ_=>⟨⟨al,(S:Int),M,E⟩,hw,oh,oh,U⟩⟩
  ·show Jw _ _ (.agg us.toArray) _;rw[<-hK];exact(Kx hF oa hN).mono g2
  have:=hz.2.2;simp only[]at this;omega
 have h0:i<S:=oa
 refine Qh<|Qd<|Qg<|Q3 (α:=O2×LI) [(28,39)] (λz=>[]) (λz w'=>CrI J I vcl S z.1 v2 z.2 E w'/\GrI al S i 0 z.2 E) ol ?_ ?_
 ·have g3:m1 / 2 ^ i<256:=Nat.lt_of_le_of_lt (Nat.div_le_self _ _) l1;refine Qc<|Qs U (hE.J H.st n3) U g1<|Qa<|x (jJ (n:=i) U U (by show i<=8;omega))<|x (ye (a:=m1 / 2 ^ i) (b:=1) (OV (Value.int .u8) (QaB m1 i)) U g3 og)<|x (Q2 U U)<|xe<|QH U (λg4=>?_) (λg4=>?_)
  ·refine Qh ?_;exact⟨(v1,M),Z,H,O⟩
  refine Qv<|Qs U H.B U U<|Qa<|Qe<|QA (us:=[[oF oG i]]) U U og oe ⟨rfl,rfl,Z⟩ λmt mu g5 mv g6=>?_;have hm:=H.I g5;refine Qe<|Q8 (news:=[oF oG i]) (L:=[]) hm.m U U U (g6.at oe) (by simp[Value.oneCell']) oa hm.st.size λhO g7 g8 hP ka=>?_;have hQ:Qu 3 J.heap.size g7 hO (M++[(i:Int)]):=Qu.snoc g8;refine Zc U<|Qe<|QB (hm.B.J hP (QS hm.m hj)) U U oe (Qu.ints (L:=[]) hQ (by simp;omega) oe).one λmw kb kc =>
   xe ?_
  exact⟨(hO,M++[(i:Int)]),Z,hm.setM hj hP hQ ka kb kc,O.mark hM h0⟩
 rintro⟨v3,M3⟩ my mz ⟨hR,hT⟩;simp only[]at hR hT;refine Qc<|Qb<|Qg<|QC (α:=Nat×O2×List Ed) [(7,8),(40,76)] (λz=>[(7,oF oG z.1)])
  (λz w'=>z.1<=al.length/\z.1<=5/\CrI J I vcl S v3 z.2.1 M3 z.2.2 w'/\GrI al S i z.1 M3 z.2.2) (λz=>5 - z.1) ol (0,v2,E) La
  ⟨Ln _,Ln _,hR,hT⟩ ?_
 rintro⟨k,vd,F⟩ m2 ke ⟨hk,hU,hf,hg⟩;simp only[]at hk hU hf hg;have kf:=hD.st hf.st;have m3:=hg.en;refine Qd<|Q3 (α:=Unit) [(40,47)] (λz=>[(47,.bool (decide (k<al.length/\k<5)))]) (λz w'=>w'=ke) ol ?_ ?_
 ·refine Qv<|Qa<|Qa<|QL kf U<|xb (YR U U) (λhV=>?_) (λhV=>?_)
  ·refine Qa<|Qa<|QY U U<|QJ U<|xe<|⟨(),⟨OV Value.bool ?_,Z⟩,U⟩;exact decide_eq_decide.2 ⟨λe=>⟨oa,oa⟩,λe=>oa⟩
  refine Qa<|Qr<|Qr<|QJ U<|xe ?_;exact⟨(),⟨OV Value.bool (OZ (λe=>hV oa)).symm,Z⟩,U⟩
 rintro _ m4 V rfl;refine QH rfl (λh1=>?_) (λh1=>?_)
 ·refine Qz<|Qv<|Qa<|QP U U<|Qb<|⟨(i+1,v3,vd,M3,F),oh,La,h0,hf,hg.next hU,λx hx=>by have:=hg.ml x hx;simp only[];omega⟩
 have hk1:k<al.length:=h1.1;have h2:k<5:=h1.2;have gj:=qC (ns:=ns) (j:=0+2+i*5+k*1) oa;have lj:=Jr hr (0+2+i*5+k*1);refine Zj (ns.getD (0+2+i*5+k*1) 0) λq hq=>?_;rw[hq]at gj lj;have kg:=hE.J hf.st n3;have kh:0<=(q:Int) % ((S:Int)+2):=Int.emod_nonneg _ oa;refine Qh<|Qd<|Qg<|Qd<|ZF [] (Xi 0 12 [])<|p QF<|p QF<|p (QQ U)<|p (λ_=>Ye (i:=i) U U oa)<|p (λ_=>Ye (i:=k) U U h2)<|pq (λ_ Y=>Qq (kg.I Y) U gj) <|
  p (λ_=>Yc (k':=.i64) U ⟨oa,oa⟩)<|p (QQ U)<|pq (λ_ Y=>Qq (hf.B.I Y) U U)<|p (λ_=>XH U U ⟨oa,oa⟩) <|
  p (λ_=>VS (a:=(q:Int)) (b:=(S:Int)+2) U U oa oa)<|p ZI<|pe ?_
 have ha:=hf.I (O5.C [] V);refine Zj ((q:Int) % ((S:Int)+2)) λt ht=>?_;refine Qm<|Qs U ha.B U U<|QY U U<|xe<|QH rfl (λki=>?_) (λki=>?_)
 ·refine Qh<|Qv<|Qa<|QP U U<|Qb<|⟨(k+1,vd,F),oh,La,hk1,h2,ha,hg.skip hk1⟩
 have kj:=Qi ha.e;have kk:QR (I::ob vd) { V with drawn:=V.drawn+1 }.heap v al:=((hD.up (L':=I::ob vd) (λb G=>by
  rcases Li.1 G with rfl|G
  ·exact .inl oe
  exact .inr (kj b G).1)).J ha.st oe)
 have kn:=QS ha.e hj;refine qH (O5 (ob vd) { V with drawn:=V.drawn+1 }) [oD 0,oD 1,oD 2,oD 3,oD 4,oD 5,oD 6,oD 7,oD 8,oE 9,oE 10,oD 11,oE 12] mixed ol od (O5.C _ _) ?_
 refine p (QQ U)<|pq (λ_ Y=>Qq (ha.B.J Y kn) U U)<|p QF<|p QF<|p QF <|
  pic (i:=k) U kk U U hk1 λm5 ko=>pq (λ_ Y=>QD (ko.J Y (λb G=>Lj _ G)) U)<|p QF<|p (λ_=>Qx ⟨U,U,U,Z⟩) <|
  pk<|QA (us:=[QE ((i:Int),O6 al k,(q:Int) % ((S:Int)+2))]) U U og (by exact(by decide:1*3<=1000000)) oA λm6 m7 kq m8 kr=>?_
 have h3:=(O5.C [] { V with drawn:=V.drawn+1 }).D kq
 have ho:=ha.I h3;refine⟨h3.any,?_⟩;refine pk<|Q8 (news:=QE ((i:Int),O6 al k,(q:Int) % ((S:Int)+2))) (L:=[]) ho.e U U U (kr.at oe) (λy hy=>by simp only[QE,oL,oJ,or_false]at hy;rcases hy with rfl|rfl|rfl <;> rfl) oa ho.st.size λhW kt ku h4 kv=>⟨(h3.any (L:=ob vd)).Q h4,?_⟩
 have hX:YJ 167 J.heap.size kt hW (F++[((i:Int),O6 al k,(q:Int) % ((S:Int)+2))]):=YJ.snoc ku;refine p (QQ U)<|pkl (hl:=by kernel_rfl)<|QB (ho.B.J h4 (QS ho.e hj)) U U oe (YJ.eds (L:=[]) hX (by simp;omega) oe).one λm9 kw kx=>pe ?_;have kz:=ho.setE hj h4 hX kv kw kx;refine Qv<|Qa<|QP U U<|Qb<|⟨(k+1,hW,F++[((i:Int),O6 al k,(q:Int) % ((S:Int)+2))]),oh,La,hk1,h2,kz,hg.edge hk1 hi h0 kh oa⟩
section
variable {pS:String}
theorem qb [Ag P t sz]{x:O3}(h:Q7 w.heap b T cs)(hx:ev f x=.pointer (some ⟨b,o,none⟩))(hl:us.length=sz)(G:∀j u,us[j]?=some u->cs[o+j]?=some u):
  (execOp (ev f) ⟨d,.load t x,ty,pS,af,gd⟩).run P w=.ok (.value (.agg us.toArray)) w:=by
 refine zq hx hl λj u H=>?_;rw[Kt,Kp,h.cell];exact G j u H
end
theorem Qm7 :∀j u,(bys ((ns.drop o).take n))[j]?=some u->(bys ns)[o+j]?=some u:=by
 intro j u h;simp only[bys,List.getElem?_map,List.getElem?_take,List.getElem?_drop]at h ⊢;split at h
 ·exact h
 cases h
theorem Qm8 (h:∀n∈ns,n<256)(o n:Nat):∀m∈(ns.drop o).take n,m<256:=λm G=>h m (Ma (LY G))
theorem Qew (m k:Nat):∀e∈setK m k,0<=e/\e<k:=by
 intro e G;simp only[setK,Oz,OF,OA]at G;obtain⟨i,⟨hi,_⟩,rfl⟩:=G;omega
theorem QeP (keep:Bool->Bool->Bool):∀(n:Nat) (a b:LI),a.length+b.length<=n->YW a->YW b->YW (mrg keep a b):=by
 intro n;induction n with
 | zero =>
  intro a b h _ _;have O:a=[]:=Lq oa;have S:b=[]:=Lq oa;subst O S;rw[KG];exact List.Pairwise.nil
 | succ n ih =>
  intro a b T ia ib;by_cases h:a=[]/\b=[]
  ·obtain⟨rfl,rfl⟩:=h;rw[KG];exact List.Pairwise.nil
  have V:=yB h;have itl:∀(c:Bool) (l:LI),YW l->YW (tl c l):=λc l hl=>by
   cases c
   ·exact hl
   cases l with
   | nil=>exact hl
   | cons y l=>exact hl.tail
  have I:=ih (tl (Jq a b) a) (tl (Jq b a) b) oa (itl _ _ ia) (itl _ _ ib);rw[Ko keep h];cases keep (Jq a b) (Jq b a)with
  | false=>simpa using I
  | true =>
   simp only[cond_true,Ov];refine L4.2 ⟨λx hx=>?_,I⟩;have H:=(zy (itl _ _ ia) (itl _ _ ib) x).1 hx;cases a with
   | nil =>
    cases b with
    | nil=>exact OW ⟨U,U⟩ h
    | cons y b =>
     simp only[Jq,tl,cond_true,cond_false,Oo,oJ,false_or,Lg.hx,Ol]at H ⊢;exact ib.lt_of H.1
   | cons u a =>
    cases b with
    | nil =>
     simp only[Jq,tl,cond_true,cond_false,Oo,oJ,or_false,Lg.hx,Ol]at H ⊢;exact ia.lt_of H.1
    | cons y b =>
     rcases Int.lt_trichotomy u y with J|J|J
     ·have e1:decide (u<=y)=true:=OX oa;have e2:decide (y<=u)=false:=OZ oa;simp only[Jq,tl,e1,e2,cond_true,cond_false,Oo,Lg.hx,Ol]at H ⊢;rcases H.1 with G|G
      ·exact ia.lt_of G
      rcases Li.1 G with G|G
      ·omega
      have:=ib.lt_of G;omega
     ·have e1:decide (u<=y)=true:=OX oa;have e2:decide (y<=u)=true:=OX oa;simp only[Jq,tl,e1,e2,cond_true,Oo,Lg.hx,Ol]at H ⊢;rcases H.1 with G|G
      ·have:=ia.lt_of G;omega
      have:=ib.lt_of G;omega
     have e1:decide (u<=y)=false:=OZ oa;have e2:decide (y<=u)=true:=OX oa;simp only[Jq,tl,e1,e2,cond_true,cond_false,Oo,Lg.hx,Ol]at H ⊢;rcases H.1 with G|G
     ·rcases Li.1 G with G|G
      ·omega
      have:=ia.lt_of G;omega
     exact ib.lt_of G
section
variable {pS:String}{all:xE}{C:xA}
theorem tp {l:xu}(h:XP P all C K l f w):XT P all C K (.pl l) f w:=h
end
section
variable {pS:String}
end
section
variable {w4 w'':O1}{m q:Bool}{vd:O2}{E D:LI}
end
section
variable {pS:String}
end
def grid (g:Nat->Int->Option Ed)(vs:LI)(n:Nat):List Ed:=(oR 0 n).flatMap λj=>vs.filterMap (g j)
theorem qp (g:Nat->Int->Option Ed)(vs:LI)(n:Nat):grid g vs (n+1)=grid g vs n++vs.filterMap (g n):=by
 unfold grid;rw[MA,LA];simp
theorem Qcr (l m:List Ed)(s v:Int):xo (l++m) s v=match xo l s v with|some u=>some u|none=>xo m s v:=by
 induction l with
 | nil=>rfl
 | cons e l ih =>
  rw[L9,xo,xo];split
  ·rfl
  exact ih
def jc (g:Nat->Int->Option Ed):Prop:=∀j v e,g j v=some e->e.1=(j:Int)/\e.2.1=v
theorem Qcp {g:Nat->Int->Option Ed}(G:jc g)(j:Nat)(v:Int):∀(vs:LI),xo (vs.filterMap (g j)) j v=if v∈vs then(g j v).map (·.2.2)else none
 | []=>by simp[xo]
 | u::vs=>by
  have ih:=Qcp G j v vs;rw[Mz];cases E:g j u with
  | none =>
   simp only[];rw[ih];by_cases e:v=u
   ·subst e;simp[E]
   simp[e]
  | some e =>
   have H:=G j u e E;simp only[];rw[xo];by_cases e2:u=v
   ·subst e2;rw[OU H,OU Lp,E];rfl
   rw[OT (λh=>e2 (H.2.symm.D h.2)),ih];simp[Ne.symm e2]
theorem Qco {g:Nat->Int->Option Ed}(E:jc g)(h:j≠i)(v:Int)(vs:LI):xo (vs.filterMap (g j)) i v=none:=by
 refine j4 λe G I=>?_;obtain⟨u,_,H⟩:=MZ.1 G;have:=E j u e H;omega
theorem QgM {g:Nat->Int->Option Ed}(E:jc g)(vs:LI)(j:Nat)(v:Int):∀n,xo (grid g vs n) j v=if j<n/\v∈vs then(g j v).map (·.2.2)else none
 | 0=>by simp[grid,xo]
 | n+1=>by
  rw[qp,Qcr,QgM E vs j v n];by_cases e:j=n
  ·subst e;rw[OT oa,Qcp E];simp
  rw[Qco E (Ne.symm e)];by_cases h:j<n/\v∈vs
  ·rw[OU h,OU ⟨oa,h.2⟩];cases(g j v).map (·.2.2) <;> rfl
  rw[OT h,OT (λG=>h ⟨oa,G.2⟩)]
theorem Qcf {g:Nat->Int->Option Ed}{vs:LI}{e:Ed}(h:e∈grid g vs n):∃j v,j<n/\v∈vs/\g j v=some e:=by
 unfold grid at h;obtain⟨j,E,G⟩:=Mf.1 h;obtain⟨v,H,I⟩:=MZ.1 G;rw[Mw]at E;exact⟨j,v,oa,H,I⟩
theorem Qe7 {g:Nat->Int->Option Ed}(E:jc g){vs:LI}(hi:YW vs):∀n,(grid g vs n).Pairwise λx y:Ed=>x.1<y.1\/(x.1=y.1/\x.2.1<y.2.1)
 | 0=>by simp[grid]
 | n+1=>by
  rw[qp,MK];refine⟨Qe7 E hi n,Jo (r:=(·<·)) (λx y u v V I J=>?_) hi,λe O S T=>?_⟩
  ·have G:=E n x u I;have H:=E n y v J;right;omega
  obtain⟨j,v,Y,_,G⟩:=Qcf O;obtain⟨v',_,H⟩:=MZ.1 T;have h3:=E j v e G;have h4:=E n v' S H;left;omega
theorem QqC (l:List Q0):∀(acc:LI),(∀a∈l,YW a.al)->YW acc->YW (l.foldl (λacc a=>mrg (· || ·) acc a.al) acc)/\∀x,x∈l.foldl (λacc a=>mrg (· || ·) acc a.al) acc↔x∈acc\/∃a∈l,x∈a.al:=by
 induction l with
 | nil=>intro acc _ h;exact⟨h,λx=>oe⟩
 | cons a l ih =>
  intro acc hl h;have G:=hl a Lp;obtain⟨H,I⟩:=ih (mrg (· || ·) acc a.al) (λb J=>hl b (Lj _ J)) (QeP _ _ _ _ (Lx _) h G);rw[LZ];refine⟨H,λx=>?_⟩;rw[I x,zy h G];simp only[oL,exists_eq_or_imp];constructor
  ·rintro(⟨E|E,_⟩|E)
   ·exact .inl E
   ·exact .inr (.inl E)
   exact .inr (.inr E)
  rintro(E|E|E)
  ·exact .inl ⟨.inl E,by simp[E]⟩
  ·exact .inl ⟨.inr E,by simp[E]⟩
  exact .inr E
theorem Qfe {l:List Q0}(h:∀a∈l,ZA a):YW (evs l):=(QqC l [] (λa E=>(h a E).ali) oe).1
theorem Qfd {l:List Q0}(h:∀a∈l,ZA a)(x:Int):x∈evs l↔∃a∈l,x∈a.al:=by
 have:=(QqC l [] (λa E=>(h a E).ali) oe).2 x;unfold evs;rw[this];simp
def syF (aa:List Q0)(tup:List (LI))(j:Nat)(v:Int):Option Ed:=(Yv v aa (tup.getD j [])).map λu=>((j:Int),v,(tup.idxOf u:Int))
theorem QnZ (aa:List Q0)(tup:List (LI)):jc (syF aa tup):=by
 intro j v e h;unfold syF at h;obtain⟨u,_,rfl⟩:=L7.1 h;exact⟨U,U⟩
theorem Qcj {α β:Type}{f g:α->Option β}:∀{l:List α},(∀x∈l,f x=g x)->l.filterMap f=l.filterMap g
 | [],_=>rfl
 | x::l,h=>by rw[Mz,Mz,h x Lp,Qcj (λy E=>h y (Lj _ E))]
theorem Qjn {f:α->Option β}{v:α}{e:β}(h:f v=some e):[v].filterMap f=[e]:=by rw[Mz,h];rfl
theorem Qmm {f:α->Option β}{v:α}(h:f v=none):[v].filterMap f=[]:=by rw[Mz,h];rfl
theorem QhJ {tup:List (LI)}{v:Int}(h:Yv v aa (tup.getD j [])=none):syF aa tup j v=none:=by unfold syF;rw[h];rfl
theorem QbE {tup:List (LI)}{v:Int}(h:Yv v aa (tup.getD j [])=some u):syF aa tup j v=some ((j:Int),v,(tup.idxOf u:Int)):=by unfold syF;rw[h];rfl
def Clo (aa:List Q0)(tup:List (LI))(j:Nat)(vs:LI):Prop:=∀v∈vs,∀u,Yv v aa (tup.getD j [])=some u->u∈tup
theorem Vf {tup r:List (LI)}(h:j<tup.length):(tup++r).getD j []=tup.getD j []:=by simp[oQ,List.getElem?_append_left h]
theorem Qem {tup r:List (LI)}{vs:LI}(E:j<tup.length)(G:Clo aa tup j vs):vs.filterMap (syF aa (tup++r) j)=vs.filterMap (syF aa tup j):=by
 refine Qcj λv H=>?_;unfold syF;rw[Vf E];cases I:Yv v aa (tup.getD j [])with
 | none=>rfl
 | some u =>
  have J:=G v H u I;simp only[Oy,Option.some.injEq,Prod.mk.injEq,true_and];rw[MC,OU J]
theorem Clo.pre {tup r:List (LI)}{vs:LI}(G:j<tup.length)(H:Clo aa tup j vs):Clo aa (tup++r) j vs:=by
 intro v I u E;rw[Vf G]at E;exact Md _ (H v I u E)
theorem yl {l:List α}{u:α}(h:l.Nodup)(G:u∉l):(l++[u]).Nodup:=by
 rw[ME];exact⟨h,oe,λa H b E=>by simp only[oI]at E;subst E;exact λe=>G (by rw[<-e];exact H)⟩
theorem jA {aa:List Q0}{i:Nat}:∀(vs:LI) (s s':Sy),i<s.tup.length->s.tup.Nodup->K6 aa i (Uj s i) vs s=some s' ->
  ∃r,s'.tup=s.tup++r/\s'.mk'=s.mk'/\s'.ed=s.ed++vs.filterMap (syF aa s'.tup i)/\Clo aa s'.tup i vs/\s'.tup.Nodup
 | [],s,s',_,hd,e=>by cases e;exact⟨[],oe,rfl,oe,λv hv=>(by cases hv),hd⟩
 | v::vs,s,s',hi,hd,e=>by
  rw[K6]at e;obtain⟨I,E,V⟩:=MY.1 e;have key:∃S,I.tup=s.tup++S/\I.mk'=s.mk'/\I.ed=s.ed++[v].filterMap (syF aa I.tup i)/\Clo aa I.tup i [v]/\I.tup.Nodup:=by
   unfold syE at E;have eT:Uj s i=s.tup.getD i []:=rfl;rw[eT]at E;cases J:Yv v aa (s.tup.getD i [])with
   | none =>
    rw[J]at E;cases E
    refine⟨[],oe,rfl,by rw[Qmm (QhJ J),Ox],λv' G u H=>?_,hd⟩;simp only[oI]at G;subst G;rw[J]at H;cases H
   | some u =>
    rw[J]at E;simp only[]at E;by_cases H:u∈s.tup
    ·rw[OU H]at E;cases E
     refine⟨[],oe,rfl,by rw[Qjn (QbE J)],λv' G u' O=>?_,hd⟩;simp only[oI]at G;subst G;simp only[]at O ⊢;rw[J]at O;cases O;exact H
    rw[OT H]at E;split at E
    ·cases E
    cases E
    have e2:(s.tup++[u]).getD i []=s.tup.getD i []:=Vf hi;have e3:(s.tup++[u]).idxOf u=s.tup.length:=by rw[MC,OT H];simp
    refine⟨[u],U,U,?_,λv' G u' O=>?_,yl hd H⟩
    ·rw[Qjn (QbE (tup:=s.tup++[u]) (u:=u) (by rw[e2];exact J)),e3]
    simp only[oI]at G;subst G;simp only[]at O ⊢;rw[e2,J]at O;cases O;simp
  obtain⟨S,k1,k2,k3,Y,k5⟩:=key;have T:i<I.tup.length:=by rw[k1];simp;omega
  have eT:Uj I i=Uj s i:=by unfold Uj;rw[k1];exact Vf hi
  rw[<-eT]at V;obtain⟨r2,g1,g2,g3,g4,g5⟩:=jA vs I s' T k5 V;refine⟨S++r2,by rw[g1,k1,LB],g2.D k2,?_,?_,g5⟩
  ·rw[g3,k3,LB];congr 1;rw[show v::vs=[v]++vs from rfl,List.filterMap_append];congr 1;rw[g1];exact(Qem T Y).symm
  intro v' G u H;rcases Li.1 G with rfl|G
  ·have:=Y.pre (r:=r2) T;rw[<-g1]at this;exact this v' Lp u H
  exact g4 v' G u H
structure SyG (aa:List Q0)(i:Nat)(s:Sy):Prop where
 nd:s.tup.Nodup
 le:i<=s.tup.length
 hd:s.tup.getD 0 []=oN aa.length 0/\0<s.tup.length
 mk2:s.mk'=((oR 0 i).filter λj=>JJ aa (s.tup.getD j [])).map λj:Nat=>(j:Int)
 ed:s.ed=grid (syF aa s.tup) (evs aa) i
 cl:∀j,j<i->Clo aa s.tup j (evs aa)
theorem JN {α β:Type}{f g:α->List β}:∀{l:List α},(∀x∈l,f x=g x)->l.flatMap f=l.flatMap g
 | [],_=>rfl
 | x::l,h=>by rw[LM,LM,h x Lp,JN (λy E=>h y (Lj _ E))]
theorem SyG.next {s s':Sy}(h:SyG aa i s)(hi:i<s.tup.length)(e:K6 aa i (Uj s i) (evs aa) (ZS aa i (Uj s i) s)=some s'):SyG aa (i+1) s':=by
 have G:(ZS aa i (Uj s i) s).tup=s.tup:=by unfold ZS;split <;> rfl
 have S:(ZS aa i (Uj s i) s).ed=s.ed:=by unfold ZS;split <;> rfl
 have J:Uj (ZS aa i (Uj s i) s) i=Uj s i:=by show(ZS aa i (Uj s i) s).tup.getD i []=s.tup.getD i [];rw[G]
 rw[<-J]at e;obtain⟨r,g1,T,O,V,Y⟩:=jA (evs aa) _ s' (by rw[G];exact hi) (by rw[G];exact h.nd) (by rw[J]at e ⊢;exact e);rw[G]at g1;rw[S]at O;have pre:∀j,j<=i->s'.tup.getD j []=s.tup.getD j []:=λj E=>by rw[g1];exact Vf oa
 refine⟨Y,by rw[g1];simp;omega,⟨by rw[pre 0 oa];exact h.hd.1,by rw[g1];simp;omega⟩,?_,?_,λj E=>?_⟩
 ·rw[T,MA,L6,Ls,LS];have e1:((oR 0 i).filter λj=>JJ aa (s'.tup.getD j []))=(oR 0 i).filter λj=>JJ aa (s.tup.getD j []):=by
   refine List.filter_congr λj E=>?_;rw[Mw]at E;rw[pre j oa]
  rw[e1];unfold ZS;by_cases H:JJ aa (Uj s i)=true
  ·rw[OU H];have I:JJ aa (s'.tup.getD i [])=true:=by rw[pre i (Lx _)];exact H
   simp only[List.filter_cons,I,if_true,List.filter_nil,oY,OL];rw[h.mk2]
  rw[OT H];have I:JJ aa (s'.tup.getD i [])=false:=by rw[pre i (Lx _)];exact eq_false_of_ne_true H
  rw[Me,OT (by rw[I];simp),Nq,h.mk2];simp
 ·rw[O,qp,h.ed];congr 1;unfold grid;refine JN λj E=>?_;rw[Mw]at E;rw[g1];exact(Qem oa (h.cl j oa)).symm
 by_cases e2:j=i
 ·subst e2;exact V
 have:=(h.cl j oa).pre (r:=r) oa;rw[<-g1]at this;exact this
theorem QbC {aa:List Q0}:∀(f i:Nat) (s s':Sy),SyG aa i s->syL aa f i s=some s'->∃E,SyG aa E s'/\(s'.tup.length=E\/E=i+f)
 | 0,i,s,s',h,e=>by cases e;exact⟨i,h,.inr U⟩
 | f+1,i,s,s',h,e=>by
  rw[syL]at e;split at e
  ·rename_i hi;obtain⟨G,H,I⟩:=MY.1 e;obtain⟨E,J,O⟩:=QbC f (i+1) G s' (h.next hi H) I;exact⟨E,J,oa⟩
  cases e;exact⟨i,h,.inl (ou h.le)⟩
structure SyP (aa:List Q0)(A:Q0)(Q:List (LI)):Prop where
 al:A.al=evs aa
 st:A.st=(Q.length:Int)
 nd:Q.Nodup
 v:∀t∈Q,Vt aa t
 le:Q.length<=4096
 hd:0<Q.length->Q.getD 0 []=oN aa.length 0
 mk2:A.mr=((oR 0 Q.length).filter λj=>JJ aa (Q.getD j [])).map λj:Nat=>(j:Int)
 ed:A.ed=grid (syF aa Q) (evs aa) Q.length
 cl:∀j,j<Q.length->Clo aa Q j (evs aa)
theorem Jy (J:∀a∈aa,ZA a){A:Q0}{Q:List (LI)}(h:xp aa=some (A,Q)):SyP aa A Q/\(Q.length=0↔∃a∈aa,a.st=0):=by
 have G:=zo J h;unfold xp at h;split at h
 ·rename_i H;cases h
  exact⟨⟨U,U,oe,oe,oe,λh=>by simp at h,oe,by simp[grid],λj I=>by simp at I⟩,oz H⟩
 rename_i H;obtain⟨s,O,S⟩:=L7.1 h;have T:SyG aa 0 (zR aa):=⟨by simp[zR],oe,⟨by simp[zR],by simp[zR]⟩,by simp[zR],by simp[zR,grid],λj I=>oa⟩;obtain⟨V,E,h4⟩:=QbC 4096 0 (zR aa) s T O;cases S
 have hl:V=s.tup.length:=by
  have h5:=E.le;have Y:=G.2;simp only[]at Y;omega
 subst hl;refine⟨⟨rfl,U,E.nd,G.1,G.2,λ_=>E.hd.1,E.mk2,E.ed,E.cl⟩,?_⟩;have:=E.hd.2;constructor
 ·intro h;have h7:s.tup.length=0:=h;omega
 intro h;exact OW h H
theorem SyP.to {A:Q0}{Q:List (LI)}(h:SyP aa A Q)(E:j<Q.length){v:Int}(G:v∈evs aa)(H:Yv v aa (Q.getD j [])=some u):Q.idxOf u<Q.length/\Q.getD (Q.idxOf u) []=u:=by
 have I:=h.cl j E v G u H;have hl:=ML I;refine⟨hl,?_⟩;simp[oQ,hl]
theorem SyP.okay (G:∀a∈aa,ZA a){A:Q0}{Q:List (LI)}(h:SyP aa A Q):ZA A:=by
 have V:=h.le;refine⟨λe E=>?_,by rw[h.al];exact Qfe G,by rw[h.st];omega,by rw[h.st];omega,λs H=>?_,?_,λe E=>?_,by rw[h.ed];exact Qe7 (QnZ aa Q) (Qfe G) _⟩
 ·rw[h.al]at E;obtain⟨a,O,hx⟩:=(Qfd G e).1 E;exact(G a O).al e hx
 ·rw[h.mk2]at H;simp only[Oz,OF,OA]at H;obtain⟨i,⟨hi,_⟩,rfl⟩:=H;rw[h.st];omega
 ·rw[h.mk2];unfold YW;rw[MF];refine List.Pairwise.sublist M1 ?_;exact(Nm (s:=0) (n:=Q.length)).imp (λh=>oa)
 rw[h.ed]at E;obtain⟨j,v,S,I,J⟩:=Qcf E;unfold syF at J;obtain⟨u,T,rfl⟩:=L7.1 J;have:=(h.to S I T).1;rw[h.st,h.al];exact⟨oh,oh,I,oh,oh⟩
open Go.RowKit
instance:LawfulBEq ByteArray where
 eq_of_beq h:=(MapKept.bytes_beq _ _).1 h;rfl:=(MapKept.bytes_beq _ _).2 U
def chr (s:ByteArray)(i:Nat):Nat:=(s.get! i).toNat
theorem Qpp {s:ByteArray}(h:i<s.size):(s[i]'h).toNat=chr s i:=by
 unfold chr;obtain⟨d⟩:=s;have hd:i<d.size:=h;simp[ByteArray.get!,hd,ByteArray.getElem_eq_getElem_data]
theorem Qg2 {a b:ByteArray}(h:a.data.toList=b.data.toList):a=b:=by
 obtain⟨⟨x⟩⟩:=a;obtain⟨⟨y⟩⟩:=b;have E:x=y:=h;rw[E]
theorem bytes_beq (a b:ByteArray):(a.toList == b.toList)=decide (a=b):=by
 rw[ByteArray.toList_eq,ByteArray.toList_eq];by_cases h:a=b
 ·subst h;simp
 rw[OZ h];have:a.data.toList≠b.data.toList:=λe=>h (Qg2 e);simpa using this
section
variable {pS:String}{t':Nat}{x:O3}
theorem Qih [h:St P t]{s:ByteArray}{k:IntKind}(hx:ev f x=.string s)(G:ev f y=.int k i)(hi:i<s.size):
  (execOp (ev f) ⟨d,.index t x y,ty,pS,af,gd⟩).run P w=.ok (.value (.int .u8 (chr s i))) w:=by
 have E:=run_index_string (P:=P) w t s k i h.u;rw[dif_pos ⟨oa,oa⟩]at E;have e:(s[(i:Int).toNat]'(oz hi)).toNat=chr s i:=Qpp hi;simp only[execOp,hx,G,Sem.run_bind,E,Result.andThen_ok,Sem.run_pure,e]
theorem Qds [h:St P t]{s:ByteArray}(hx:ev f x=.string s):
  (execOp (ev f) ⟨d,.call ⟨.builtin .len,#[x],#[t]⟩,ty,pS,af,gd⟩).run P w=.ok (.value (oF oG s.size)) w:=Qig h.u hx
theorem XG {a b:ByteArray}(hx:ev f x=.string a)(E:ev f y=.string b):
  (execOp (ev f) ⟨d,.binOp .eql t x y t',ty,pS,af,gd⟩).run P w=.ok (.value (.bool (decide (a=b)))) w:=by
 have G:(eqGuard .eql t x y (.string a) (.string b)).run P w=.ok () w:=by simp[eqGuard]
 simp only[execOp,hx,E,Sem.run_bind,G,Result.andThen_ok,binOp_string_eql,Sem.run_pure,bytes_beq]
theorem YN {a b:ByteArray}(hx:ev f x=.string a)(E:ev f y=.string b)(hl:a.size+b.size<=1000000000):
  (execOp (ev f) ⟨d,.binOp .add t x y t',ty,pS,af,gd⟩).run P w=.ok (.value (.string (a++b))) w:=by
 have G:(eqGuard .add t x y (.string a) (.string b)).run P w=.ok () w:=by simp[eqGuard]
 have I:¬(((a.size+b.size:Nat):Int) > IntKind.i64.max):=by
  rw[show IntKind.i64.max=9223372036854775807 from rfl];omega
 simp only[execOp,hx,E,Sem.run_bind,G,Result.andThen_ok,binOp_string_add,Op.stringOp,OT I,Sem.run_pure]
theorem QlI {a:Nat}(hx:ev f x=.int .u16 a)(E:ev f y=.int .u16 b)(G:a<65536)(I:b<65536):
  (execOp (ev f) ⟨d,.binOp .and t x y t',ty,pS,af,gd⟩).run P w=.ok (.value (.int .u16 ((a &&& b:Nat):Int))) w:=by
 refine Jj hx E ?_;have hi:inK .u16 ((a &&& b:Nat):Int):=by
  have:a &&& b<=a:=Nat.and_le_left;exact⟨oa,oa⟩
 simp only[binOp,Op.intBits,BitVec.ofInt_natCast,ne_eq,not_true_eq_false,if_false,Sem.run_pure];rw[BitVec.toNat_and,BitVec.toNat_ofNat,BitVec.toNat_ofNat,Nh (show a<2 ^ IntKind.u16.bits from G),Nh (show b<2 ^ IntKind.u16.bits from I),YL hi]
theorem QeF {a:Nat}(E:a<65536)(G:b<65536):a ||| b<65536:=Nat.or_lt_two_pow (n:=16) E G
theorem Qdr {a:Nat}(hx:ev f x=.int .u16 a)(I:ev f y=.int .u16 b)(E:a<65536)(G:b<65536):
  (execOp (ev f) ⟨d,.binOp .or t x y t',ty,pS,af,gd⟩).run P w=.ok (.value (.int .u16 ((a ||| b:Nat):Int))) w:=by
 refine Jj hx I ?_;have hi:inK .u16 ((a ||| b:Nat):Int):=by
  have:=QeF E G;exact⟨oa,oa⟩
 simp only[binOp,Op.intBits,BitVec.ofInt_natCast,ne_eq,not_true_eq_false,if_false,Sem.run_pure];rw[BitVec.toNat_or,BitVec.toNat_ofNat,BitVec.toNat_ofNat,Nh (show a<2 ^ IntKind.u16.bits from E),Nh (show b<2 ^ IntKind.u16.bits from G),YL hi]
theorem Qib {k:IntKind}{a:Int}(hx:ev f x=.int k a)(E:ev f y=.int k' n)(G:n<=k.bits)(hi:inK k (a*2 ^ n)):
  (execOp (ev f) ⟨d,.binOp .shl t x y t',ty,pS,af,gd⟩).run P w=.ok (.value (.int k (a*2 ^ n))) w:=by
 refine Jj hx E ?_;have I:¬((n:Int)<0):=oa
 simp only[binOp,Op.shift,I,if_false,On,Nat.min_eq_left G,Sem.run_pure];rw[YL hi]
end
section
variable {P:O4}{ops:xE}{K:xz}{f:Fr}{w:O1}{d:xF}{ty:Nat}{pS:String}{af:xD}{gd:xt}{l:xE}
 {t e sz bys:Nat} {z:O2} {x y1 y2:O3} {L:LN} {v:O2} {n:Nat} {cs:LV} {H:xC} {k k':IntKind} {hi:Nat}
theorem Qia [h:Sl P t e sz bys z](G:Zp L H v n sz cs)(hx:ev f x=v)(I:ev f y1=.int k hi)(J:ev f y2=.int k' hi)(V:hi<=n):
  ∃v',Zp L H v' hi sz (cs.take (hi*sz))/\∀w,(execOp (ev f) ⟨d,.slice t x none (some y1) (some y2),ty,pS,af,gd⟩).run P w=.ok (.value v') w:=by
 obtain⟨ii,O,_,Y,_⟩:=Sl.info h;rcases G.2.2 with⟨rfl,rfl⟩|⟨a,cap,rfl,hc,S⟩
 ·have T:hi=0:=oa
  subst T;refine⟨nS,?_,λw=>?_⟩
  ·rw[OQ,List.take_zero];exact Zp.nil _ _ _
  simp[execOp,hx,I,J,Instr.sliceAt,Instr.slice,Instr.sliceBounds,Instr.sliceBound,asIntOf,run_underlying h.u,sizeOf,typeInfo,O]
 refine⟨.slice (some a) hi hi,⟨?_,ou G.2.1,.inr ⟨a,hi,U,Lx _,λu E=>S.out u (LY E),λu E=>S.lt u (LY E),λj u E=>?_⟩⟩,λw=>?_⟩
 ·rw[Ly,G.1,Mn (L3 _ V)]
 ·rw[LW]at E;split at E
  ·exact S.cell j u E
  cases E
 by_cases T:hi=0
 ·subst T;simp[execOp,hx,I,J,Instr.sliceAt,Instr.slice,Instr.sliceBounds,Instr.sliceBound,asIntOf,run_underlying h.u,sizeOf,typeInfo,O]
 simp[execOp,hx,I,J,Instr.sliceAt,Instr.slice,Instr.sliceBounds,Instr.sliceBound,asIntOf,run_underlying h.u,sizeOf,typeInfo,O,Addr.add];intro h9;omega
end
section
variable {l:xE}{o:Oper}{C:xA}{pl:xu}
theorem xB {b:Bool}(E:(execOp (ev f) o).run P w=.ok (.value (.bool b)) w)(J:b=true->XL P ops K l (QW f o.dst (.bool true)) w)(O:b=false->XL P ops K l (QW f o.dst (.bool false)) w)
  (I:Yd ops f o=true:=by rfl):XL P ops K (o::l) f w:=by
 cases G:b with
 | true=>rw[G]at E;exact x E (J G) I
 | false=>rw[G]at E;exact x E (O G) I
theorem pB {b:Bool}(E:∀w',(execOp (ev f) (QU ops i)).run P w'=.ok (.value (.bool b)) w')(J:b=true->XP P ops C K pl (QW f (QU ops i).dst (.bool true)) w)(O:b=false->XP P ops C K pl (QW f (QU ops i).dst (.bool false)) w)
  (I:Yd ops f (QU ops i)=true:=by rfl):XP P ops C K ((i,true)::pl) f w:=by
 cases G:b with
 | true=>rw[G]at E;exact p E (J G) I
 | false=>rw[G]at E;exact p E (O G) I
theorem QjD {G:Prop}(b:Bool)(E:b=true->G)(I:b=false->G):G:=by cases h:b with|true=>exact E h|false=>exact I h
theorem bT {q:Prop}[Decidable q](h:q):true=decide q:=(OX h).symm
theorem bF {q:Prop}[Decidable q](h:¬q):false=decide q:=(OZ h).symm
theorem bD {q r:Prop}[Decidable q][Decidable r](h:q↔r):decide q=decide r:=decide_eq_decide.2 h
end
section
variable {pS:String}{x:O3}
theorem yd {q:Prop}[Decidable q](hx:ev f x=.bool (decide q)):(execOp (ev f) ⟨d,.unOp .not t x,ty,pS,af,gd⟩).run P w=.ok (.value (.bool (decide (¬q)))) w:=by
 rw[ZB hx];simp
end
structure Ka where
 nm:ByteArray
 co:Bool
 ob:Bool
 fo:Bool
 fl:Int
structure YV where
 nm:ByteArray
 a:Q0
structure U0 where
 nm:ByteArray
 ls:xx
structure xL where
 nm:ByteArray
 ts:xx
 bd:Int
structure Zt where
 ev:List Ka
 co:List YV
 rq:List YV
 ex:List U0
 cs:List xL
def Kk (n:Nat):LI:=(oT n).map λi:Nat=>(i:Int)
def nmP (i c:Nat):Prop:=((97<=c/\c<=122)\/(65<=c/\c<=90)\/c=95)\/(i≠0/\48<=c/\c<=57)
instance (i c:Nat):Decidable (nmP i c):=by unfold nmP;infer_instance
def nmQ (s:ByteArray)(i:Nat):Bool:=decide (nmP i (chr s i))
def Y1 (s:ByteArray):Bool:=(oR 0 s.size).all (nmQ s) && decide (0<s.size/\s.size<=32)
def Jn (seen:List ByteArray)(e:Ka):Int:=if Y1 e.nm=false then 7 else if e.nm∈seen then 8 else if e.fl<0\/4<e.fl then 2 else if e.fl≠0/\(e.co || e.ob)=true then 13 else 0
def qR:List ByteArray->List Ka->Int
 | _,[]=>0
 | seen,e::l=>if Jn seen e≠0 then Jn seen e else qR (seen++[e.nm]) l
def Kf (l:List Ka):Int:=if 32<l.length then 3 else qR [] l
def ixs {α:Type}(q:α->Bool):Nat->List α->LI
 | _,[]=>[]
 | i,e::l=>if q e=true then(i:Int)::ixs q (i+1) l else ixs q (i+1) l
def unc (l:List Ka):LI:=ixs (λe=>!e.co) 0 l
def X1 (sz:LI):Option Int->List (Int×Int)->Int
 | _,[]=>0
 | pr,l::ls=>if l.1<0\/(sz.length:Int)<=l.1 then 2 else if jm pr l.1=true then 5 else if l.2<0\/O6 sz l.1.toNat<=l.2 then 2 else X1 sz (some l.1) ls
def Jm (sz:LI)(ls:xx):Int:=if ls.length=0 then 12 else X1 sz none ls
def grt (n:Int):Bool:=decide (n < -65536) || decide (65536<n)
def J7 (sz:LI):Option Int->List (Int×Int)->Int
 | _,[]=>0
 | pr,l::ls=>if l.1<0\/(sz.length:Int)<=l.1 then 2 else if jm pr l.1=true then 5 else if l.2=0\/grt l.2=true then 2 else J7 sz (some l.1) ls
def Xz (sz:LI)(k:xL):Int:=if k.ts.length=0 then 12 else if J7 sz none k.ts≠0 then J7 sz none k.ts else if grt k.bd=true then 2 else 0
def Ke (seen:List ByteArray)(s:ByteArray):Int:=if Y1 s=false then 7 else if s∈seen then 8 else 0
def Yz (sz:LI):List ByteArray->List U0->Int
 | _,[]=>0
 | seen,x::l=>if Ke seen x.nm≠0 then Ke seen x.nm else if Jm sz x.ls≠0 then Jm sz x.ls else Yz sz (seen++[x.nm]) l
def Y9 (sz:LI):List ByteArray->List xL->Int
 | _,[]=>0
 | seen,x::l=>if Ke seen x.nm≠0 then Ke seen x.nm else if Xz sz x≠0 then Xz sz x else Y9 sz (seen++[x.nm]) l
def KU (n:Int):Bool:=decide (n<1) || decide (4096<n)
def YF (sz:LI)(ex:List U0)(cs:List xL):Int:=if 8<sz.length then 3 else if sz.any KU=true then 2 else if 32<ex.length\/32<cs.length then 3 else if Yz sz [] ex≠0 then Yz sz [] ex else Y9 sz [] cs
def mns (a b:LI):LI:=mrg (λp q=>p && !q) a b
def Jl (a:Q0):Bool:=decide (JD a=0) && decide ((Yr a).st=a.st/\(Yr a).al=a.al/\(Yr a).mr=a.mr/\(Yr a).ed=a.ed)
def ZW (nev:Nat)(amg:LI)(seen:List ByteArray)(x:YV):Int :=
 if Y1 x.nm=false then 7 else if x.nm∈seen then 8 else if JD x.a≠0 then JD x.a else if Jl x.a=false then 6 else if x.a.st=0 then 12 else
 if(x.a.al.any λe=>decide ((nev:Int)<=e))=true then 2 else if(mns x.a.al amg).length≠0 then 9 else 0
def Ys (nev:Nat)(al:LI):List ByteArray->LI->List YV->Int×List ByteArray×LI
 | s,u,[]=>(0,s,u)
 | s,u,x::l=>if ZW nev al s x≠0 then(ZW nev al s x,s,u)else Ys nev al (s++[x.nm]) (mrg (· || ·) u x.a.al) l
def XQ (nev:Nat)(u:LI):List ByteArray->List YV->Int
 | _,[]=>0
 | s,x::l=>if ZW nev u s x≠0 then ZW nev u s x else XQ nev u (s++[x.nm]) l
def szs (l:List YV):LI:=l.map (·.a.st)
def O7 (l:List YV):List Q0:=l.map (·.a)
def Zi (c:Zt):Int :=
 if Kf c.ev≠0 then Kf c.ev else if c.co.length=0 then 12 else if 8<c.co.length\/12<c.co.length+c.rq.length then 3 else
 if(Ys c.ev.length (Kk c.ev.length) [] [] c.co).1≠0 then(Ys c.ev.length (Kk c.ev.length) [] [] c.co).1 else
 if XQ c.ev.length (Ys c.ev.length (Kk c.ev.length) [] [] c.co).2.2 (Ys c.ev.length (Kk c.ev.length) [] [] c.co).2.1 c.rq≠0 then XQ c.ev.length (Ys c.ev.length (Kk c.ev.length) [] [] c.co).2.2 (Ys c.ev.length (Kk c.ev.length) [] [] c.co).2.1 c.rq else
 YF (szs c.co) c.ex c.cs
def VZ (t:LI)(x:U0):Bool:=x.ls.all λl=>decide (t.getD l.1.toNat 0=l.2)
def Qp4 (t:LI)(k:xL):Int:=k.ts.foldl (λs p=>s+p.2*t.getD p.1.toNat 0) 0
def U3 (t:LI)(k:xL):Bool:=decide (k.bd<Qp4 t k)
def fix {α:Type}(q:α->Bool):Nat->List α->Int
 | _,[]=>-1
 | i,e::l=>if q e=true then(i:Int)else fix q (i+1) l
def vio (c:Zt)(t:LI):Option (Int×Int):=
 if 0<=fix (VZ t) 0 c.ex then some (1,fix (VZ t) 0 c.ex)else if 0<=fix (U3 t) 0 c.cs then some (2,fix (U3 t) 0 c.cs)else none
def rfr (v:Int):Nat->List YV->LI->Int
 | i,x::l,s::ss=>if v∈x.a.al/\(xo x.a.ed s v).isSome=false then(i:Int)else rfr v (i+1) l ss
 | _,_,_=>-1
structure Rsn where
 st:Int
 kd:Int
 ix:Int
 ev:Int
def rfd (c:Zt)(rs:LI):LI->Option (Int×Int)
 | []=>none
 | v::l=>if 0<=rfr v 0 c.rq rs/\(c.ev.getD v.toNat ⟨.empty,false,false,false,0⟩).co=false then some (rfr v 0 c.rq rs,v)else rfd c rs l
def QgH (a:Q0)(s:Int):LI:=(Z5 a.ed s).map (·.2.1)
def rsn (c:Zt)(pl:Q0)(plc:Int)(i:Nat)(t:LI):Option Rsn :=
 match vio c (t.take c.co.length)with
 | some (k,j)=>some ⟨i,k,j,-1⟩
 | none=>match rfd c (t.drop c.co.length) (QgH pl plc)with
  | some (j,v)=>some ⟨i,3,j,v⟩
  | none=>none
structure Spc where
 a:Q0
 co:List (LI)
 rq:List (LI)
 pl:LI
 fb:List Rsn
def plx (ps:List (LI))(t:LI):Int:=if t∈ps then(ps.idxOf t:Int)else 0
def Qn4 (c:Zt)(pl:Q0)(ps:List (LI))(s:Spc)(p:LI×Nat):Spc :=
 ⟨s.a,s.co++[p.1.take c.co.length],s.rq++[p.1.drop c.co.length],s.pl++[plx ps (p.1.take c.co.length)],
  match rsn c pl (plx ps (p.1.take c.co.length)) p.2 p.1 with|some r=>s.fb++[r]|none=>s.fb⟩
def Yy (c:Zt):Int:=if Zi c≠0 then Zi c else if Ud (O7 c.co)≠0 then Ud (O7 c.co)else match xp (O7 c.co)with
 | none=>3
 | some _=>if Ud (O7 c.co++O7 c.rq)≠0 then Ud (O7 c.co++O7 c.rq)else match xp (O7 c.co++O7 c.rq)with
  | none=>3
  | some _=>0
def syA (l:List Q0):Q0:=match xp l with|none=>⟨[],0,[],[]⟩|some z=>z.1
def syQ (l:List Q0):List (LI):=match xp l with|none=>[]|some z=>z.2
def spc (c:Zt):Spc:=(syQ (O7 c.co++O7 c.rq)).zipIdx.foldl (Qn4 c (syA (O7 c.co)) (syQ (O7 c.co))) ⟨syA (O7 c.co++O7 c.rq),[],[],[],[]⟩
section
variable {pS:String}
end
inductive Pu where
 | pl (l:xu)
 | f2 (pre:xu) (i j:Nat) (t1 t2:Pu)
 | f3 (pre:xu) (i j k:Nat) (t1 t2 t3:Pu)
def Pu.len:Pu->Nat
 | .pl l=>l.length
 | .f2 pre _ _ t1 _=>pre.length+(1+t1.len)
 | .f3 pre _ _ _ t1 _ _=>pre.length+(1+t1.len)
def QaI (all:Array Oper):Pu->Array Bool->Bool
 | .pl l,ls=>Xh all l ls
 | .f2 pre i j t1 t2,ls=>KB all pre ls && Region.ready .any all (Z9 pre ls) == [i,j] && t1.len == t2.len && QaI all t1 ((Z9 pre ls).setIfInBounds i true) && QaI all t2 ((Z9 pre ls).setIfInBounds j true)
 | .f3 pre i j k t1 t2 t3,ls=>KB all pre ls && Region.ready .any all (Z9 pre ls) == [i,j,k] && t1.len == t2.len && t1.len == t3.len && QaI all t1 ((Z9 pre ls).setIfInBounds i true) && QaI all t2 ((Z9 pre ls).setIfInBounds j true) && QaI all t3 ((Z9 pre ls).setIfInBounds k true)
def Qqb (all:xE)(t:Pu):Bool:=Region.noSelect all.toArray && t.len == all.length && QaI all.toArray t (oX all.length false)
def XE (P:O4)(all:xE)(C:xA)(i:Nat)(N:xz)(f:Fr)(w:O1):Prop:=Yd all f (QU all i)=true/\XO P (QU all i) f w λE w'=>C w'/\N E w'
def XU (P:O4)(all:xE)(C:xA)(K:xz):Pu->Fr->O1->Prop
 | .pl l=>XP P all C K l
 | .f2 pre i j t1 t2=>XP P all C (λf w=>XE P all C i (XU P all C K t1) f w/\XE P all C j (XU P all C K t2) f w) pre
 | .f3 pre i j k t1 t2 t3=>XP P all C (λf w=>XE P all C i (XU P all C K t1) f w/\XE P all C j (XU P all C K t2) f w/\XE P all C k (XU P all C K t3) f w) pre
section
variable {all:xE}{C:xA}{B:xz}
theorem Ku (E:Region.noSelect all.toArray=true):∀(t:Pu) (ls:Array Bool) (f:Fr) (w:O1),ls.size=all.length->C w->QaI all.toArray t ls=true->XU P all C K t f w->XA P all C K t.len ls f w
 | .pl l,ls,f,w,S,T,G,h=>ZL E l ls f w S (.inl T) G h
 | .f2 pre i j t1 t2,ls,f,w,S,T,G,h=>by
  simp only[QaI,oK,beq_iff_eq]at G;obtain⟨⟨⟨⟨Y,H⟩,hl⟩,h1⟩,h2⟩:=G;rw[Pu.len];refine YK (B:=λf w=>XE P all C i (XU P all C K t1) f w/\XE P all C j (XU P all C K t2) f w) E pre ls f w T Y (λf I=>?_) h;have J:∀k,((Z9 pre ls).setIfInBounds k true).size=all.length:=λk=>by simp[YO,S]
  rw[Nj 1];refine XS (λh0=>(by rw[h0]at H;cases H)) ?_;rw[H];intro k V o O;simp only[oL,oJ,or_false]at V;rcases V with rfl|rfl
  ·have:=I.1;unfold XE at this;rw[Zk O]at this;rw[this.1,cond_true];exact this.2.mono λv w' hx=>⟨.inr (.inr hx.1),Ku E t1 _ _ _ (J _) hx.1 h1 hx.2⟩
  have:=I.2;unfold XE at this;rw[Zk O]at this;rw[this.1,cond_true,hl];exact this.2.mono λv w' hx=>⟨.inr (.inr hx.1),Ku E t2 _ _ _ (J _) hx.1 h2 hx.2⟩
 | .f3 pre i j k t1 t2 t3,ls,f,w,S,T,G,h=>by
  simp only[QaI,oK,beq_iff_eq]at G;obtain⟨⟨⟨⟨⟨⟨Y,H⟩,hl⟩,ha⟩,h1⟩,h2⟩,h3⟩:=G;rw[Pu.len];refine YK (B:=λf w=>XE P all C i (XU P all C K t1) f w/\XE P all C j (XU P all C K t2) f w/\XE P all C k (XU P all C K t3) f w) E pre ls f w T Y (λf I=>?_) h;have J:∀k,((Z9 pre ls).setIfInBounds k true).size=all.length:=λk=>by simp[YO,S]
  rw[Nj 1];refine XS (λh0=>(by rw[h0]at H;cases H)) ?_;rw[H];intro q V o O;simp only[oL,oJ,or_false]at V;rcases V with rfl|rfl|rfl
  ·have:=I.1;unfold XE at this;rw[Zk O]at this;rw[this.1,cond_true];exact this.2.mono λv w' hx=>⟨.inr (.inr hx.1),Ku E t1 _ _ _ (J _) hx.1 h1 hx.2⟩
  ·have:=I.2.1;unfold XE at this;rw[Zk O]at this;rw[this.1,cond_true,hl];exact this.2.mono λv w' hx=>⟨.inr (.inr hx.1),Ku E t2 _ _ _ (J _) hx.1 h2 hx.2⟩
  have:=I.2.2;unfold XE at this;rw[Zk O]at this;rw[this.1,cond_true,ha];exact this.2.mono λv w' hx=>⟨.inr (.inr hx.1),Ku E t3 _ _ _ (J _) hx.1 h3 hx.2⟩
theorem Qnh {Q:Exit->Fr->O1->Prop}(C:xA)(t:Pu)(H:P.follows .mixedOrders=true)(I:X0 n all=true)(E:Qqb all t=true)
  (J:C { w with drawn:=w.drawn+1 }) (h:XU P all C (λf w=>Q .normal f w) t f { w with drawn:=w.drawn+1 }):W P n (.region id all.toArray true) Q f w:=by
 simp only[Qqb,oK,beq_iff_eq]at E;obtain⟨⟨O,hl⟩,E⟩:=E;refine JR C H I ?_;have G:=Ku O t _ _ _ oe J E h;rw[hl]at G;exact G
theorem uP {l:xu}(h:XP P all C K l f w):XU P all C K (.pl l) f w:=h
theorem u2 {pre:xu}{E G:Pu}(h:XP P all C (λf w=>XE P all C i (XU P all C K E) f w/\XE P all C j (XU P all C K G) f w) pre f w):XU P all C K (.f2 pre i j E G) f w:=h
theorem u3 {pre:xu}{k:Nat}{E G H:Pu}(h:XP P all C (λf w=>XE P all C i (XU P all C K E) f w/\XE P all C j (XU P all C K G) f w/\XE P all C k (XU P all C K H) f w) pre f w):XU P all C K (.f3 pre i j k E G H) f w:=h
theorem ue {N:xz}(h:XO P (QU all i) f w λE w'=>C w'/\N E w')(G:Yd all f (QU all i)=true:=by rfl):XE P all C i N f w:=⟨G,h⟩
end
attribute [irreducible] XU XE
open Go.RowKit
abbrev fen (ro:xF):Fence:={ Fence.wide with round:=ro }
def coll (ds:LN):List Deferred:=ds.map λD=>{ target:=.collected D,args:=#[] }
structure Xg (n:Nat)(ds:LN)(a:Act)(f:Fr):Prop where
 size:a.tmps.size=n
 defers:a.defers=coll ds
 get:∀t,a.tmps.getD t undef=f t
theorem Xg.rel {a:Act}(h:Xg n ds a f):Rel n { a with defers:=[] } f:=⟨h.size,U,h.get⟩
theorem Xg.eval {n:Nat}{ds:LN}{a:Act}{f:Fr}(h:Xg n ds a f):a.eval=ev f:=by
 have:=h.rel.eval;rw[<-this];funext x;cases x <;> rfl
theorem Xg.put {n:Nat}{ds:LN}{a:Act}{f:Fr}(h:Xg n ds a f){dst:xF}(hd:∀d,dst=some d->d<n)(v:O2):Xg n ds (a.put dst v) (QW f dst v):=by
 have:=h.rel.put hd v;cases dst with
 | none=>exact h
 | some d=>exact⟨this.size,h.defers,this.get⟩
def Jh:Code->Nat->Bool
 | .region _ ops _,t=>Yj ops.toList t
 | .seq a b,t=>Jh a t || Jh b t
 | .cond _ a b,t=>Jh a t || Jh b t
 | .block _ a,t=>Jh a t
 | .loop a,t=>Jh a t
 | .skip,_| .exit _,_| .label _,_| .goto _,_| .ret,_| .rangeFunc ..,_=>false
 | _,_=>true
def wrG (D:xw):Code->Bool
 | .region _ ops _=>Qej D ops.toList
 | .seq a b=>wrG D a && wrG D b
 | .cond _ a b=>wrG D a && wrG D b
 | .block _ a=>wrG D a
 | .loop a=>wrG D a
 | .skip| .exit _| .label _| .goto _| .ret| .rangeFunc ..=>true
 | _=>false
theorem JY {D:xw}{t:Nat}(E:Xm D t=false):∀c:Code,wrG D c=true->Jh c t=false
 | .region _ ops _,h=>jx h E
 | .seq a b,h=>by simp only[wrG,oK]at h;simp[Jh,JY E a h.1,JY E b h.2]
 | .cond _ a b,h=>by simp only[wrG,oK]at h;simp[Jh,JY E a h.1,JY E b h.2]
 | .block _ a,h=>JY E a (by simpa[wrG]using h)
 | .loop a,h=>JY E a (by simpa[wrG]using h)
 | .skip,_=>rfl
 | .exit _,_=>rfl
 | .label _,_=>rfl
 | .goto _,_=>rfl
 | .ret,_=>rfl
 | .rangeFunc ..,_=>rfl
 | .scope _,h=>by simp[wrG]at h
 | .refuse _,h=>by simp[wrG]at h
def WG (ro:xF)(m:Nat)(P:O4)(n:Nat)(c:Code)(Q:Exit->LN->Fr->O1->Prop)(ds:LN)(f:Fr)(w:O1):Prop :=
 ∀a,Xg n ds a f->c.wpIn (fen ro) m P (λe a' w'=>∃ds' f',Xg n ds' a' f'/\(∀t,Jh c t=false->f' t=f t)/\Q e ds' f' w') a w
def Qdd (K:LN->Fr->O1->Prop)(Q:Exit->LN->Fr->O1->Prop):Exit->LN->Fr->O1->Prop
 | .normal,ds,f,w=>K ds f w
 | e,ds,f,w=>Q e ds f w
def QqP (id:Nat)(Q:Exit->LN->Fr->O1->Prop):Exit->LN->Fr->O1->Prop
 | .exit i,ds,f,w=>bif OS i id then Q .normal ds f w else Q (.exit i) ds f w
 | e,ds,f,w=>Q e ds f w
section
variable {ro:xF}{m:Nat}{Q:Exit->LN->Fr->O1->Prop}
theorem WG.mono {c:Code}{Q':Exit->LN->Fr->O1->Prop}(h:WG ro m P n c Q ds f w)(E:∀e ds f w,Q e ds f w->Q' e ds f w):WG ro m P n c Q' ds f w :=
 λa G=>wpIn_mono (h a G) λ_ _ _ ⟨H,I,J,O,S⟩=>⟨H,I,J,O,E _ _ _ _ S⟩
theorem WG.keeps {c:Code}(h:WG ro m P n c Q ds f w):WG ro m P n c (λe G E w'=>(∀t,Jh c t=false->E t=f t)/\Q e G E w') ds f w :=
 λa I=>wpIn_mono (h a I) λ_ _ _ ⟨G,E,J,H,O⟩=>⟨G,E,J,H,H,O⟩
theorem YP (h:Q .normal ds f w):WG ro m P n .skip Q ds f w:=λ_ E=>wpIn_skip ⟨ds,f,E,λ_ _=>U,h⟩
theorem Vs (h:Q (.exit i) ds f w):WG ro m P n (.exit i) Q ds f w:=λ_ E=>wpIn_exit ⟨ds,f,E,λ_ _=>U,h⟩
theorem Vr (h:Q .ret ds f w):WG ro m P n .ret Q ds f w:=λ_ E=>wpIn_ret ⟨ds,f,E,λ_ _=>U,h⟩
theorem Zg {x y:Code}(h:WG ro m P n x (Qdd (λds f w=>WG ro m P n y Q ds f w) Q) ds f w):WG ro m P n (.seq x y) Q ds f w:=by
 intro a O;refine wpIn_seq (wpIn_mono (h a O) ?_);rintro e a' w' ⟨J,E,G,S,H⟩;have k1:∀t,Jh (.seq x y) t=false->E t=f t:=λt I=>S t (by simp only[Jh,Oh]at I;exact I.1);cases e with
 | normal =>
  refine wpIn_mono (H a' G) λ_ _ _ ⟨T,V,g1,Y,g3⟩=>⟨T,V,g1,λt I=>(Y t ?_).D (k1 t I),g3⟩;simp only[Jh,Oh]at I;exact I.2
 | exit id=>exact⟨J,E,G,k1,H⟩
 | goto l=>exact⟨J,E,G,k1,H⟩
 | ret=>exact⟨J,E,G,k1,H⟩
 | panic ch=>exact⟨J,E,G,k1,H⟩
 | outgrown=>exact⟨J,E,G,k1,H⟩
theorem QfU {x y:Code}(D:xw)(S:α->List (Nat×O2))(I:α->LN->O1->Prop)(hD:wrG D x=true)
  (O:WG ro m P n x (Qdd (λE H w'=>∃z,XB H (S z)/\I z E w') Q) ds f w)
  (T:∀z g E w',I z E w'->WG ro m P n y Q E (qX (S z) (mix D f g)) w'):WG ro m P n (.seq x y) Q ds f w:=by
 refine Zg (O.keeps.mono ?_);rintro e E H w' ⟨V,G⟩;cases e with
 | normal =>
  obtain⟨z,Y,hi⟩:=G;have J:=T z H E w' hi;rw[Ji (λt ht=>V t (JY ht x hD)),Xc Y]at J;exact J
 | exit id=>exact G
 | goto l=>exact G
 | ret=>exact G
 | panic ch=>exact G
 | outgrown=>exact G
theorem Uh {c:O3}{x y:Code}{t:Bool}(H:ev f c=.bool t)(E:t=true->WG ro m P n x Q ds f w)(I:t=false->WG ro m P n y Q ds f w):
  WG ro m P n (.cond c x y) Q ds f w:=by
 intro a G;have J:a.eval c=.bool t:=by rw[G.eval];exact H
 refine wpIn_cond_split J (λe=>wpIn_mono (E e a G) ?_) (λe=>wpIn_mono (I e a G) ?_) <;>
  (rintro e a' w' ⟨O,S,T,V,Y⟩
   refine⟨O,S,T,λt E=>V t ?_,Y⟩;simp only[Jh,Oh]at E
   first|exact E.1|exact E.2)
theorem Qno {c:O3}{x y:Code}{p:Prop}[Decidable p](E:ev f c=.bool (decide p))(G:p->WG ro m P n x Q ds f w)(H:¬p->WG ro m P n y Q ds f w):
  WG ro m P n (.cond c x y) Q ds f w :=
 Uh E (λe=>G (OY e)) (λe=>H (O0 e))
theorem Qar {c:O3}{x y:Code}{p:Prop}[Decidable p](E:ev f c=.bool (decide p))(G:¬p->WG ro m P n y Q ds f w)(H:p->WG ro m P n x Q ds f w):
  WG ro m P n (.cond c x y) Q ds f w:=Qno E H G
theorem Qbn {c:O3}{x y:Code}(E:ev f c=.bool true)(h:WG ro m P n x Q ds f w):WG ro m P n (.cond c x y) Q ds f w:=Uh E (λ_=>h) (λe=>by cases e)
theorem VM {c:O3}{x y:Code}(E:ev f c=.bool false)(h:WG ro m P n y Q ds f w):WG ro m P n (.cond c x y) Q ds f w:=Uh E (λe=>by cases e) (λ_=>h)
theorem Yb {c:Code}(h:WG ro m P n c (QqP id Q) ds f w):WG ro m P n (.block id c) Q ds f w:=by
 intro a J;refine wpIn_block (wpIn_mono (h a J) ?_);rintro e a' w' ⟨H,G,I,O,E⟩;have k1:∀t,Jh (.block id c) t=false->G t=f t:=λt S=>O t (by simpa[Jh]using S);cases e with
 | exit i =>
  simp only[Exit.inBlock];simp only[QqP]at E;by_cases hi:i=id
  ·subst hi;simp only[Nat.beq_refl,cond_true]at E;simp only[if_true];exact⟨H,G,I,k1,E⟩
  have T:OS i id=false:=by
   cases e:OS i id with
   | false=>rfl
   | true=>exact OW (Nat.eq_of_beq_eq_true e) hi
  rw[T]at E;rw[OT hi];exact⟨H,G,I,k1,E⟩
 | normal=>exact⟨H,G,I,k1,E⟩
 | goto l=>exact⟨H,G,I,k1,E⟩
 | ret=>exact⟨H,G,I,k1,E⟩
 | panic ch=>exact⟨H,G,I,k1,E⟩
 | outgrown=>exact⟨H,G,I,k1,E⟩
end
def Qb3 (l:xE):Bool:=l.all λo=>match o.op with| .defer _=>false|_=>true
theorem V4 {l:xE}(h:Qb3 l=true):∀o∈l,∀c,o.op≠.defer c:=λo E c e=>by
 have:=Mj.1 h o E;rw[e]at this;cases this
section
variable {ro:xF}{m:Nat}
theorem QfP {o:Oper}{a:Act}{K':Act->O1->Prop}{Q:Exit->Act->O1->Prop}(h:Xg n ds a f)(G:∀c,o.op≠.defer c)
  (hK:∀v w',K (QW f o.dst v) w'->K' (a.put o.dst v) w') (hx:XO P o f w K):o.wpIn (fen ro) m P a w K' Q:=by
 unfold XO at hx;refine⟨λ_ _=>trivial,?_⟩;have e:Oper.semAt (fen ro).round a.eval o=execOp (ev f) o:=by
  rw[h.eval];cases ro with
  | none=>rfl
  | some l=>exact Oper.semAt_some l _ _ G
 rw[e];generalize (execOp (ev f) o).run P w=r at hx;cases r with
 | ok nx w' =>
  cases nx <;> simp only[upF]at hx <;> simp only[Oper.uponIn]
  case value v=>exact hK v w' hx
  case skip=>exact hK _ w' hx
  case enter g args =>
   refine⟨λh=>by simp[Fence.wide]at h,?_⟩;refine(callsIn_wide (n:=m - 1)).2 (Calls.mono hx λe H E=>?_);cases e with
   | returned v=>exact hK v H E
   | panicked c=>exact E.elim
   | outgrown=>exact E.elim
 | halt x w'=>exact hx.elim
theorem VY {l:xE}{a:Act}(h:Xg n ds a f)(E:∀o∈l,∀d,o.dst=some d->d<n)(o:Oper):Region.wanted o (yielded l.toArray a.tmps)=Yd l f o:=U2 h.rel E o
theorem QfQ {Q:Exit->LN->Fr->O1->Prop}{all:xE}(G:∀o∈all,∀d,o.dst=some d->d<n)(hd:∀o∈all,∀c,o.op≠.defer c)(f0:Fr):
  ∀(l:xE) (k:Nat) (a:Act) (f:Fr) (w:O1),(∀j,l[j]?=all[k+j]?)->Xg n ds a f->(∀t,Yj all t=false->f t=f0 t) ->
   XL P all (λf w=>Q .normal ds f w) l f w ->
   wpOpsIn (fen ro) m P all.toArray (λe a' w'=>∃ds' f',Xg n ds' a' f'/\(∀t,Yj all t=false->f' t=f0 t)/\Q e ds' f' w') (oR k l.length) a w
 | [],_,a,f,w,_,E,I,h=>⟨ds,f,E,I,by unfold XL at h;exact h⟩
 | o::l,k,a,f,w,hl,E,I,h=>by
  have J:all[k]?=some o:=by simpa using(hl 0).symm
  have H:o∈all:=Mt J;have ih:=λa f w=>QfQ (Q:=Q) G hd f0 l (k+1) a f w (λj=>by have:=hl (j+1);simpa[ON,Nat.add_comm 1 j]using this);have next:∀v,(∀t,Yj all t=false->QW f o.dst v t=f0 t):=λv t O=>(Xd (JF H O) v).D (I t O);simp only[oW,OB,wpOpsIn,o0,J];rw[VY E G o];unfold XL at h;cases S:Yd all f o with
  | false =>
   rw[S]at h;exact⟨λ_ _=>trivial,ih _ _ _ (E.put (G o H) _) (next _) h⟩
  | true =>
   rw[S]at h;exact QfP E (hd o H) (λv w' hx=>ih _ _ _ (E.put (G o H) v) (next v) hx) h
theorem QO {Q:Exit->LN->Fr->O1->Prop}{l:xE}(E:X0 n l=true)(hd:Qb3 l=true)(h:XL P l (λf w=>Q .normal ds f w) l f w):WG ro m P n (.region id l.toArray false) Q ds f w:=by
 intro a G;refine wpIn_region ?_;have:=QfQ (ro:=ro) (m:=m) (Xt E) (V4 hd) f l 0 a f w oe G (λ_ _=>rfl) h;simpa[List.range_eq_range',Jh]using this
attribute [local semireducible] XA in
theorem zM {Q:Exit->Act->O1->Prop}{all:xE}{C:xA}{K:xz}(G:∀o∈all,∀d,o.dst=some d->d<n)(hd:∀o∈all,∀c,o.op≠.defer c)(f0:Fr)
  (H:∀a f w,Xg n ds a f->(∀t,Yj all t=false->f t=f0 t)->K f w->Q .normal a w):
  ∀(k:Nat) (ls:Array Bool) (a:Act) (f:Fr) (w:O1),Xg n ds a f->(∀t,Yj all t=false->f t=f0 t)->XA P all C K k ls f w->wpAnyIn (fen ro) m P .any all.toArray Q k ls a w
 | 0,_,a,f,w,E,I,h=>⟨h.1,H a f w E I h.2⟩
 | k+1,ls,a,f,w,E,I,h=>by
  refine⟨λY=>H a f w E I (h.1 Y),λi hi=>?_⟩;unfold wpOpIn;simp only[o0];cases S:all[i]? with
  | none =>
   exfalso;obtain⟨_,o,ha,_⟩:=mem_ready.1 hi;simp[S]at ha
  | some o =>
   have J:o∈all:=Mt S;have O:=h.2 i hi o S;have next:∀v,(∀t,Yj all t=false->QW f o.dst v t=f0 t):=λv t T=>(Xd (JF J T) v).D (I t T);simp only[];rw[VY E G o];cases V:Yd all f o with
   | false =>
    rw[V]at O;exact⟨λ_ _=>trivial,zM G hd f0 H k _ _ _ _ (E.put (G o J) _) (next _) O⟩
   | true =>
    rw[V]at O;exact QfP E (hd o J) (λv w' hx=>zM G hd f0 H k _ _ _ _ (E.put (G o J) v) (next v) hx.2) O
theorem jd {Q:Exit->LN->Fr->O1->Prop}{all:xE}(C:xA)(pl:xu)(I:P.follows .mixedOrders=true)(J:X0 n all=true)(hd:Qb3 all=true)(G:yg all pl=true)
  (O:C { w with drawn:=w.drawn+1 }) (h:XP P all C (λf w=>Q .normal ds f w) pl f { w with drawn:=w.drawn+1 }):WG ro m P n (.region id all.toArray true) Q ds f w:=by
 intro a S;simp only[yg,oK,beq_iff_eq]at G;obtain⟨⟨T,hl⟩,G⟩:=G;refine wpIn_region_any I ?_;have H:=ZL T pl _ _ _ oe (.inl O) G h;rw[hl]at H;have V:=zM (ro:=ro) (m:=m) (n:=n) (ds:=ds) (Q:=λe a' w'=>∃ds' E,Xg n ds' a' E/\(∀t,Yj all t=false->E t=f t)/\Q e ds' E w') (Xt J) (V4 hd) f
  (λa E w Y hk hq=>⟨ds,E,Y,hk,hq⟩) _ _ a f _ S (λ_ _=>U) H
 simpa[Jh]using V
end
section
variable {ro:xF}{m:Nat}{Q:Exit->LN->Fr->O1->Prop}
theorem qW {F:Fence}{c:Code}{Q:Exit->Act->O1->Prop}{a:Act}(J:α->Act->O1->Prop)(μ:α->Nat)(z:α)(h₀:J z a w)
  (round:∀x a w,J x a w->c.wpIn F m P (Exit.then (λa' w'=>∃H,μ H<μ x/\J H a' w') Q) a w):(Code.loop c).wpIn F m P Q a w:=by
 intro b k cs S I O;have key:∀j x a w,μ x=j->J x a w ->
   ∃e a' w',Q e a' w'/\ArrivesIn (Machine.fenced P F) P (lone (b.atR a (.code c::.inLoop c::k)) cs w) b k cs e a' w':=by
  intro j;induction j using Nat.strongRecOn with
  | _ j ih =>
   intro x a w T V;obtain⟨e,a₁,w₁,E,G⟩:=round x a w V b (.inLoop c::k) cs S I O;cases e with
   | normal =>
    obtain⟨H,Y,ha⟩:=E;obtain⟨e₂,a₂,w₂,hq₂,harr₂⟩:=ih (μ H) (T ▸ Y) H a₁ w₁ U ha;exact⟨e₂,a₂,w₂,hq₂,.of_steps (StepsIn.trans G (.one (fenced_calm I O U) stepR_inLoop)) harr₂⟩
   | exit id=>exact⟨_,a₁,w₁,E,.pass (x:=.inLoop c) U (λ_ _=>.inl oe) G⟩
   | goto l=>exact⟨_,a₁,w₁,E,.pass (x:=.inLoop c) U (λ_ _=>.inl oe) G⟩
   | ret=>exact⟨_,a₁,w₁,E,.pass (x:=.inLoop c) U (λ_ _=>.inl oe) G⟩
   | panic ch=>exact⟨_,a₁,w₁,E,.pass (x:=.inLoop c) U (λ_ _=>.inl oe) G⟩
   | outgrown=>exact⟨_,a₁,w₁,E,.pass (x:=.inLoop c) U (λ_ _=>.inl oe) G⟩
 obtain⟨e,a',w',E,G⟩:=key _ z a w U h₀;exact⟨e,a',w',E,.of_steps (.one (fenced_calm I O U) stepR_loop) G⟩
theorem qL {c:Code}(D:xw)(S:α->List (Nat×O2))(I:α->LN->O1->Prop)(μ:α->Nat)(hD:wrG D c=true)(z:α)
  (h0:XB f (S z)) (hI:I z ds w)
  (round:∀x g H w',I x H w'->WG ro m P n c (Qdd (λE J Y=>∃V,μ V<μ x/\XB J (S V)/\I V E Y) Q) H (qX (S x) (mix D f g)) w'):WG ro m P n (.loop c) Q ds f w:=by
 intro a ha;refine qW (λ(x:α) a' w'=>∃H J,Xg n H a' J/\(∀t,Jh c t=false->J t=f t)/\XB J (S x)/\I x H w') μ z ⟨ds,f,ha,λ_ _=>U,h0,hI⟩ ?_;rintro x a' w' ⟨H,J,h1,h2,h3,h4⟩;have h5:=round x J H w' h4;rw[Ji (λt O=>h2 t (JY O c hD)),Xc h3]at h5;refine wpIn_mono (h5 a' h1) ?_;rintro e hb Y ⟨E,G,g1,g2,T⟩;have k1:∀t,Jh c t=false->G t=f t:=λt O=>(g2 t O).D (h2 t O);have k2:∀t,Jh (.loop c) t=false->G t=f t:=λt O=>k1 t (by simpa[Jh]using O);cases e with
 | normal=>obtain⟨V,hm,hs,hi⟩:=T;exact⟨V,hm,E,G,g1,k1,hs,hi⟩
 | exit id=>exact⟨E,G,g1,k2,T⟩
 | goto l=>exact⟨E,G,g1,k2,T⟩
 | ret=>exact⟨E,G,g1,k2,T⟩
 | panic ch=>exact⟨E,G,g1,k2,T⟩
 | outgrown=>exact⟨E,G,g1,k2,T⟩
end
def rqG (P:O4)(rs:List ResultVar)(R:O2->O1->Prop):Exit->LN->Fr->O1->Prop
 | .normal,ds,f,w=>(∀D∈ds,w.heap[D]?=some (.deferred (some [])))/\ds.Nodup/\∃vs,∀w',O5 ds w w'->UZ P f w' rs vs/\R (tup vs) w'
 | .ret,ds,f,w=>(∀D∈ds,w.heap[D]?=some (.deferred (some [])))/\ds.Nodup/\∃vs,∀w',O5 ds w w'->UZ P f w' rs vs/\R (tup vs) w'
 | _,_,_,_=>False
theorem O5.putObj (w:O1)(D:Nat)(o:Obj):O5 [D] w (w.putObj D o):=⟨U,U,U,oe,λk _ E=>World.putObj_heap_other (λe=>E (by simp[e]))⟩
theorem yx {F:Fence}{m:Nat}{P:O4}{fn:Func}{tmps:Array O2}{R:Ending->O1->Prop}:∀(ds:LN) (w:O1),(∀D∈ds,w.heap[D]?=some (.deferred (some [])))->ds.Nodup ->
  (∀w',O5 ds w w'->∃v,(results fn tmps).run P w'=.ok v w'/\R (.returned v) w')->LeavesInM F m P fn tmps R (coll ds) .returning w
 | [],w,_,_,h=>h w (O5.Z _ _)
 | D::ds,w,hD,I,h=>by
  refine⟨oe,.inl ⟨D,_,rfl,run_takeDeferred (hD D Lp),?_⟩⟩;have J:=O5.putObj w D (.deferred none);have H:=M6.1 I;refine yx ds _ (λE hE=>?_) H.2 (λw' O=>h w' ?_)
  ·rw[World.putObj_heap_other (λe=>H.1 (by rw[<-e];exact hE))];exact hD E (Lj _ hE)
  exact(J.mono (λb G=>by simp at G;simp[G])).Q (O.mono (λb G=>Lj _ G))
theorem Q6.of_G {c:Code}{args:LV}{R:O2->O1->Prop}{rs:List ResultVar}(m:Nat)
  (T:P.funcs[g]?=some fn) (V:fn.body=some c) (Y:fn.ntmps=n) (ha:fn.results=rs.toArray) (hl:args.length<=n)
  (h:WG none m P n c (rqG P rs R) [] (ent args) w):Q6 P g args w R:=by
 unfold Q6;refine(callsIn_wide (n:=m)).1 (callsIn_of_wp_marks T V Z (wpIn_mono (h _ ?_) ?_))
 ·refine⟨by simp[Y];omega,U,λt=>?_⟩;have key:∀(l:LV) (t:Nat),l[t]?.getD undef=ent l t:=by
   intro l;induction l with
   | nil=>intro t;rfl
   | cons v l ih=>intro t;cases t with|zero=>rfl|succ t=>simpa[ent]using ih t
  rw[<-key];simp only[Array.getD_eq_getD_getElem?,Array.getElem?_append,Od,o0];by_cases I:t<args.length
  ·simp[I]
  simp[I,Array.getElem?_replicate];split <;> rfl
 rintro e a' w' ⟨H,f',J,_,E⟩;have fin:((∀D∈H,w'.heap[D]?=some (.deferred (some [])))/\H.Nodup/\∃vs,∀G,O5 H w' G->UZ P f' G rs vs/\R (tup vs) G) ->
   LeavesInM Fence.wide m P fn a'.tmps (λe w'=>match e with| .returned v=>R v w'|_=>False) a'.defers .returning w':=by
  rintro⟨hd,hc,vs,O⟩;rw[J.defers];refine yx H w' hd hc λG S=>⟨tup vs,?_,(O G S).2⟩;simp only[results,ha,List.mapM_toArray,Sem.run_bind,Sem.run_map];rw[J0 (a:={ a' with defers:=[] }) J.rel _ (λ_=>rfl) (λ_ _=>rfl) rs vs (O G S).1]
  cases vs with
  | nil=>rfl
  | cons v vs=>cases vs with|nil=>rfl|cons u us=>rfl
 cases e with
 | normal=>exact fin E
 | ret=>exact fin E
 | exit id=>exact E.elim
 | goto l=>exact E.elim
 | panic c=>exact E.elim
 | outgrown=>exact E.elim
attribute [irreducible] WG
def IxQ {α:Type}(q:α->Bool)(es:List α)(r:O2):Prop:=(r=oF oG (-1)/\∀m (E:m<es.length),q (es[m]'E)=false)\/∃(i:Nat) (hi:i<es.length),r=oF oG i/\q (es[i]'hi)=true/\∀m (E:m<i),q (es[m]'oa)=false
theorem Qmg [Fu prog g fn]{cap:LV}{q:Ed->Bool}{v:O2}(h:zm L w.heap v es)
  (T:∀(e:Ed) (G:O1),O5 [] w G->Q6 prog g ([.agg (QE e).toArray]++cap) G λr w'=>r=.bool (q e)/\O5 [] G w'):
  Q6 prog 333 [v,.func (.func g) #[] cap.toArray] w λr w'=>O5 [] w w'/\IxQ q es r:=by
 have hb:=h.le;refine Zo func333 ?_;refine Qc<|Qb<|Qd<|Qm<|QL h U<|Qa<|xe<|Qg<|QC (α:=Nat) [(4,5),(8,18)] (λz=>[(8,oF oG z)]) (λz w'=>z<=es.length/\O5 [] w w'/\∀m (E:m<es.length),m<z->q (es[m]'E)=false) (λz=>es.length - z) ol 0 La ⟨Ln _,O5.Z _ _,λm _ V=>OW V (Nn m)⟩ ?_;rintro k g1 G ⟨hk1,H,J⟩;refine Qc<|QY U U<|xe<|Qd<|QH U (λY=>?_) (λY=>?_)
 ·refine Qz<|Qc<|Qb<|Qk ⟨[oF oG (-1)],La,H,.inl ⟨U,λm E=>J m E oa⟩⟩
 have I:k<es.length:=oa
 refine Qh<|Qd<|Qg<|Qm<|Qb<|Qm<|Qa<|Qa<|xie (h.I H) U U I λhc ha=>x (Qw ha U U)<|Qe<|xc (first:=[]) (capt:=cap) U<|(T (es[k]'I) G H).mono ?_;rintro r2 w2 ⟨rfl,S⟩;refine xe<|QX rfl (λO=>?_) (λO=>?_)
 ·refine Qm<|Qb<|Qk ⟨[oF oG k],La,H.D S,.inr ⟨k,I,U,O,λm E=>J m oa E⟩⟩
 refine Qh<|Qv<|QP U U<|Qa<|xe<|⟨k+1,oa,La,I,H.D S,λm E he=>?_⟩;by_cases e:m=k
 ·subst e;exact O
 exact J m E oa
theorem Qmf [Fu prog g fn]{cap:LV}{q:Int->Bool}{v:O2}{es:LI}(h:QR L w.heap v es)
  (T:∀(e:Int) (G:O1),O5 [] w G->Q6 prog g ([oF oG e]++cap) G λr w'=>r=.bool (q e)/\O5 [] G w'):
  Q6 prog 74 [v,.func (.func g) #[] cap.toArray] w λr w'=>O5 [] w w'/\IxQ q es r:=by
 have hb:=h.le;refine Zo func74 ?_;refine Qc<|Qb<|Qd<|Qm<|QL h U<|Qa<|xe<|Qg<|QC (α:=Nat) [(4,5),(8,18)] (λz=>[(8,oF oG z)]) (λz w'=>z<=es.length/\O5 [] w w'/\∀m (E:m<es.length),m<z->q (es[m]'E)=false) (λz=>es.length - z) ol 0 La ⟨Ln _,O5.Z _ _,λm _ V=>OW V (Nn m)⟩ ?_;rintro k g1 G ⟨hk1,H,J⟩;refine Qc<|QY U U<|xe<|Qd<|QH U (λY=>?_) (λY=>?_)
 ·refine Qz<|Qc<|Qb<|Qk ⟨[oF oG (-1)],La,H,.inl ⟨U,λm E=>J m E oa⟩⟩
 have I:k<es.length:=oa
 refine Qh<|Qd<|Qg<|Qm<|Qb<|Qm<|Qa<|Qa<|xii (h.I H) U U I λhc ha=>x (QD ha U)<|Qe<|xc (first:=[]) (capt:=cap) U<|(T (es[k]'I) G H).mono ?_;rintro r2 w2 ⟨rfl,S⟩;refine xe<|QX rfl (λO=>?_) (λO=>?_)
 ·refine Qm<|Qb<|Qk ⟨[oF oG k],La,H.D S,.inr ⟨k,I,U,O,λm E=>J m oa E⟩⟩
 refine Qh<|Qv<|QP U U<|Qa<|xe<|⟨k+1,oa,La,I,H.D S,λm E he=>?_⟩;by_cases e:m=k
 ·subst e;exact O
 exact J m E oa
theorem Qfx [Fu prog g fn]{cap:LV}{q:Int->Bool}{v:O2}{es:LI}(h:QR L w.heap v es)
  (I:∀(e:Int) (G:O1),O5 [] w G->Q6 prog g ([oF oG e]++cap) G λr w'=>r=.bool (q e)/\O5 [] G w'):
  Q6 prog 150 [v,.func (.func g) #[] cap.toArray] w λr w'=>r=.bool (es.any q)/\O5 [] w w':=by
 refine Zo func150 ?_;refine Qc<|Qb<|Qm<|Qa<|ZM<|(Qmf h I).mono ?_;rintro T G ⟨H,E⟩;refine Or.elim E (λE=>?_) (λE=>?_)
 ·obtain⟨rfl,J⟩:=E;have e:es.any q=false:=by
   rw[NF];intro z O;obtain⟨i,hi,rfl⟩:=LG O;rw[J i hi];simp
  refine x (Yw U U)<|Qb<|Qk ⟨[.bool false],La,by rw[e];rfl,H⟩
 obtain⟨i,hi,rfl,S,_⟩:=E;have e:es.any q=true:=Nv.2 ⟨_,Ll hi,S⟩;have e2:decide ((0:Int)<=(i:Int))=true:=oe
 refine x (Yw U U)<|Qb<|Qk ⟨[.bool (decide ((0:Int)<=(i:Int)))],La,by rw[e,e2];rfl,H⟩
theorem QeJ (es:List Ed)(s v:Int):xj es s v=xj (Z5 es s) s v:=by
 induction es with
 | nil=>rfl
 | cons e es ih =>
  unfold Z5 at *;rw[Me];by_cases h:e.1=s
  ·rw[OU (oz h),xj,xj,ih]
  rw[OT (oz h),xj,OT (λc=>h c.1),ih]
theorem Qdv:∀(l:List Ed) (s v:Int) (i:Nat) (hi:i<l.length),(∀e∈l,e.1=s)->(l[i]'hi).2.1=v->(∀m (E:m<i),(l[m]'oa).2.1≠v)->xj l s v=(l[i]'hi).2.2
 | e::l,s,v,0,_,G,H,_=>by rw[xj,OU ⟨G e Lp,H⟩];rfl
 | e::l,s,v,i+1,hi,G,H,E=>by
  rw[xj,OT (λc=>E 0 oa c.2)];exact Qdv l s v i (oz hi) (λe I=>G e (Lj _ I)) H (λm J=>E (m+1) oa)
theorem QiA:∀(l:List Ed) (s v:Int),(∀e∈l,e.2.1≠v)->xj l s v=-1
 | [],_,_,_=>rfl
 | e::l,s,v,h=>by rw[xj,OT (λc=>h e Lp c.2)];exact QiA l s v (λe E=>h e (Lj _ E))
theorem QiH {n:Int}(e:Ed)(w:O1)(G:Q7 w.heap b T [oF oG n]):
  Q6 prog 334 ([.agg (QE e).toArray]++[.pointer (some ⟨b,0,none⟩)]) w λr w'=>r=.bool (decide (e.2.1=n))/\O5 [] w w':=by
 refine Zo func334 ?_;refine Qc<|Qe<|QV (us:=QE e) U λb2 I E J H=>Qb<|Qc<|Qs U H U U<|Xb (G.I E) U U<|x (Q2 U U)<|Qb<|Qk ⟨[_],La,U,E⟩
theorem QcV {st:Int}(h:zm L w.heap ve a.ed)(H:ZA a)(s v:Int)(ha:0<=s)(J:s<a.st):
  Q6 prog 300 [.agg #[va,oF oG st,vm,ve],oF oG s,oF oG v] w λr w'=>r=oF oG (xj a.ed s v)/\O5 [] w w':=by
 have hh:=H.st1;refine Zo func300 ?_;refine Qc<|Qe<|QV (us:=[va,oF oG st,vm,ve]) U λb3 w1 J hj hb=>Qe<|QV (us:=[oF oG v]) U λb5 w2 O hk hc=>Qb<|Qc<|Q9 (hb.I O) U U<|Qa<|ZM<|(QaK ((h.I J).I O) H.eds (λe E=>⟨(H.ed e E).1,ou (H.ed e E).2.1⟩) s ha oa).mono ?_;rintro vo w3 ⟨S,hE⟩;refine Qb ?_;have hf:∀e∈Z5 a.ed s,e.1=s:=λe E=>(ZT E).2;rw[QeJ];refine Qm<|x (Zx (l:=[]) (l':=[.tmp 5]))<|ZM<|(Qmg (q:=λe=>decide (e.2.1=v)) (cap:=[.pointer (some ⟨b5,0,none⟩)]) hE (λe T I=>QiH e T ((hc.I S).I I))).mono ?_;rintro r4 T ⟨I,G⟩;have V:=((J.D O).D S).D I;refine Or.elim G (λG=>?_) (λG=>?_)
 ·obtain⟨rfl,hq⟩:=G;have e1:xj (Z5 a.ed s) s v=-1:=QiA _ _ _ λe E=>by
   obtain⟨i,hi,rfl⟩:=LG E;simpa using hq i hi
  rw[e1];refine Qb<|Qd<|Qm<|QY U U<|xe<|y7 U ?_;refine Qc<|Qb<|Qk ⟨[oF oG (-1)],La,U,V⟩
 obtain⟨i,hi,rfl,h1,h2⟩:=G;have e1:xj (Z5 a.ed s) s v=((Z5 a.ed s)[i]'hi).2.2:=Qdv _ s v i hi hf (oz h1) (λm hm=>oz (h2 m hm));rw[e1];refine Qb<|Qd<|Qm<|QY U U<|xe<|QZ U (λY=>OW Y oa) (λY=>?_);refine Qh<|Qm<|Qa<|xie (hE.I I) U U hi λhl hg=>x (Zs U)<|x (QD (hg.fld 2 _ U) U)<|Qb<|Qk ⟨[_],La,U,V⟩
def flw (a:Q0):Int->LI->Int×Nat
 | s,[]=>(s,0)
 | s,v::u=>if xj a.ed s v<0 then(s,0)else((flw a (xj a.ed s v) u).1,(flw a (xj a.ed s v) u).2+1)
theorem Qoo (E:ZA a){v:Int}(h:¬xj a.ed s v<0):xj a.ed s v<a.st:=(E.ed _ (QaM oa)).2.2.2.2
theorem QgC {vw:O2}{st:Int}(h:zm L w.heap ve a.ed)(H:QR L' w.heap vw u)(S:ZA a)(s:Int)(hc:0<=s)(T:s<a.st):
  Q6 prog 263 [.agg #[va,oF oG st,vm,ve],oF oG s,vw] w λr w'=>r=.tuple #[oF oG (flw a s u).1,oF oG (flw a s u).2]/\O5 [] w w':=by
 have hi:=H.le;refine Zo func263 ?_;refine Qc<|Qe<|QV (us:=[va,oF oG st,vm,ve]) U λb3 w1 T hj he=>x Ql<|Qb<|Qd<|Qm<|QL H U<|Qa<|xe<|Qg<|QC (α:=Nat×Int) [(1,1),(6,10),(13,27)] (λz=>[(1,oF oG z.2),(13,oF oG z.1)]) (λz w'=>z.1<=u.length/\0<=z.2/\z.2<a.st/\O5 [] w1 w'/\flw a s u=((flw a z.2 (u.drop z.1)).1,(flw a z.2 (u.drop z.1)).2+z.1)) (λz=>u.length - z.1) ol (0,s) oA ⟨Ln _,hc,by assumption,O5.Z _ _,oe⟩ ?_;rintro⟨k,t⟩ g w2 ⟨hk,V,Y,O,E⟩;simp only[]at hk V Y E;have I:=T.D O;refine Qc<|QY U U<|xe<|Qd<|QH U (λha=>?_) (λha=>?_)
 ·refine Qz<|Qm<|Qa<|QL H U<|x Ql<|Qb ?_;rw[Lr oa]at E;have hg:k=u.length:=by have hl:¬(k:Int)<(u.length:Int):=ha;omega
  refine Qk ⟨[oF oG t,oF oG u.length],oA,?_,I⟩;rw[E,hg];simp[flw,tup]
 have G:k<u.length:=oa
 rw[Zf G,flw]at E;refine Qh<|Qd<|Qg<|Qm<|xii (H.I I) U U G λhm hh=>x (QD hh U)<|x Ql<|Qb<|Qc<|Q9 (he.I O) U U<|Qa<|Qa<|QN<|(QcV (h.I I) S t (u[k]'G) V Y).mono ?_;rintro r3 w3 ⟨rfl,hb⟩;refine Qb<|Qd<|Qm<|QY U U<|xe<|QZ rfl (λJ=>?_) (λJ=>?_)
 ·rw[OU J]at E;refine Qm<|Qa<|x Ql<|Qb<|Qk ⟨[oF oG t,oF oG k],oA,?_,I.D hb⟩;rw[E];simp[tup]
 rw[OT J]at E;have hn:=Qoo S J;refine Qh<|Qv<|Qa<|Qb<|Qv<|QP U U<|Qa<|xe<|⟨(k+1,xj a.ed t (u[k]'G)),oh,oA,G,oh,hn,O.D hb,?_⟩;simp only[];rw[E];simp;omega
def cks (a:Q0)(s:Int):Int:=if JD a≠0 then JD a else if s<0\/a.st<=s then 2 else 0
theorem Kg (h:ZG L w.heap va vm ve a)(s:Int):
  Q6 prog 259 [.agg #[va,oF oG a.st,vm,ve],oF oG s] w λr w'=>r=oF oG (cks a s)/\O5 [] w w':=by
 refine Zo func259 ?_;refine Qc<|Qe<|QV (us:=[va,oF oG a.st,vm,ve]) U λb2 V J Y O=>Qb<|Qd<|Qc<|Q9 O U U<|QN<|(Jf (h.I J)).mono ?_;rintro r2 T ⟨rfl,S⟩;refine Qb ?_;unfold cks;have E:=J.D S;refine Qm<|ZD U U<|xe<|QZ rfl (λG=>?_) (λG=>?_)
 ·refine Qm<|Qb<|Qk ⟨[_],La,by rw[OU G];rfl,E⟩
 rw[OT G];refine Qh<|Qd<|Q3 (α:=Unit) [(11,18)] (λz=>[(18,.bool (decide (s<0\/a.st<=s)))]) (λz w'=>w'=T) ol ?_ ?_
 ·refine Qv<|Qa<|xb (YR U U) (λH=>?_) (λH=>?_)
  ·refine Qa<|Qr<|Qr<|Qr<|Qr<|QJ U<|xe ?_;exact⟨(),⟨by rw[OX (Or.inl H)];rfl,Z⟩,U⟩
  refine Qa<|Qa<|Qs U (O.I S) U U<|x (Yw U U)<|QJ U<|xe ?_;exact⟨(),⟨by show Value.bool (decide (a.st<=s))=_;simp[H],Z⟩,rfl⟩
 rintro z g w3 rfl;refine QZ rfl (λI=>?_) (λI=>?_)
 ·refine Qc<|Qb<|Qk ⟨[_],La,by rw[OU I];rfl,E⟩
 refine Qh<|Qc<|Qb<|Qk ⟨[_],La,by rw[OT I];rfl,E⟩
theorem QcE (h:cks a s=0):ZA a/\0<=s/\s<a.st:=by
 unfold cks at h;split at h
 ·rename_i E;exact OW h E
 rename_i E;split at h
 ·cases h
 rename_i G;exact⟨(ZQ a).1 (Lo.1 E),oa,oa⟩
theorem QlB (e:Int)(w:O1)(E:Q7 w.heap b T (va::us))(G:QR L w.heap va al):
  Q6 prog 262 ([oF oG e]++[.pointer (some ⟨b,0,none⟩)]) w λr w'=>r=.bool (decide (e∉al))/\O5 [] w w':=by
 refine Zo func262 ?_;refine Qc<|Qb<|Qc<|Qs U E U U<|Qa<|QN<|(Yl G e).mono ?_;rintro H I ⟨rfl,rfl⟩;refine x (ZB U)<|Qb<|Qk ⟨[_],La,?_,O5.Z _ _⟩;show Value.bool (!decide (e∈al))=_;rw[decide_not]
def QlA (a:Q0)(s:Int)(u:LI):Int:=if cks a s≠0 then cks a s else if(u.any λe=>decide (e∉a.al))=true then 9 else 0
theorem QpE {vw:O2}(h:ZG L w.heap va vm ve a)(T:QR L' w.heap vw u)(s:Int):
  Q6 prog 201 [.agg #[va,oF oG a.st,vm,ve],oF oG s,vw] w λr w'=>O5 [] w w'/\r=if QlA a s u≠0 then .tuple #[oF oG 0,oF oG 0,oF oG (QlA a s u)]else .tuple #[oF oG (flw a s u).1,oF oG (flw a s u).2,oF oG 0]:=by
 refine Zo func201 ?_;refine Qc<|Qe<|QV (us:=[va,oF oG a.st,vm,ve]) U λb3 w1 V hb J=>x Ql<|x Ql<|Qb<|Qd<|Qc<|Q9 J U U<|Qa<|ZM<|(Kg (h.I V) s).mono ?_;rintro r2 w2 ⟨rfl,O⟩;refine Qb ?_;have G:=V.D O;unfold QlA;refine Qm<|ZD U U<|xe<|QZ rfl (λE=>?_) (λE=>?_)
 ·refine Qm<|x Ql<|x Ql<|Qb<|Qk ⟨[_,_,_],oB,G,by rw[OU E,OU E];rfl⟩
 have hc:cks a s=0:=Lo.1 E;obtain⟨ho,h0,h1⟩:=QcE hc;rw[OT E];refine Qh<|Qd<|Qm<|x (Zx (l:=[]) (l':=[.tmp 3]))<|ZM<|(Qfx (q:=λe=>decide (e∉a.al)) (cap:=[.pointer (some ⟨b3,0,none⟩)]) (T.I G) (λe Y H=>QlB e Y ((J.I O).I H) ((h.al.I G).I H))).mono ?_;rintro r3 w3 ⟨rfl,ha⟩;refine xe ?_;have I:=G.D ha;refine QX rfl (λS=>?_) (λS=>?_)
 ·rw[OU S];refine Qc<|x Ql<|x Ql<|Qb<|Qk ⟨[_,_,_],oB,I,by rw[OU og];rfl⟩
 rw[OT (by rw[S];simp)];refine Qh<|Qc<|Q9 ((J.I O).I ha) U U<|Qa<|Qa<|ZM<|(QgC (h.ed.I I) (T.I I) ho s h0 h1).mono ?_;rintro r4 Y ⟨rfl,H⟩;refine Qa<|x (Zr U U) <|
  Zd rfl rfl<|x Ql<|Qb<|Qm<|Qa<|x Ql<|x Ql<|Qb<|Qk ⟨[_,_,_],oB,I.D H,U⟩
def enb (a:Q0)(s:Int):LI:=(Z5 a.ed s).map (·.2.1)
theorem QjI {l:List Ed}{k:Nat}(h:k<l.length):(l.take (k+1)).map (·.2.1)=(l.take k).map (·.2.1)++[(l[k]'h).2.1]:=by
 rw[List.take_add_one,LD h,Ls];rfl
theorem Qeg (h:ZG L w.heap va vm ve a)(s:Int):
  Q6 prog 194 [.agg #[va,oF oG a.st,vm,ve],oF oG s] w λr w'=>O5 [] w w'/\∃v,r=.tuple #[v,oF oG (cks a s)]/\(cks a s≠0->v=Zy)/\(cks a s=0->Qu 3 w.heap.size w' v (enb a s)):=by
 refine Zo func194 ?_;refine Qc<|Qe<|QV (us:=[va,oF oG a.st,vm,ve]) U λb2 w1 ha hz hf=>x Ql<|Qb<|Qd<|Qc<|Q9 hf U U<|Qa<|QN<|(Kg (h.I ha) s).mono ?_;rintro r2 w2 ⟨rfl,hg⟩;refine Qb ?_;have O:=ha.D hg;refine Qm<|ZD U U<|xe<|QZ rfl (λS=>?_) (λS=>?_)
 ·refine Qm<|x Ql<|Qb<|Qk ⟨[Zy,_],oA,O,Zy,U,λ_=>U,λe=>OW e S⟩
 have hc:cks a s=0:=Lo.1 S;obtain⟨G,h0,h1⟩:=QcE hc;have h2:=G.st1;rw[hc];refine Qh<|Qc<|Qb<|Qd<|Qc<|Q9 (hf.I hg) U U<|Qa<|QN<|(QaK (h.ed.I O) G.eds (λe he=>⟨(G.ed e he).1,ou (G.ed e he).2.1⟩) s h0 oa).mono ?_;rintro vo w3 ⟨hi,hE⟩;refine QL hE U<|Qa<|xe ?_;have hh:=O.D hi;have hj:=hh.size;have hl:=Vb a.ed s;have h3:=G.ed_le;refine Zj (Z5 a.ed s) λos H=>?_;rw[H]at hE hl;refine Qg<|QC (α:=Nat×O2) [(7,7),(9,9),(20,29)] (λz=>[(7,z.2),(20,oF oG z.1)]) (λz w'=>z.1<=os.length/\O5 [] w3 w'/\Qu 3 w3.heap.size w' z.2 ((os.take z.1).map (·.2.1))) (λz=>os.length - z.1) ol (0,nS) ⟨U,by rw[H];rfl,Z⟩ ⟨Ln _,O5.Z _ _,QI _ _ _ _⟩ ?_;rintro⟨k,v⟩ g w4 ⟨hk,J,I⟩;simp only[]at hk I;have h4:=J.size;refine Qc<|QY U U<|xe<|Qd<|QH U (λT=>?_) (λT=>?_)
 ·refine Qz<|Qm<|x Ql<|Qb ?_;rw[Lt (by rw[H]at T;omega)]at I;refine Qk ⟨[v,_],oA,hh.D J,v,U,λe=>OW U e,λ_=>?_⟩;unfold enb;rw[H];exact Zu I hj
 have E:k<os.length:=by rw[H]at T;omega
 refine Qh<|Qd<|Qg<|Qc<|xie (hE.I J) U U E λh5 hm=>x (Qw hm U U)<|Qe<|Qo (us:=[oF oG 0,oF oG 0,oF oG 0]) U λb9 w5 hn hp hq=>Qe<|Qj (us:=QE (os[k]'E)) hq U U U U oB λw6 hr hs =>
  xe ?_
 have V:O5 [] w4 w6:=hn.O hr hp;have ht:=Qn I V;refine Qv<|Qa<|Qs U hs U U<|Qe<|QA (us:=[[oF oG (os[k]'E).2.1]]) U U og oe ⟨rfl,rfl,Z⟩ λh6 w7 Y h7 hu=>?_;have hv:=Qn ht Y;have h8:=(V.D Y).size;have h9:((os.take k).map (·.2.1)).length<=131072:=by simp;omega
 refine Qe<|Q8 (news:=[oF oG (os[k]'E).2.1]) (L:=[]) hv U U U (hu.at oe) (by simp[Value.oneCell']) oa oa λv8 w8 hw hy hA=>Qb ?_;have hge:=Qi I;refine Qv<|QP U U<|Qa<|xe<|⟨(k+1,v8),oh,oA,E,((J.D V).D Y).then hy (λb hb=>.inr (hge b hb).1),?_⟩;simp only[];rw[QjI E];exact Qu.snoc hw
theorem Qc5 {v:O2}(h:QR L w.heap v l)(n:Int):
  Q6 prog 196 [v,oF oG n] w λr w'=>r=oF oG (J8 n none l)/\w'=w:=by
 have hc:=h.le;refine Zo func196 ?_;refine Qc<|Qb<|Qd<|Qm<|QL h U<|Qa<|xe<|Qg<|QC (α:=Nat) [(4,6),(9,32)] (λk=>[(9,oF oG k)]) (λk w'=>w'=w/\k<=l.length/\J8 n (pv l k) (l.drop k)=J8 n none l) (λk=>l.length - k) ol 0 La ⟨U,Ln _,U⟩ ?_;rintro k g S ⟨rfl,hk,E⟩;refine Qc<|QY U U<|xe<|Qd<|QH U (λT=>?_) (λT=>?_)
 ·refine Qz<|Qc<|Qb<|Qk ⟨[oF oG 0],La,?_,U⟩;rw[<-E,Lr oa];rfl
 have G:k<l.length:=oa
 have hd:=Zf G;rw[hd,J8]at E;refine Qh<|Qd<|Qg<|Qm<|xii h U U G λhe V=>x (QD V U)<|x Ql<|Qb<|Qd<|Q3 (α:=Bool) [(14,20)] (λz=>[(20,.bool z)]) (λz w'=>w'=S/\z=decide (l[k]<0\/n<=l[k])) ol ?_ ?_
 ·refine Qv<|Qa<|xb (YR U U) (λH=>?_) (λH=>?_)
  ·refine Qa<|Qr<|Qr<|Qr<|QJ U<|xe ?_;exact⟨true,La,U,by simp[H]⟩
  refine Qa<|Qa<|Qa<|x (Yw U U)<|QJ U<|xe ?_;exact⟨_,La,U,by simp[H]⟩
 rintro z g Y ⟨rfl,rfl⟩;refine QZ rfl (λI=>?_) (λI=>?_)
 ·refine Qc<|Qb<|Qk ⟨[oF oG 2],La,?_,U⟩;rw[<-E,OU I];rfl
 rw[OT I]at E;refine Qh<|Q3 (α:=Bool) [(21,31)] (λz=>[(31,.bool z)]) (λz w'=>w'=Y/\z=jm (pv l k) l[k]) ol ?_ ?_
 ·refine Qv<|Qa<|xb (Z6 U U) (λha=>?_) (λha=>?_)
  ·have hk1:((k:Int) - 1)=((k - 1:Nat):Int):=oa
   refine Qa<|Qa<|Qa<|Qa<|x (JH U U ⟨oa,oa⟩)<|xii (i:=k - 1) h U (by show Value.int _ ((k:Int) - 1)=_;rw[hk1]) oa λhf hb=>x (QD hb rfl)<|x (KT rfl rfl)<|QJ rfl<|xe<|⟨_,La,U,?_⟩;have:pv l k=some l[k - 1]:=by
    have J:k≠0:=oa
    simp[pv,J,show k - 1<l.length by omega]
   rw[this];rfl
  refine Qa<|Qr<|Qr<|Qr<|Qr<|Qr<|Qr<|Qr<|QJ U<|xe ?_;have J:k=0:=oa
  exact⟨false,La,U,by simp[pv,J,jm]⟩
 rintro z g w3 ⟨rfl,rfl⟩;refine QX rfl (λO=>?_) (λO=>?_)
 ·refine Qc<|Qb<|Qk ⟨[oF oG 5],La,?_,U⟩;rw[<-E,OU O];rfl
 rw[OT (by simp[O])]at E;refine Qh<|Qv<|QP U U<|Qa<|xe ?_;exact⟨k+1,oa,La,U,oa,by rw[Vu G];exact E⟩
open Go.RowKit
def upY (P:O4)(m:Nat)(dst:xF)(f:Fr)(K:xz):Result Next->Prop
 | .ok (.value v) w'=>K (QW f dst v) w'
 | .ok .skip w'=>K (QW f dst undef) w'
 | .ok (.enter g args) w'=>Calls P g args w' λe E=>match e with| .returned v=>K (QW f dst v) E|_=>False
 | .ok (.round l fn tmps assign body) w'=>RoundIn (fen none) (m - 1) P l fn tmps assign body w' λe E=>match e with| .returned v=>K (QW f dst v) E|_=>False
 | _=>False
def XOY (P:O4)(m:Nat)(o:Oper)(f:Fr)(w:O1)(K:xz):Prop:=upY P m o.dst f K ((execOp (ev f) o).run P w)
def JV (P:O4)(m:Nat)(ops:xE)(K:xz):xE->Fr->O1->Prop
 | [],f,w=>K f w
 | o::l,f,w=>bif Yd ops f o then XOY P m o f w (JV P m ops K l)else JV P m ops K l (QW f o.dst undef) w
section
variable {m:Nat}
theorem XOY.of_XO {o:Oper}{K':xz}(hK:∀f w,K f w->K' f w)(h:XO P o f w K):XOY P m o f w K':=by
 unfold XO at h;unfold XOY;generalize (execOp (ev f) o).run P w=r at h;cases r with
 | ok nx w' =>
  cases nx <;> simp only[upF]at h <;> simp only[upY]
  case value v=>exact hK _ _ h
  case skip=>exact hK _ _ h
  case enter g args =>
   refine Calls.mono h λe G E=>?_;cases e with
   | returned v=>exact hK _ _ E
   | panicked c=>exact E.elim
   | outgrown=>exact E.elim
 | halt x w'=>exact h.elim
theorem JV.pre {ops:xE}{K:xz}{l2:xE}:∀(E:xE) (f:Fr) (w:O1),XL P ops (λf w=>JV P m ops K l2 f w) E f w->JV P m ops K (E++l2) f w
 | [],f,w,h=>by unfold XL at h;exact h
 | o::E,f,w,h=>by
  unfold XL at h;show(bif Yd ops f o then XOY P m o f w (JV P m ops K (E++l2))else JV P m ops K (E++l2) (QW f o.dst undef) w);cases G:Yd ops f o with
  | false=>rw[G]at h;exact JV.pre E _ _ h
  | true=>rw[G]at h;exact XOY.of_XO (λf w h=>JV.pre E f w h) h
theorem JV.pre2 {o1 o2:Oper}{l2:xE}(h:XL P ops (λf w=>JV P m ops K l2 f w) [o1,o2] f w):JV P m ops K (o1::o2::l2) f w:=JV.pre [o1,o2] f w h
theorem JV.of_XL {l:xE}(h:XL P ops K l f w):JV P m ops K l f w:=by
 have:=JV.pre (m:=m) (l2:=[]) l f w h
 rwa [LQ]at this
theorem Qkz {o:Oper}{a:Act}{K':Act->O1->Prop}{Q:Exit->Act->O1->Prop}(h:Xg n ds a f)
  (hK:∀v w',K (QW f o.dst v) w'->K' (a.put o.dst v) w') (hx:XOY P m o f w K):o.wpIn (fen none) m P a w K' Q:=by
 unfold XOY at hx;refine⟨λ_ _=>trivial,?_⟩;have e:Oper.semAt (fen none).round a.eval o=execOp (ev f) o:=by rw[h.eval];rfl
 rw[e];generalize (execOp (ev f) o).run P w=r at hx;cases r with
 | ok nx w' =>
  cases nx <;> simp only[upY]at hx <;> simp only[Oper.uponIn]
  case value v=>exact hK v w' hx
  case skip=>exact hK _ w' hx
  case enter g args =>
   refine⟨λh=>by simp[Fence.wide]at h,?_⟩;refine(callsIn_wide (n:=m - 1)).2 (Calls.mono hx λe G E=>?_);cases e with
   | returned v=>exact hK v G E
   | panicked c=>exact E.elim
   | outgrown=>exact E.elim
  case round l fn tmps assign body =>
   refine⟨λh=>by simp[Fence.wide]at h,?_⟩;refine RoundIn.mono hx λe G E=>?_;cases e with
   | returned v=>exact hK v G E
   | panicked c=>exact E.elim
   | outgrown=>exact E.elim
 | halt x w'=>exact hx.elim
theorem QcX {Q:Exit->LN->Fr->O1->Prop}{all:xE}(G:∀o∈all,∀d,o.dst=some d->d<n)(f0:Fr):
  ∀(l:xE) (k:Nat) (a:Act) (f:Fr) (w:O1),(∀j,l[j]?=all[k+j]?)->Xg n ds a f->(∀t,Yj all t=false->f t=f0 t) ->
   JV P m all (λf w=>Q .normal ds f w) l f w ->
   wpOpsIn (fen none) m P all.toArray (λe a' w'=>∃ds' f',Xg n ds' a' f'/\(∀t,Yj all t=false->f' t=f0 t)/\Q e ds' f' w') (oR k l.length) a w
 | [],_,a,f,w,_,E,H,h=>⟨ds,f,E,H,by unfold JV at h;exact h⟩
 | o::l,k,a,f,w,hl,E,H,h=>by
  have J:all[k]?=some o:=by simpa using(hl 0).symm
  have I:o∈all:=Mt J;have ih:=λa f w=>QcX (Q:=Q) G f0 l (k+1) a f w (λj=>by have:=hl (j+1);simpa[ON,Nat.add_comm 1 j]using this);have next:∀v,(∀t,Yj all t=false->QW f o.dst v t=f0 t):=λv t O=>(Xd (JF I O) v).D (H t O);simp only[oW,OB,wpOpsIn,o0,J];rw[VY E G o];unfold JV at h;cases S:Yd all f o with
  | false =>
   rw[S]at h;exact⟨λ_ _=>trivial,ih _ _ _ (E.put (G o I) _) (next _) h⟩
  | true =>
   rw[S]at h;exact Qkz E (λv w' hx=>ih _ _ _ (E.put (G o I) v) (next v) hx) h
theorem VL {Q:Exit->LN->Fr->O1->Prop}{l:xE}(E:X0 n l=true)(h:JV P m l (λf w=>Q .normal ds f w) l f w):WG none m P n (.region id l.toArray false) Q ds f w:=by
 unfold WG;intro a G;refine wpIn_region ?_;have:=QcX (m:=m) (Xt E) f l 0 a f w oe G (λ_ _=>rfl) h;simpa[List.range_eq_range',Jh]using this
theorem xy {rest:xE}{pS:String}{x:O3}{l:Nat}{R:Ending->O1->Prop}
  (hx:ev f x=.func (.yield l) #[] #[]) (E:YieldAt (fen none) (m - 1) P l #[ev f y] w R) (hK:∀e w',R e w'->∃v,e=.returned v/\JV P m ops K rest (QW f d v) w')
  (G:Yd ops f ⟨d,.call ⟨.value x,#[y],at_⟩,ty,pS,af,gd⟩=true:=by rfl):
  JV P m ops K (⟨d,.call ⟨.value x,#[y],at_⟩,ty,pS,af,gd⟩::rest) f w:=by
 obtain⟨fn,tmps,assign,body,H,I⟩:=E;have J:(execOp (ev f) ⟨d,.call ⟨.value x,#[y],at_⟩,ty,pS,af,gd⟩).run P w=.ok (.round l fn tmps assign body) w:=by
  simp[execOp,resolve,hx,Deferred.ofValue,invoke,H]
 unfold JV;rw[G];simp only[XOY,J,upY,cond_true];exact I.mono λe w' h=>by obtain⟨v,rfl,O⟩:=hK e w' h;exact O
end
attribute [irreducible] JV
structure Lw (B:Nat)(L:LN)(w w':O1):Prop where
 os:w'.os=w.os
 tape:w'.tape=w.tape
 output:w'.output=w.output
 size:w.heap.size<=w'.heap.size
 low:∀k,k<B->k∉L->w'.heap[k]?=w.heap[k]?
theorem Lw.refl (B:Nat)(L:LN)(w:O1):Lw B L w w:=⟨U,U,U,Lx _,λ_ _ _=>U⟩
theorem Lw.D {B:Nat}{L:LN}{E w w':O1}(h:Lw B L E w)(k:Lw B L w w'):Lw B L E w' :=
 ⟨k.os.D h.os,k.tape.D h.tape,k.output.D h.output,LP h.size k.size,λi hi G=>(k.low i hi G).D (h.low i hi G)⟩
theorem O5.lw {E:O1}(h:O5 L w w')(k:Lw w.heap.size L w' E):O5 L w E :=
 ⟨k.os.D h.os,k.tape.D h.tape,k.output.D h.output,LP h.size k.size,λi hi G=>(k.low i hi G).D (h.block i hi G)⟩
structure KQ (B:Nat)(L:LN)(W W':O1):Prop where
 lw:Lw B L W W'
 other:∀(k:Nat) (o:Obj),W.heap[k]?=some o->o.isCells=false->W'.heap[k]?=some o
theorem KQ.refl (B:Nat)(L:LN)(w:O1):KQ B L w w:=⟨Lw.refl _ _ _,λ_ _ h _=>h⟩
theorem KQ.D {B:Nat}{L:LN}{E w w':O1}(h:KQ B L E w)(k:KQ B L w w'):KQ B L E w':=⟨h.lw.D k.lw,λi o hi G=>k.other i o (h.other i o hi G) G⟩
theorem KQ.J {W:O1}(h:O5 X W W')(S:B<=W.heap.size)(H:∀b∈X,(b∈L\/B<=b)/\∃o:Obj,W.heap[b]?=some o/\o.isCells=true):KQ B L W W':=by
 refine⟨⟨h.os,h.tape,h.output,h.size,λk G J=>h.block k oa (λhx=>?_)⟩,λk o G O=>?_⟩
 ·rcases(H k hx).1 with E|E
  ·exact J E
  omega
 refine(h.block k (LK.1 G).1 (λhx=>?_)).D G;obtain⟨T,E,I⟩:=(H k hx).2;rw[G]at E;cases E;rw[O]at I;cases I
theorem KQ.I {W:O1}(h:O5 [] W W')(E:B<=W.heap.size):KQ B L W W':=KQ.J h E (λ_ G=>by cases G)
theorem Q7.cells (h:Q7 H b T cs):∃o:Obj,H[b]?=some o/\o.isCells=true:=⟨_,h,U⟩
theorem KQ.blk {W:O1}(h:O5 [b] W W')(E:B<=W.heap.size)(G:Q7 W.heap b T cs)(H:b∈L\/B<=b):KQ B L W W' :=
 KQ.J h E (λc I=>by
  have e:c=b:=by simpa using I
  subst e;exact⟨H,G.cells⟩)
def YB (B:Nat)(I:xA):Prop:=∀W W' X,I W->O5 X W W'->(∀r∈X,B<=r/\∃o:Obj,W.heap[r]?=some o/\o.isCells=false)->I W'
theorem YB.own {I:β->O1->Prop}(h:∀s,YB B (I s)):OwnFrom B I:=λs W W' row G H J =>
 h s W W' _ G (O5.of_grown H) (λr E=>J r (by cases row <;> simp at E ⊢;exact E.symm))
theorem YB.blk :YB B (λW=>Q7 W.heap b T cs):=λW W' X h G H=>h.J G (λI=>by
 obtain⟨_,o,E,J⟩:=H b I;unfold Q7 at h;rw[h]at E;cases E;cases J)
theorem YB.and {I J:xA}(h:YB B I)(k:YB B J):YB B (λW=>I W/\J W):=λW W' X hi E G=>⟨h W W' X hi.1 E G,k W W' X hi.2 E G⟩
theorem YB.ex {I:β->O1->Prop}(h:∀z,YB B (I z)):YB B (λW=>∃z,I z W):=λW W' X ⟨z,hi⟩ E G=>⟨z,h z W W' X hi E G⟩
theorem YB.pure (p:Prop):YB B (λ_=>p):=λ_ _ _ h _ _=>h
theorem YB.J (I:w.heap.size<=B):YB B (λW=>O5 L w W):=λW W' X h E G=>h.then E (λb H=>.inr (ou (G b H).1))
theorem QT {base e:Nat}{v:O2}(h:w.ownsRow base e sz v n cs):∀b∈ob v,∃o:Obj,w.heap[b]?=some o/\o.isCells=true:=by
 intro b E;rcases h.2 with⟨G,_⟩|⟨g,cap,cur,G,I,H,_⟩
 ·subst G;simp[ob]at E
 subst G;simp[ob]at E;subst E;exact⟨_,H,U⟩
theorem YB.row {base e:Nat}{v:O2}:YB B (λW=>W.ownsRow base e sz v n cs):=λW W' X h H I=>Qf h H (λb J hx=>by
 obtain⟨_,o,O,S⟩:=I b hx;obtain⟨T,E,G⟩:=QT h b J;rw[O]at E;cases E;rw[S]at G;cases G)
theorem Qnn {m:Nat}{Q:Exit->LN->Fr->O1->Prop}{g:O3}{p:Nat}{assign body:Code}(L:LN)(T:1<=m)
    [hF:Fu P gf fn]  (hg:ev f g=.func (.func gf) #[] capt.toArray) {enc:α->O2} {S:List α->Prop}  (hp:p<n)
  (he:SeqStopsK (fen none) (m - 1) P gf capt.toArray (λx=>#[enc x]) (Lw w.heap.size L) S (λ_=>True) N w)
  (I:List α->O1->Prop) (hI:∀s,YB w.heap.size (I s)) (h0:I [] w) (A:Fr->α->Fr->O1->Prop) (hA:∀x E,YB w.heap.size (A f x E))
  (hb:∀l pre x W,I pre W->WG (some l) (m - 1 - 1) P n assign (Qdd (λV E W'=>V=[]/\KQ w.heap.size L W W'/\I pre W'/\A f x E W') (λ_ _ _ _=>False)) [] (upd f p (enc x)) W)
  (hc:∀l pre x E W,I pre W->A f x E W->pre.length<N->WG (some l) (m - 1 - 1) P n body (Qdd (λ_ _ W'=>KQ w.heap.size L W W'/\I (pre++[x]) W') (λ_ _ _ _=>False)) [] E W)
  (hf:∀D xs W,w.heap.size<=D->S xs->I xs W->W.heap[D]?=some (.deferred (some []))->Q .normal (D::ds) f W):
  WG none m P n (.rangeFunc g #[p] assign body) Q ds f w:=by
 unfold WG at hb hc ⊢;intro a O;have eg:∀args w,(callFunc gf args).run P w=.ok (.enter gf args) w:=by
  intro args w;have T:¬fn.name = "runtime.NumGoroutine" := by simpa using hF.nm
  have J:¬fn.body=none:=by have:=hF.b;intro e;rw[e]at this;cases this
  simp[callFunc,hF.f,T,J]
 have keep:∀{W W':O1},KQ w.heap.size L W W'->KeepsFrom w.heap.size W W':=λh=>⟨h.lw.size,λk o _ hk ho=>h.other k o hk ho⟩;refine wpIn_rangeFunc_ownH (F:=fen none) U T (gf:=gf) (lb:=capt.toArray) (by rw[O.eval];exact hg) Z eg he (λh k=>h.D k)
  (λW l o o' hl ho _ _=>⟨U,U,U,oe,λk hk _=>World.putObj_heap_other oa⟩) (Below.refl _ _) (λ_=>rfl) I (λ_ _ _=>False) (YB.own hI) (λ_ _ _ _ _ hs _ _=>hs) h0
  (λx a' W=>∃E,Xg n [] a' E/\A f x E W) (λx a'=>YB.own λ_=>YB.ex λE=>YB.and (YB.pure _) (hA x E)) ?_ ?_ ?_ ?_
 ·intro l pre x W K hi hK;have hr:Xg n [] { tmps:=((#[p]:Array Nat).zip #[enc x]).foldl (λt (p,v)=>t.setIfInBounds p v) a.tmps,defers:=[] } (upd f p (enc x)):=by
   have J:Xg n [] { a with defers:=[] } f:=⟨O.size,U,O.get⟩
   have G:=J.put (dst:=some p) (λd e=>by cases e;exact hp) (enc x);have e:((#[p]:Array Nat).zip #[enc x]).foldl (λt (p,v)=>t.setIfInBounds p v) a.tmps=a.tmps.setIfInBounds p (enc x):=oe
   rw[e];exact G
  refine wpIn_mono (hb l pre x W hi _ hr) ?_;rintro e a' W' ⟨V,E,J,_,G⟩;cases e with
  | normal=>obtain⟨rfl,Y,H,h6⟩:=G;exact hK a' W' (keep Y) Y.lw H ⟨E,J,h6⟩
  | exit id=>exact G.elim
  | goto l=>exact G.elim
  | ret=>exact G.elim
  | panic ch=>exact G.elim
  | outgrown=>exact G.elim
 ·rintro l pre x a' W _ _ hi ⟨E,J,G⟩ hh;refine wpIn_mono (hc l pre x E W hi G hh a' J) ?_;rintro e hj W' ⟨V,hm,Y,_,H⟩;cases e with
  | normal=>exact⟨keep H.1,H.1.lw,H.2⟩
  | exit id=>exact H.elim
  | goto l=>exact H.elim
  | ret=>exact H.elim
  | panic ch=>exact H.elim
  | outgrown=>exact H.elim
 ·intro D xs W hD hS hi hd;exact⟨D::ds,f,⟨O.size,by rw[show coll (D::ds)={ target:=.collected D,args:=#[] }::coll ds from rfl,O.defers],O.get⟩,λ_ _=>rfl,hf D xs W hD hS hi hd⟩
 intro D c pre W _ _ h _;exact h.elim
def Qpt (P:O4)(t:Nat):Option (LV×xw):=match P.info? t,P.underlying t with
 | some it,some (.struct fs)=>match it.zero,fs.toList.mapM (λf=>(P.info? f.type).map λi=>(f.offset,i.size))with
  | some (.agg zs),some pl=>some (zs.toList,pl)
  | _,_=>none
 | _,_=>none
class Bw (P:O4)(t:Nat)(zs:outParam (LV))(pl:outParam xw):Prop where
 h:Qpt P t=some (zs,pl)
 b:pl.all (λx=>x.1+x.2<=zs.length)=true
def QbN:LV->Nat->LV->LV
 | zs,_,[]=>zs
 | zs,o,u::us=>QbN (zs.set o u) (o+1) us
def Qkt (pl:xw)(zs:LV):List (Nat×LV)->LV
 | []=>zs
 | (j,us)::ps=>Qkt pl (QbN zs (pl.getD j (0,0)).1 us) ps
def Qnt:List (Nat×O2)->List (Nat×LV)->Prop
 | [],[]=>True
 | (j,v)::vs,(j',us)::uss=>v.cells=us.toArray/\j=j'/\Qnt vs uss
 | _,_=>False
theorem QbM:∀(us zs:LV) (o:Nat),(QbN zs o us).length=zs.length
 | [],_,_=>rfl
 | u::us,zs,o=>by rw[QbN,QbM us,Mc]
theorem jH (o:Nat):∀(us:LV) (k:Nat) (zs:LV),(us.zipIdx k).foldl (λ(cs:Array O2) (x:O2×Nat)=>cs.setIfInBounds (o+x.2) x.1) zs.toArray=(QbN zs (o+k) us).toArray
 | [],_,_=>rfl
 | u::us,k,zs=>by
  rw[NK,LZ,QbN];have:=jH o us (k+1) (zs.set (o+k) u);rw[<-List.setIfInBounds_toArray]at this;exact this
theorem Qjp {pl:xw}:∀(vs:List (Nat×O2)) (uss:List (Nat×LV)) (zs:LV),Qnt vs uss->uss.all (λp=>p.1<pl.length && (p.2.length == (pl.getD p.1 (0,0)).2))=true ->
  (∀x∈pl,x.1+x.2<=zs.length)->Instr.fill (pl.toArray[·]?) zs.toArray vs=some (Qkt pl zs uss).toArray
 | [],[],zs,_,_,_=>rfl
 | [],_::_,_,h,_,_=>h.elim
 | _::_,[],_,h,_,_=>h.elim
 | (j,v)::vs,(j',us)::uss,zs,H,G,I=>by
  obtain⟨O,rfl,H⟩:=H;simp only[oS,oK,decide_eq_true_eq,beq_iff_eq]at G;obtain⟨⟨E,hl⟩,G⟩:=G;have J:pl.getD j (0,0)=pl[j]'E:=by simp[oQ,E]
  have T:=I _ (Ll E);unfold Instr.fill;simp only[o0,Of E,O];rw[J]at hl;rw[OT (by simp only[Od,hl,ne_eq,not_true,decide_false,Bool.false_or,decide_eq_true_eq];omega)];have e:=jH (pl[j]'E).1 us 0 zs;rw[Ns]at e;have e2:(us.toArray.zipIdx).foldl (λ(cs:Array O2) (x:O2×Nat)=>cs.setIfInBounds ((pl[j]'E).1+x.2) x.1) zs.toArray=(QbN zs (pl[j]'E).1 us).toArray:=by
   rw[<-e];simp
  rw[e2,Qkt,J];have S:=Qjp vs uss (QbN zs (pl[j]'E).1 us) H G (λx hx=>by rw[QbM];exact I x hx);simpa only[o0]using S
theorem Qd2 {zs:LV}{pl:xw}(h:Qpt P t=some (zs,pl))(I:pl.all (λx=>x.1+x.2<=zs.length)=true)(vs:List (Nat×O2))(uss:List (Nat×LV))(J:Qnt vs uss)
  (O:uss.all (λp=>p.1<pl.length && (p.2.length == (pl.getD p.1 (0,0)).2))=true):P.built t vs=some (Qkt pl zs uss).toArray:=by
 have S:∀x∈pl,x.1+x.2<=zs.length:=λo T=>oz (Mj.1 I o T)
 unfold Qpt at h;unfold Program.built;cases hi:P.info? t with
 | none=>simp[hi]at h
 | some it =>
  cases H:P.underlying t with
  | none=>simp[hi,H]at h
  | some dd =>
   simp only[hi,H]at h;cases dd <;> simp only[]at h <;> try (cases h)
   case struct fs =>
    cases E:it.zero with
    | none=>simp[E]at h
    | some z =>
     cases z <;> simp only[E]at h <;> try (cases h)
     rename_i za;cases G:fs.toList.mapM (λf=>(P.info? f.type).map λi=>(f.offset,i.size))with
     | none=>simp[G]at h
     | some pl' =>
      simp only[G,Option.some.injEq,Prod.mk.injEq]at h;obtain⟨rfl,rfl⟩:=h;simp only[E,G,Value.cells];exact Qjp vs uss za.toList J O S
theorem Zn {pS:String}{zs:LV}{pl:xw}[h:Bw P t zs pl]{parts:List (Nat×O3)}(uss:List (Nat×LV))
  (E:Qnt (parts.map λx=>(x.1,ev f x.2)) uss) (G:uss.all (λp=>p.1<pl.length && (p.2.length == (pl.getD p.1 (0,0)).2))=true:=by rfl):
  (execOp (ev f) ⟨d,.build t parts.toArray,ty,pS,af,gd⟩).run P w=.ok (.value (.agg (Qkt pl zs uss).toArray)) w:=by
 have H:=Qd2 h.h h.b _ uss E G;have I:=run_build (P:=P) w t (parts.toArray.map λ(i,x)=>(i,ev f x)) _ (oz H);simp only[execOp,Sem.run_bind,I,Result.andThen_ok,Sem.run_pure]
def cnE (p:Ed->Bool)(es:List Ed):Int:=((es.filter p).length:Int)
def gA (n:Nat)(f:Nat->Int):LI:=(oT n).map f
theorem Qo0 (n:Nat)(f:Nat->Int):(gA n f).length=n:=by simp[gA]
theorem Qjk {f:Nat->Int}(h:i<(gA n f).length):(gA n f)[i]'h=f i:=by simp[gA]
theorem QoZ {f g:Nat->Int}{u:Int}(G:u=g i)(h:∀j,j<n->j≠i->g j=f j):(gA n f).set i u=gA n g:=by
 apply Mv
 ·simp[gA]
 intro k H E;rw[Nf,Qjk E];by_cases e:i=k
 ·rw[OU e,G,e]
 rw[OT e,Qjk];exact(h k (by simpa[gA]using E) (Ne.symm e)).symm
def fS (es:List Ed)(s:Nat):Int:=cnE (λe=>decide (e.1<(s:Int))) es
section
variable {pS:String}
theorem Qix [h1:Ja P t]{x:O3}{g E:Nat->Int}{u:Int}(G:Q7 w.heap b T ((gA n g).map (.int .i64)))(hx:ev f x=.pointer (some ⟨b,0+i*1,none⟩))(H:ev f y=oF oG u)(hi:i<n)(I:(gA n g).set i u=gA n E)
  (hK:∀w',O5 [b] w w'->Q7 w'.heap b T ((gA n E).map (.int .i64))->K (QW f d undef) w'):XO P ⟨d,.store t x y,ty,pS,af,gd⟩ f w K :=
 Kn G hx H (by rw[Qo0];exact hi) λw' J O=>hK w' J (by rw[<-I];exact O)
end
open Go.RowKit
section
variable {pS:String}{l:xE}
end
def V0 {α:Type}(f:Nat->α)(i:Nat)(x:α):Nat->α:=λj=>if j=i then x else f j
theorem Yu (f:Nat->α)(i:Nat)(x:α):V0 f i x i=x:=by simp[V0]
theorem YZ (f:Nat->α)(x:α)(h:j≠i):V0 f i x j=f j:=by simp[V0,h]
theorem QhA (k:α->β)(n:Nat)(f:Nat->α)(i:Nat)(x:α):((oT n).map λj=>k (f j)).set i (k x)=(oT n).map λj=>k (V0 f i x j):=by
 apply Mv
 ·simp
 intro j E G;rw[Nf];by_cases e:i=j
 ·subst e;simp[Yu]
 rw[OT e];simp[YZ _ _ (Ne.symm e)]
structure VV (base:Nat)(w:O1)(n:Nat)(f:Nat->O2)(g:Nat->LI):Prop where
 own:∀i,i<n->Qu 3 base w (f i) (g i)
 dj:∀i j,i<n->j<n->i≠j->Dj (f i) (f j)
theorem VV.app {base:Nat}{f:Nat->O2}{g:Nat->LI}(h:VV base w n f g)(hi:i<n)(O:Qu 3 base w' v' l)(S:O5 (ob (f i)) w w')
  (T:∀b∈ob v',b∈ob (f i)\/w.heap.size<=b):VV base w' n (V0 f i v') (V0 g i l):=by
 refine⟨λj E=>?_,λj k E H G=>?_⟩
 ·by_cases e:j=i
  ·subst e;rw[Yu,Yu];exact O
  rw[YZ _ _ e,YZ _ _ e];exact Qf (h.own j E) S (h.dj j i E hi e)
 have key:∀j,j<n->j≠i->Dj v' (f j):=λj E e b V I=>by
  rcases T b V with J|J
  ·exact h.dj i j hi E (Ne.symm e) b J I
  have:=Zb (h.own j E) b I;omega
 by_cases e1:j=i
 ·subst e1;rw[Yu,YZ _ _ (Ne.symm G)];exact key k H (Ne.symm G)
 rw[YZ _ _ e1];by_cases e2:k=i
 ·subst e2;rw[Yu];exact(key j E e1).symm
 rw[YZ _ _ e2];exact h.dj j k E H G
theorem VV.J {base:Nat}{f:Nat->O2}{g:Nat->LI}(h:VV base w n f g)(E:O5 X w w')(G:∀i,i<n->∀b∈ob (f i),b∉X):VV base w' n f g :=
 ⟨λi hi=>Qf (h.own i hi) E (G i hi),h.dj⟩
theorem VV.I {base:Nat}{f:Nat->O2}{g:Nat->LI}(h:VV base w n f g)(E:O5 [] w w'):VV base w' n f g:=h.J E (λ_ _ _ _=>oe)
def Y7 (es:List Ed)(s:Nat):LI:=(es.filter λe=>decide (e.2.2=(s:Int))).map (·.1)
theorem QdI (es:List Ed)(e:Ed)(E:0<=e.2.2):∀s,V0 (Y7 es) e.2.2.toNat (Y7 es e.2.2.toNat++[e.1]) s=Y7 (es++[e]) s:=by
 intro s;unfold Y7;rw[L6,Ls];by_cases h:s=e.2.2.toNat
 ·subst h;rw[Yu];have:e.2.2=(e.2.2.toNat:Int):=oa
  simp[<-this]
 rw[YZ _ _ h];have:¬e.2.2=(s:Int):=oa
 simp[this]
theorem Qgy {s:Nat}{p:Int}(h:p∈Y7 es s):∃e∈es,e.1=p/\e.2.2=(s:Int):=by
 unfold Y7 at h;simp only[Oz,OF,decide_eq_true_eq]at h;obtain⟨e,⟨E,G⟩,H⟩:=h;exact⟨e,E,H,G⟩
theorem qm (es:List Ed)(s:Nat):(Y7 es s).length<=es.length:=by
 unfold Y7;rw[Lh];exact Ml _ _
def bwE (s:Int)(st:LI×LI)(p:Int):LI×LI:=if O6 st.1 p.toNat<0 then(st.1.set p.toNat (O6 st.1 s.toNat+1),st.2++[p])else st
def zh (n:Nat)(to:LI):LI:=(oT n).map λi:Nat=>if(i:Int)∈to then 0 else -1
structure QkU (n:Nat)(o q:LI):Prop where
 len:o.length=n
 q:∀x∈q,0<=x/\x<(n:Int)
 le:∀x∈o,-1<=x/\x+(neg o:Int)<=n
theorem Qov (l:LI):neg l<=l.length:=Ml _ _
theorem Qpu {p:Int}{st:LI×LI}(h:QkU n st.1 st.2)(V:0<=s/\s<(n:Int))(E:0<=O6 st.1 s.toNat)(J:0<=p/\p<(n:Int)):
  QkU n (bwE s st p).1 (bwE s st p).2/\neg (bwE s st p).1+(bwE s st p).2.length=neg st.1+st.2.length/\0<=O6 (bwE s st p).1 s.toNat:=by
 unfold bwE;have hl:=h.len;have G:p.toNat<st.1.length:=oa
 have O:s.toNat<st.1.length:=oa
 by_cases H:O6 st.1 p.toNat<0
 ·rw[OU H];have S:st.1[p.toNat]'G<0:=by rw[ZE G];exact H
  have Y:=h.le _ (Ks O);have ha:=UB st.1 p.toNat (O6 st.1 s.toNat+1) G S oa;refine⟨⟨by simp[hl],λx hx=>?_,λx hx=>?_⟩,?_,?_⟩
  ·simp only[oU,oI]at hx;rcases hx with hx|rfl
   ·exact h.q x hx
   exact J
  ·simp only[]at hx ⊢;rcases MS hx with I|I
   ·have:=h.le x I;omega
   subst I;omega
  ·simp only[oM,oO];omega
  simp only[];have T:s.toNat≠p.toNat:=λe=>by rw[e]at E;omega
  have:O6 (st.1.set p.toNat (O6 st.1 s.toNat+1)) s.toNat=O6 st.1 s.toNat:=by
   unfold O6;simp[oQ,List.getElem?_set_ne (Ne.symm T)]
  rw[this];exact E
 rw[OT H];exact⟨h,rfl,E⟩
theorem UX (n:Nat)(to:LI):(zh n to).length=n:=by simp[zh]
theorem Qpv {to:LI}(h:∀x∈to,0<=x/\x<(n:Int)):QkU n (zh n to) to:=by
 refine⟨UX n to,h,λx hx=>?_⟩;have E:=Qov (zh n to);rw[UX]at E;unfold zh at hx;simp only[Oz]at hx;obtain⟨i,_,rfl⟩:=hx;split <;> omega
theorem Qm9 {to:LI}{x:Int}(h:0<=x/\x<(n:Int))(hx:x∈to):O6 (zh n to) x.toNat=0:=by
 have E:x.toNat<(zh n to).length:=by rw[UX];omega
 rw[<-ZE E];have:((x.toNat:Nat):Int)=x:=oa
 simp[zh,this,hx]
def QpD (o q:LI):Prop:=∀x∈q,0<=O6 o x.toNat
theorem Qko {p:Int}{st:LI×LI}(h:QkU n st.1 st.2)(I:0<=O6 st.1 s.toNat)(J:0<=p/\p<(n:Int))(E:QpD st.1 st.2):QpD (bwE s st p).1 (bwE s st p).2:=by
 unfold bwE;have H:p.toNat<st.1.length:=by have:=h.len;omega
 by_cases G:O6 st.1 p.toNat<0
 ·rw[OU G];intro x hx;simp only[]at hx ⊢;have e1:O6 (st.1.set p.toNat (O6 st.1 s.toNat+1)) x.toNat=if x.toNat=p.toNat then O6 st.1 s.toNat+1 else O6 st.1 x.toNat:=by
   by_cases e:x.toNat=p.toNat
   ·rw[OU e,e];unfold O6;simp[oQ,H]
   rw[OT e];unfold O6;simp[oQ,List.getElem?_set_ne (Ne.symm e)]
  rw[e1];split
  ·omega
  rename_i e;simp only[oU,oI]at hx;rcases hx with hx|rfl
  ·exact E x hx
  exact OW U e
 rw[OT G];exact E
theorem Qh5 (n:Nat):(oN n (nS).cells.toList).flatten=(oT n).map (λ_=>nS):=by
 apply Mv
 ·simp[Value.cells]
 intro i E G;simp[Value.cells]
theorem Qgx (n:Nat):(oN n (oF oG 0).cells.toList).flatten=(gA n (λj=>if j<0 then -1 else 0)).map (Value.int .i64):=by
 apply Mv
 ·simp[Value.cells,gA]
 intro i E G;simp[Value.cells,gA]
theorem QbQ {rv:Nat->O2}(hi:i<n):((oT n).map rv)[0+i*1]?=some (rv i):=by simp[hi]
abbrev Lf:=List Bool
def lft (l:Lf)(s:Int):Bool:=l.getD s.toNat false
def cut (l:Lf)(s:Int):Lf:=l.set s.toNat false
def Ve (ul:LI)(lf:Lf)(out:xx)(e:Ed):xx:=
 if lft lf e.1=false\/lft lf e.2.2=true\/e.2.1∉ul then out else if out.getLast?.map (·.1)=some e.1 then out else out++[(e.1,e.2.1)]
def lost (a:Q0)(ul:LI)(lf:Lf):xx:=a.ed.foldl (Ve ul lf) []
def dsE (lf:Lf)(x:Int)(z:LI×LI)(y:Int):LI×LI:=if lft lf y=true/\O6 z.1 y.toNat<0 then(z.1.set y.toNat (O6 z.1 x.toNat+1),z.2++[y])else z
def dsL (es:List Ed)(lf:Lf):Nat->Nat->LI×LI->LI×LI
 | 0,_,z=>z
 | f+1,i,z=>if i<z.2.length then dsL es lf f (i+1) ((Y7 es (O6 z.2 i).toNat).foldl (dsE lf (O6 z.2 i)) z)else z
def ds1 (lf:Lf)(z:LI×LI)(x:Int):LI×LI:=if lft lf x=true then(z.1.set x.toNat 0,z.2++[x])else z
def ds0 (a:Q0)(lf:Lf):LI×LI:=a.mr.foldl (ds1 lf) (oN a.st.toNat (-1),[])
def dsts (a:Q0)(lf:Lf):LI:=(dsL a.ed lf a.st.toNat 0 (ds0 a lf)).1
def VO (lf:Lf):Nat->LI->LI
 | _,[]=>[]
 | i,d::l=>if lf.getD i false=true/\d<0 then(i:Int)::VO lf (i+1) l else VO lf (i+1) l
def nxs (a:Q0)(ul:LI)(lf:Lf):LI:=if(lost a ul lf).length≠0 then(lost a ul lf).map (·.1)else VO lf 0 (dsts a lf)
def ya (a:Q0)(ul:LI):Nat->Lf->Lf
 | 0,lf=>lf
 | f+1,lf=>if(nxs a ul lf).length=0 then lf else ya a ul f ((nxs a ul lf).foldl cut lf)
def lf0 (n:Nat)(fb:LI):Lf:=fb.foldl cut (oN n true)
def QaF (a:Q0)(fb ul:LI):Lf:=ya a ul (a.st.toNat+1) (lf0 a.st.toNat fb)
def rstr (a:Q0)(lf:Lf):Q0:=⟨a.al,a.st,a.mr,a.ed.filter λe=>lft lf e.2.2⟩
def QhP (a:Q0)(lf:Lf):Q0:=if a.st=0\/lft lf 0=false then⟨a.al,0,[],[]⟩else Yr (rstr a lf)
def Qaw (a:Q0)(fb ul:LI):Q0:=QhP a (QaF a fb ul)
def fbs (s:Spc):LI:=s.fb.map (·.st)
def suA (c:Zt):Q0:=Qaw (spc c).a (fbs (spc c)) (unc c.ev)
def orB (b:Nat)(k:Nat):Nat:=b ||| (1 <<< k)
def rqB (x:YV):Nat->Nat->List YV->Nat
 | _,b,[]=>b
 | k,b,y::l=>rqB x (k+1) (if(y.a.al.any λe=>decide (e∈x.a.al))=true then orB b k else b) l
def prB (ls:xx):Nat:=ls.foldl (λb l=>orB b l.1.toNat) 0
def srR (c:Zt):LN:=c.rq.map λx=>rqB x 0 0 c.co
def srX (c:Zt):LN:=c.ex.map λx=>prB x.ls
def srC (c:Zt):LN:=c.cs.map λx=>prB x.ts
def srK (c:Zt)(k:Int):LN:=if k=1 then srR c else if k=2 then srX c else srC c
structure VW where
 kd:Int
 ix:Int
 co:LI
def VN (k:Int):Nat->LN->List VW
 | _,[]=>[]
 | i,b::l=>⟨k,i,setK b 8⟩::VN k (i+1) l
def O9 (c:Zt):List VW:=VN 1 0 (srR c)++(VN 2 0 (srX c)++VN 3 0 (srC c))
def sets (c:Zt):LN:=srR c++(srX c++srC c)
def Qrl (c:Zt):Nat:=(sets c).foldl (λl b=>l &&& (65535 ^^^ b)) (2 ^ c.co.length - 1)
def rem (c:Zt):LI:=setK (Qrl c) 8
def mdE (c:Zt)(m:VW):Int:=if Zi c≠0 then Zi c else if m.kd<1\/3<m.kd then 11 else if m.ix<0\/((srK c m.kd).length:Int)<=m.ix then 10 else if m.co=setK ((srK c m.kd).getD m.ix.toNat 0) 8 then 0 else 13
structure Prt where
 co:LI
 rq:LI
 ex:LI
 cs:LI
def chs (l:List YV)(ix:LI):List YV:=ix.map λi=>l.getD i.toNat ⟨.empty,⟨[],0,[],[]⟩⟩
def ixP (co:LI)(ls:xx):xx:=ls.map λl=>((co.idxOf l.1:Int),l.2)
def mis (co:LI)(ls:xx):Bool:=ls.any λl=>decide (l.1∉co)
def Qlw (c:Zt)(p:Prt):List U0:=p.ex.map λi=>⟨(c.ex.getD i.toNat ⟨.empty,[]⟩).nm,ixP p.co (c.ex.getD i.toNat ⟨.empty,[]⟩).ls⟩
def Qly (c:Zt)(p:Prt):List xL:=p.cs.map λi=>⟨(c.cs.getD i.toNat ⟨.empty,[],0⟩).nm,ixP p.co (c.cs.getD i.toNat ⟨.empty,[],0⟩).ts,(c.cs.getD i.toNat ⟨.empty,[],0⟩).bd⟩
def Qf3 (c:Zt)(p:Prt):Zt:=⟨c.ev,chs c.co p.co,chs c.rq p.rq,Qlw c p,Qly c p⟩
def Qn8 (c:Zt)(p:Prt):Bool:=(p.ex.any λi=>mis p.co (c.ex.getD i.toNat ⟨.empty,[]⟩).ls) || (p.cs.any λi=>mis p.co (c.cs.getD i.toNat ⟨.empty,[],0⟩).ts)
def ji (c:Zt)(p:Prt):Int :=
 if Zi c≠0 then Zi c else if J8 c.co.length none p.co≠0 then J8 c.co.length none p.co else if J8 c.rq.length none p.rq≠0 then J8 c.rq.length none p.rq else
 if J8 c.ex.length none p.ex≠0 then J8 c.ex.length none p.ex else if J8 c.cs.length none p.cs≠0 then J8 c.cs.length none p.cs else if Qn8 c p=true then 13 else Zi (Qf3 c p)
def prt (m:VW):Prt:=⟨m.co,if m.kd=1 then[m.ix]else[],if m.kd=2 then[m.ix]else[],if m.kd≠1/\m.kd≠2 then[m.ix]else[]⟩
def yq (c:Zt)(m:VW):Int:=if mdE c m≠0 then mdE c m else ji c (prt m)
def XJ (c:Zt)(m:VW):Zt:=Qf3 c (prt m)
def msA (c:Zt)(m:VW):Q0:=suA (XJ c m)
def Qrh (c:Zt):List Q0:=(O9 c).map (msA c)++(rem c).map λi=>(c.co.getD i.toNat ⟨.empty,⟨[],0,[],[]⟩⟩).a
def QbF (l:List Q0):Int:=if Ud l≠0 then Ud l else match xp l with|none=>3|some _=>0
def tgA (c:Zt):Q0:=syA (Qrh c)
section
variable (k:α->Int)
def QdJ (x:α):List α->List α
 | []=>[x]
 | y::l=>if k x<=k y then x::y::l else y::QdJ x l
def isrt (l:List α):List α:=l.foldr (QdJ k) []
theorem qn (x:α):∀l,(QdJ k x l).Perm (x::l)
 | []=>.refl _
 | y::l=>by
  rw[QdJ];split
  ·exact .refl _
  exact((qn x l).cons y).D (.swap _ _ _)
theorem qk:∀l,(isrt k l).Perm l
 | []=>.refl _
 | x::l=>(qn k x _).D ((qk l).cons x)
theorem jX (x:α):∀{l:List α},l.Pairwise (λa b=>k a<=k b)->(QdJ k x l).Pairwise (λa b=>k a<=k b)
 | [],_=>by rw[QdJ];simp
 | y::l,h=>by
  rw[QdJ];obtain⟨H,I⟩:=L4.1 h;split
  ·rename_i G;refine L4.2 ⟨λz E=>?_,h⟩;rcases Li.1 E with rfl|E
   ·exact G
   exact Int.le_trans G (H z E)
  rename_i G;refine L4.2 ⟨λz E=>?_,jX x I⟩;rcases Li.1 ((qn k x l).mem_iff.1 E)with rfl|E
  ·omega
  exact H z E
theorem jV:∀l:List α,(isrt k l).Pairwise (λa b=>k a<=k b)
 | []=>.nil
 | x::l=>jX k x (jV l)
theorem Qeq:∀{l m:List α},l.Perm m->l.Pairwise (λa b=>k a<=k b)->m.Pairwise (λa b=>k a<=k b)->(l.map k).Nodup->l=m
 | [],m,E,_,_,_=>(List.Perm.nil_eq E)
 | x::l,[],E,_,_,_=>by have:=E.length_eq;simp at this
 | x::l,y::m,E,hl,H,I=>by
  obtain⟨J,l2⟩:=L4.1 hl;obtain⟨m1,O⟩:=L4.1 H;have S:(k x::l.map k).Nodup:=I;obtain⟨n1,T⟩:=M6.1 S;have e:x=y:=by
   have hx:x∈y::m:=E.mem_iff.1 Lp;have V:y∈x::l:=E.mem_iff.2 Lp;rcases Li.1 hx with h|h
   ·exact h
   rcases Li.1 V with G|G
   ·exact G.symm
   exact OW (LC.2 ⟨y,G,Int.le_antisymm (m1 x h) (J y G)⟩) n1
  subst e;rw[Qeq ((List.perm_cons x).1 E) l2 O T]
theorem Qe4 {l m:List α}(E:m.Perm l)(G:m.Pairwise (λa b=>k a<=k b))(H:(l.map k).Nodup):m=isrt k l :=
 Qeq k (E.D (qk k l).symm) G (jV k l) ((E.map _).nodup_iff.2 H)
end
structure Z4 where
 kd:Int
 nm:ByteArray
 a:Q0
 ls:List (ByteArray×Int)
 ts:List (ByteArray×Int)
 bd:Int
abbrev V9:Q0:=⟨[],0,[],[]⟩
abbrev UV:Zt:=⟨[],[],[],[],[]⟩
def Vl (k:Int)(n:ByteArray)(x:Z4):Bool:=decide (x.kd=k) && decide (x.nm=n)
def Z8 (l:List Z4)(k:Int)(n:ByteArray):Nat:=l.findIdx (Vl k n)
def JP (l:List Z4)(k:Int)(n:ByteArray):Bool:=decide (Z8 l k n<l.length)
def Qan (a:Q0):Bool:=decide (a.st=0) && decide ((a.al.length:Int)+(a.mr.length:Int)+(a.ed.length:Int)=0)
def yf (x:Z4):Bool:=if x.kd=3 then Qan x.a && decide ((x.ts.length:Int)=0) && decide (x.bd=0)else if x.kd=4 then Qan x.a && decide ((x.ls.length:Int)=0)else decide ((x.ls.length:Int)+(x.ts.length:Int)=0) && decide (x.bd=0)
def dk1 (l:List Z4)(i:Nat)(x:Z4):Int :=
 if x.kd<1\/4<x.kd then 11 else if Y1 x.nm=false then 7 else if JP (l.take i) x.kd x.nm=true then 8 else if 0<i/\x.kd<(l.getD (i - 1) ⟨0,.empty,V9,[],[],0⟩).kd then 5 else if yf x=false then 6 else 0
def dkL (l:List Z4):Nat->List Z4->Int
 | _,[]=>0
 | i,x::r=>if dk1 l i x≠0 then dk1 l i x else dkL l (i+1) r
def Jt (l:List Z4):Int:=if 76<l.length then 3 else dkL l 0 l
def q9 (co:List YV)(i:Int):Option ByteArray:=if i<0\/(co.length:Int)<=i then none else some (co.getD i.toNat ⟨.empty,V9⟩).nm
def Vk (co:List YV):xx->Option (List (ByteArray×Int))
 | []=>some []
 | y::l=>match q9 co y.1 with
  | none=>none
  | some n=>(Vk co l).map ((n,y.2)::·)
def JU (co:List YV):List U0->Option (List Z4)
 | []=>some []
 | x::l=>match Vk co x.ls with
  | none=>none
  | some r=>(JU co l).map (⟨3,x.nm,V9,r,[],0⟩::·)
def Kd (co:List YV):List xL->Option (List Z4)
 | []=>some []
 | x::l=>match Vk co x.ts with
  | none=>none
  | some r=>(Kd co l).map (⟨4,x.nm,V9,[],r,x.bd⟩::·)
def Yh (k:Int)(x:YV):Z4:=⟨k,x.nm,x.a,[],[],0⟩
def yP (c:Zt):Option (List Z4):=match JU c.co c.ex,Kd c.co c.cs with
 | some a,some b=>some (c.co.map (Yh 1)++(c.rq.map (Yh 2)++(a++b)))
 | _,_=>none
def ZP (c:Zt):Int×List Z4:=match yP c with
 | none=>(2,[])
 | some l=>if Jt l≠0 then(Jt l,[])else(0,l)
def Yp (l:List Z4):List (ByteArray×Int)->LI->List (Int×Int)->Int×xx
 | [],_,o=>(0,isrt (·.1) o)
 | y::r,tk,o=>if JP l 1 y.1=false then(9,[])else if(Z8 l 1 y.1:Int)∈tk then(8,[])else Yp l r (tk++[(Z8 l 1 y.1:Int)]) (o++[((Z8 l 1 y.1:Int),y.2)])
def XY (all:List Z4)(x:Z4)(c:Zt):Int×Zt :=
 if x.kd=1 then(0,{ c with co:=c.co++[⟨x.nm,x.a⟩] })else if x.kd=2 then(0,{ c with rq:=c.rq++[⟨x.nm,x.a⟩] })else
 if x.kd=3 then(if(Yp all x.ls [] []).1≠0 then((Yp all x.ls [] []).1,UV)else(0,{ c with ex:=c.ex++[⟨x.nm,(Yp all x.ls [] []).2⟩] }))else
 if x.kd=4 then(if(Yp all x.ts [] []).1≠0 then((Yp all x.ts [] []).1,UV)else(0,{ c with cs:=c.cs++[⟨x.nm,(Yp all x.ts [] []).2,x.bd⟩] }))else(0,c)
def KK (all:List Z4):List Z4->Zt->Int×Zt
 | [],c=>(0,c)
 | x::l,c=>if(XY all x c).1≠0 then((XY all x c).1,UV)else KK all l (XY all x c).2
def KY (ev:List Ka)(l:List Z4):Int×Zt:=if Jt l≠0 then(Jt l,UV)else KK l l ⟨ev,[],[],[],[]⟩
def V8 (l:List Z4)(x:Z4):Int×List Z4 :=
 if Jt l≠0 then(Jt l,[])else if Jt [x]≠0 then(Jt [x],[])else if JP l x.kd x.nm=true then(0,l.set (Z8 l x.kd x.nm) x)else if l.length=76 then(3,[])else
 (0,l.take (l.findIdx λy=>decide (x.kd<y.kd))++x::l.drop (l.findIdx λy=>decide (x.kd<y.kd)))
def zd (l:List Z4)(k:Int)(n:ByteArray):Int×List Z4 :=
 if Jt l≠0 then(Jt l,[])else if JP l k n=false then(10,[])else(0,l.take (Z8 l k n)++l.drop (Z8 l k n+1))
def zf (l:List Z4)(e:Bool×Z4):Int×List Z4:=if e.1=true then zd l e.2.kd e.2.nm else V8 l e.2
def qA:List (Bool×Z4)->List Z4->Int×List Z4
 | [],l=>(0,l)
 | e::r,l=>if(zf l e).1≠0 then((zf l e).1,[])else qA r (zf l e).2
def ze (l:List Z4)(es:List (Bool×Z4)):Int×List Z4:=if Jt l≠0 then(Jt l,[])else qA es l
def cnF (ord:LI)(j:Nat)(e:Ed):Ed:=((j:Int),e.2.1,(ord.idxOf e.2.2:Int))
def cnR (a:Q0)(ord:LI)(j:Nat):List Ed:=(Z5 a.ed (ZV ord j)).map (cnF ord j)
theorem Qch {r:LI}(h:j<l.length):ZV (l++r) j=ZV l j:=by unfold ZV;rw[MD];exact yU h
structure NuI (st:Int)(ord num:LI):Prop where
 nd:ord.Nodup
 bd:∀s∈ord,0<=s/\s<st
 nl:num.length=st.toNat
 nu:∀k,0<=k->k<st->ZV num k=if k∈ord then(ord.idxOf k:Int)else -1
theorem Qdi {st:Int}{c:Cs}(h:NuI st c.ord c.num){e:Ed}(O:0<=e.2.2)(S:e.2.2<st):NuI st (Zq i c e).ord (Zq i c e).num/\(∃r,(Zq i c e).ord=c.ord++r)/\(Zq i c e).mk'=c.mk'/\(Zq i c e).ed=c.ed++[cnF (Zq i c e).ord i e]/\e.2.2∈(Zq i c e).ord:=by
 have G:=h.nu e.2.2 O S;have V:e.2.2.toNat<c.num.length:=by rw[h.nl];omega
 unfold Zq;by_cases H:e.2.2∈c.ord
 ·rw[OU H]at G;rw[OT (by rw[G];omega)];refine⟨h,⟨[],oe⟩,rfl,?_,H⟩;simp only[cnF];rw[G]
 rw[OT H]at G;rw[OU (by rw[G];decide)];have T:(c.ord++[e.2.2]).idxOf e.2.2=c.ord.length:=by rw[MC,OT H];simp
 refine⟨⟨yl h.nd H,λs E=>?_,by simp[h.nl],λk Y k1=>?_⟩,⟨[e.2.2],rfl⟩,rfl,?_,oe⟩
 ·rcases Lc.1 E with E|E
  ·exact h.bd s E
  simp only[oI]at E;subst E;exact⟨O,S⟩
 ·simp only[];by_cases ek:k=e.2.2
  ·subst ek;rw[OU oe,T];unfold ZV;simp[oQ,List.getElem?_set_self V]
  have ha:e.2.2.toNat≠k.toNat:=oa
  have e1:ZV (c.num.set e.2.2.toNat c.ord.length) k=ZV c.num k:=by unfold ZV;simp[oQ,List.getElem?_set_ne ha]
  rw[e1,h.nu k Y k1];by_cases I:k∈c.ord
  ·rw[OU I,OU (Md _ I),MC,OU I]
  rw[OT I,OT (λhb=>by
   rcases Lc.1 hb with J|J
   ·exact I J
   simp only[oI]at J;exact ek J)]
 simp only[cnF];rw[T]
theorem zT {st:Int}{i:Nat}:∀(es:List Ed) (c:Cs),NuI st c.ord c.num->(∀e∈es,0<=e.2.2/\e.2.2<st)->NuI st (es.foldl (Zq i) c).ord (es.foldl (Zq i) c).num/\(∃r,(es.foldl (Zq i) c).ord=c.ord++r)/\(es.foldl (Zq i) c).mk'=c.mk' /\
  (es.foldl (Zq i) c).ed=c.ed++es.map (cnF (es.foldl (Zq i) c).ord i)/\∀e∈es,e.2.2∈(es.foldl (Zq i) c).ord
 | [],c,h,_=>⟨h,⟨[],oe⟩,rfl,oe,λe H=>by cases H⟩
 | e::es,c,h,E=>by
  obtain⟨I,b1⟩:=E e Lp;obtain⟨J,⟨O,S⟩,T,V,G⟩:=Qdi (i:=i) h I b1;obtain⟨k1,⟨r2,k2⟩,k3,Y,k5⟩:=zT (i:=i) es (Zq i c e) J (λd hd=>E d (Lj _ hd));rw[LZ];refine⟨k1,⟨O++r2,by rw[k2,S,LB]⟩,k3.D T,?_,λd hd=>?_⟩
  ·rw[Y,V,LB,LH];have:cnF (Zq i c e).ord i e=cnF (es.foldl (Zq i) (Zq i c e)).ord i e:=by
    unfold cnF;rw[k2,MC,OU G]
   rw[this];rfl
  rcases Li.1 hd with rfl|hd
  ·rw[k2];exact Md _ G
  exact k5 d hd
structure CnG (a:Q0)(i:Nat)(c:Cs):Prop where
 nu:NuI a.st c.ord c.num
 le:i<=c.ord.length
 hd:ZV c.ord 0=0/\0<c.ord.length
 mk2:c.mk'=((oR 0 i).filter λj:Nat=>decide (ZV c.ord j∈a.mr)).map λj:Nat=>(j:Int)
 ed:c.ed=(oR 0 i).flatMap (cnR a c.ord)
 cl:∀j,j<i->∀e∈Z5 a.ed (ZV c.ord j),e.2.2∈c.ord
theorem QmW {ord r:LI}(E:j<ord.length)(G:∀e∈Z5 a.ed (ZV ord j),e.2.2∈ord):cnR a (ord++r) j=cnR a ord j:=by
 unfold cnR;rw[Qch E];refine M0 λe H=>?_;unfold cnF;rw[MC,OU (G e H)]
theorem CnG.next (S:ZA a){c:Cs}(h:CnG a i c)(hi:i<c.ord.length):CnG a (i+1) (V2 a i c):=by
 unfold V2;have I:(Ya a i c).ord=c.ord:=by unfold Ya;split <;> rfl
 have T:(Ya a i c).num=c.num:=by unfold Ya;split <;> rfl
 have V:(Ya a i c).ed=c.ed:=by unfold Ya;split <;> rfl
 obtain⟨k1,⟨r,k2⟩,k3,H,J⟩:=zT (st:=a.st) (i:=i) (Z5 a.ed (ZV c.ord i)) (Ya a i c) (by rw[I,T];exact h.nu) (λe Y=>(S.ed e (ZT Y).1).2.2.2);generalize (Z5 a.ed (ZV c.ord i)).foldl (Zq i) (Ya a i c)=d at k1 k2 k3 H J;rw[I]at k2;rw[V]at H;have pre:∀j:Nat,j<=i->ZV d.ord j=ZV c.ord j:=λj E=>by rw[k2];exact Qch oa
 refine⟨k1,by rw[k2];simp;omega,⟨by have:=pre 0 oa;rw[show((0:Nat):Int)=0 from rfl]at this;rw[this];exact h.hd.1,by rw[k2];simp;omega⟩,?_,?_,λj E=>?_⟩
 ·rw[k3,MA,L6,Ls,LS];have e1:((oR 0 i).filter λj:Nat=>decide (ZV d.ord j∈a.mr))=(oR 0 i).filter λj:Nat=>decide (ZV c.ord j∈a.mr):=by
   refine List.filter_congr λj E=>?_;rw[Mw]at E;rw[pre j oa]
  rw[e1];unfold Ya;by_cases G:ZV c.ord i∈a.mr
  ·rw[OU G];simp only[];rw[Me,OU (by rw[pre i (Lx _)];exact OX G),Nq,h.mk2];rfl
  rw[OT G];rw[Me,OT (by rw[pre i (Lx _),OZ G];simp),Nq,h.mk2];simp
 ·rw[H,MA,LA,LS,h.ed];congr 1
  ·refine JN λj E=>?_;rw[Mw]at E;rw[k2];exact(QmW oa (h.cl j oa)).symm
  simp only[Oe,OM,Ox];unfold cnR;rw[pre i (Lx _)]
 by_cases e:j=i
 ·subst e;rw[pre j (Lx _)];exact J
 intro d' O;rw[pre j oa]at O;rw[k2];exact Md _ (h.cl j oa d' O)
theorem qB {a:Q0}(G:ZA a):∀(f i:Nat) (c:Cs),CnG a i c->∃E,CnG a E (YY a f i c)/\((YY a f i c).ord.length=E\/E=i+f)
 | 0,i,c,h=>⟨i,h,.inr U⟩
 | f+1,i,c,h=>by
  rw[YY];split
  ·rename_i hi;obtain⟨E,H,I⟩:=qB G f (i+1) _ (h.next G hi);exact⟨E,H,oa⟩
  exact⟨i,h,.inl (ou h.le)⟩
structure CnP (a:Q0)(ord:LI):Prop where
 nd:ord.Nodup
 bd:∀s∈ord,0<=s/\s<a.st
 hd:ZV ord 0=0/\0<ord.length
 al:(Yr a).al=a.al
 st:(Yr a).st=(ord.length:Int)
 mk2:(Yr a).mr=((oR 0 ord.length).filter λj:Nat=>decide (ZV ord j∈a.mr)).map λj:Nat=>(j:Int)
 ed:(Yr a).ed=(oR 0 ord.length).flatMap (cnR a ord)
 cl:∀j,j<ord.length->∀e∈Z5 a.ed (ZV ord j),e.2.2∈ord
theorem Qg0 (I:ZA a)(h0:0<a.st):∃ord,CnP a ord:=by
 have J:0<a.st.toNat:=oa
 have O:CnG a 0 (ZY a):=by
  refine⟨⟨by simp[ZY],λs H=>by simp[ZY]at H;subst H;omega,by simp[ZY],λk k0 k1=>?_⟩,Ln _,⟨by simp[ZY,ZV],by simp[ZY]⟩,by simp[ZY],by simp[ZY],λj hj=>oa⟩;by_cases ek:k=0
  ·subst ek;rw[OU (by simp[ZY])];unfold ZV ZY;simp[oQ,J]
  rw[OT (by simpa[ZY]using ek)];unfold ZY;have S:0≠k.toNat:=oa
  have T:k.toNat<a.st.toNat:=oa
  unfold ZV;rw[Mq,M9 S];simp[T]
 obtain⟨V,E,h2⟩:=qB I a.st.toNat 0 (ZY a) O;have ha:(YY a a.st.toNat 0 (ZY a)).ord.length<=a.st.toNat:=xH _ _ E.nu.nd (λx hx=>ou (E.nu.bd x hx));have Y:V=(YY a a.st.toNat 0 (ZY a)).ord.length:=by have:=E.le;omega
 subst Y;have G:Yr a=⟨a.al,((YY a a.st.toNat 0 (ZY a)).ord.length:Int),(YY a a.st.toNat 0 (ZY a)).mk',(YY a a.st.toNat 0 (ZY a)).ed⟩:=by unfold Yr;rw[OT oa]
 refine⟨(YY a a.st.toNat 0 (ZY a)).ord,E.nu.nd,E.nu.bd,E.hd,by rw[G],by rw[G],?_,?_,E.cl⟩
 ·rw[G];exact E.mk2
 rw[G];exact E.ed
section
variable {p s:Q0}{pn xn v:Int}
end
def U1 (lo hi:Nat)(ds:LN)(W:O1):Prop:=ds.Nodup/\∀D∈ds,lo<=D/\D<hi/\W.heap[D]?=some (.deferred (some []))
theorem U1.J {W:O1}(h:U1 lo hi ds W)(H:O5 X W W')(I:∀b∈X,∃o:Obj,W.heap[b]?=some o/\o.isCells=true):U1 lo hi ds W':=by
 refine⟨h.1,λD hD=>⟨(h.2 D hD).1,(h.2 D hD).2.1,?_⟩⟩;have E:=(h.2 D hD).2.2;refine(H.block D (LK.1 E).1 (λhx=>?_)).D E;obtain⟨o,G,J⟩:=I D hx;rw[E]at G;cases G;cases J
theorem U1.I {W:O1}(h:U1 lo hi ds W)(E:O5 [] W W'):U1 lo hi ds W':=h.J E (λ_ G=>by cases G)
theorem U1.blk {W:O1}(h:U1 lo hi ds W)(E:O5 [b] W W')(G:Q7 W.heap b T cs):U1 lo hi ds W' :=
 h.J E (λc H=>by
  have e:c=b:=by simpa using H
  subst e;exact G.cells)
theorem U1.up {W:O1}(h:U1 lo hi ds W)(G:hi<=E):U1 lo E ds W:=⟨h.1,λD hD=>⟨(h.2 D hD).1,ou (h.2 D hD).2.1,(h.2 D hD).2.2⟩⟩
theorem U1.cons {W:O1}{D:Nat}(h:U1 lo hi ds W)(hl:lo<=hi)(hD:hi<=D)(hd:W.heap[D]?=some (.deferred (some []))):U1 lo W.heap.size (D::ds) W:=by
 have G:=(LK.1 hd).1;refine⟨M6.2 ⟨λH=>ou (h.2 D H).2.1,h.1⟩,λE hE=>?_⟩;rcases Li.1 hE with rfl|hE
 ·exact⟨oa,G,hd⟩
 have:=h.2 E hE;exact⟨this.1,(LK.1 this.2.2).1,this.2.2⟩
theorem U1.stb (I:hi<=B):YB B (λW=>U1 lo hi ds W):=λW W' X h G H=>by
 refine⟨h.1,λD hD=>⟨(h.2 D hD).1,(h.2 D hD).2.1,?_⟩⟩;have E:=(h.2 D hD).2.2;refine(G.block D (LK.1 E).1 (λhx=>?_)).D E;have:=(H D hx).1;have:=(h.2 D hD).2.1;omega
open Go.RowKit
def sl (d:xF)(f:Fr):O2:=match d with|some d=>f d|none=>undef
def ow:O2->LN
 | .slice (some a) _ _=>[a.block]
 | .pointer (some a)=>[a.block]
 | .map (some b)=>[b]
 | _=>[]
def Fa (p:Nat->Prop):LN->Prop
 | []=>True
 | i::l=>p i/\Fa p l
theorem Fa.all {p:Nat->Prop}:∀{l:LN},Fa p l->∀i∈l,p i
 | [],_,_,hi=>by cases hi
 | j::l,h,i,hi=>by
  rcases Li.1 hi with rfl|hi
  ·exact h.1
  exact Fa.all h.2 i hi
theorem Fa.of {p:Nat->Prop}:∀{l:LN},(∀i∈l,p i)->Fa p l
 | [],_=>trivial
 | i::_,h=>⟨h i Lp,Fa.of λj E=>h j (Lj _ E)⟩
def yi (all:Array Oper)(opn:LN)(rest:xu):Nat->Array Bool->Bool
 | 0,ls=>Xh all rest ls && opn.all λi=>ls.getD i false
 | k+1,ls=>!(Region.ready .any all ls).isEmpty && (Region.ready .any all ls).all λi=>opn.contains i && yi all opn rest k (ls.setIfInBounds i true)
def Qb1 (all:xE)(D:xw):LN->Bool
 | []=>true
 | i::l=>(QU all i).guard.isNone && (match (QU all i).dst with|some d=>Xm D d && l.all (λj=>!((QU all j).dst == some d))|none=>false) && !l.contains i && Qb1 all D l
theorem KD {all:xE}{D:xw}:∀{l:LN},Qb1 all D l=true->(∀i∈l,(QU all i).guard=none/\∃d,(QU all i).dst=some d/\Xm D d=true)/\∀i∈l,∀j∈l,i≠j->(QU all i).dst≠(QU all j).dst
 | [],_=>⟨λ_ h=>(by cases h),λ_ h=>(by cases h)⟩
 | i::l,h=>by
  simp only[Qb1,oK,Option.isNone_iff_eq_none]at h;obtain⟨⟨⟨O,hd⟩,S⟩,hl⟩:=h;have ih:=KD hl;cases G:(QU all i).dst with
  | none=>rw[G]at hd;cases hd
  | some d =>
   rw[G]at hd;simp only[oK,Om,Og,beq_eq_false_iff_ne,ne_eq]at hd;have H:∀j∈l,(QU all j).dst≠some d:=λj E=>hd.2 j E;refine⟨λj E=>?_,λj E k I J=>?_⟩
   ·rcases Li.1 E with rfl|E
    ·exact⟨O,d,G,hd.1⟩
    exact ih.1 j E
   rcases Li.1 E with hj1|hj1
   ·rcases Li.1 I with hk1|hk1
    ·exact OW (hj1.D hk1.symm) J
    rw[hj1,G];exact λe=>H k hk1 e.symm
   rcases Li.1 I with hk1|hk1
   ·rw[hk1,G];exact H j hj1
   exact ih.2 j hj1 k hk1 J
def QqE (all:xE)(pre:xu)(opn:LN)(rest:xu)(D:xw):Bool :=
 Region.noSelect all.toArray && (pre.length+(opn.length+rest.length) == all.length) && KB all.toArray pre (oX all.length false) && Qb1 all D opn && yi all.toArray opn rest opn.length (Z9 pre (oX all.length false))
  && opn.all λi=>!((Z9 pre (oX all.length false)).getD i false)
section
variable {all:xE}{C:xA}
theorem JM {o:Oper}(h:o.guard=none):Yd all f o=true:=by unfold Yd;rw[h]
theorem QfS {α:Type}{D:xw}{opn:LN}{rest:xu}{Φ:Nat->O2->O1->Prop}{S:α->List (Nat×O2)}{I:α->O1->Prop}{f1:Fr}(hs:Region.noSelect all.toArray=true)(hc:Qb1 all D opn=true)
  (hn:∀w w',C w->O5 [] w w'->C w') (stab:∀i v w w',Φ i v w->O5 [] w w'->Φ i v w')
  (hq:∀(g:Fr) w,Fa (λi=>Φ i (sl (QU all i).dst g) w) opn->(∀i∈opn,∀j∈opn,i≠j->∀b∈ow (sl (QU all i).dst g),b∉ow (sl (QU all j).dst g))->∃z,XB g (S z)/\I z w)
  (spec:Fa (λi=>∀g w,C w->XO P (QU all i) (mix D f1 g) w (λf' w'=>O5 [] w w'/\Φ i (sl (QU all i).dst f') w'/\∀b∈ow (sl (QU all i).dst f'),w.heap.size<=b/\b<w'.heap.size)) opn)
  (fin:∀z g w,C w->I z w->XP P all C K rest (qX (S z) (mix D f1 g)) w):
  ∀(k:Nat) (ls:Array Bool) (f:Fr) (w:O1),ls.size=all.length->C w->yi all.toArray opn rest k ls=true->(∀t,Xm D t=false->f t=f1 t)->(∀i∈opn,ls.getD i false=true->Φ i (sl (QU all i).dst f) w) ->
   (∀i∈opn,ls.getD i false=true->(∀b∈ow (sl (QU all i).dst f),b<w.heap.size)/\∀j∈opn,ls.getD j false=true->i≠j->∀b∈ow (sl (QU all i).dst f),b∉ow (sl (QU all j).dst f))->XA P all C K (k+rest.length) ls f w
 | 0,ls,f,w,hh,hC,H,hf,hl,O=>by
  simp only[yi,oK,Om]at H;obtain⟨z,h1,h2⟩:=hq f w (Fa.of λi hi=>hl i hi (H.2 i hi)) (λi hi j G E=>(O i hi (H.2 i hi)).2 j G (H.2 j G) E);have h3:=fin z f w hC h2;rw[Ji hf,Xc h1]at h3;rw[LS];exact ZL hs rest ls f w hh (.inl hC) H.1 h3
 | k+1,ls,f,w,hh,hC,H,hf,hl,O=>by
  simp only[yi,oK,Om,List.contains_iff_mem]at H;obtain⟨he,H⟩:=H;rw[Nat.add_right_comm];refine XS (λh0=>(by rw[h0]at he;cases he)) ?_;intro i hi o ho;obtain⟨hm,hy⟩:=H i hi;obtain⟨hg,d,hd,h4⟩:=(KD hc).1 i hm;have h5:=(KD hc).2;have hsp:=Fa.all spec i hm f w hC;rw[Ji hf]at hsp;have T:=Zk ho;rw[T]at hg hd hsp;rw[JM hg,cond_true];refine hsp.mono λv w' hx=>?_;have hr:=hn w w' hC hx.1;have hz:=hx.1.size;have old:∀j∈opn,j≠i->sl (QU all j).dst (QW f o.dst v)=sl (QU all j).dst f:=λj G E=>by
   obtain⟨_,dj,hu,_⟩:=(KD hc).1 j G;have he:o.dst≠some dj:=λe=>h5 j G i hm E (by rw[hu,T];exact e.symm);rw[hu];exact Xd he v
  have lsj:∀j,j≠i->(ls.setIfInBounds i true).getD j false=true->ls.getD j false=true:=λj E h=>by rw[getD_set_ne false (Ne.symm E)]at h;exact h
  refine⟨.inr (.inr hr),QfS hs hc hn stab hq spec fin k _ _ _ (oz hh) hr hy (λt ht=>?_) (λj G ha=>?_) (λj G ha=>⟨λb J=>?_,λk hk hv hw b J V=>?_⟩)⟩
  ·rw[Xd (by rw[hd];intro e;cases e;rw[h4]at ht;cases ht)];exact hf t ht
  ·by_cases E:j=i
   ·subst E;have h2:=hx.2.1;rw[T];exact h2
   rw[old j G E];exact stab _ _ _ _ (hl j G (lsj j E ha)) hx.1
  ·by_cases E:j=i
   ·subst E;rw[T]at J;exact(hx.2.2 b J).2
   rw[old j G E]at J;have:=(O j G (lsj j E ha)).1 b J;omega
  by_cases E:j=i
  ·subst E;have Y:k≠j:=Ne.symm hw;rw[old k hk Y]at V;rw[T]at J;have h1:=(O k hk (lsj k Y hv)).1 b V;have h2:=(hx.2.2 b J).1;omega
  rw[old j G E]at J;have h1:=(O j G (lsj j E ha)).1 b J;by_cases Y:k=i
  ·subst Y;rw[T]at V;have h2:=(hx.2.2 b V).1;omega
  rw[old k hk Y]at V;exact(O j G (lsj j E ha)).2 k hk (lsj k Y hv) hw b J V
theorem Qni {Q:Exit->Fr->O1->Prop}(C:xA)(pre:xu)(opn:LN)(rest:xu)(D:xw)(Φ:Nat->O2->O1->Prop)(S:α->List (Nat×O2))(I:α->O1->Prop)
  (hm:P.follows .mixedOrders=true) (hn:X0 n all=true) (G:QqE all pre opn rest D=true) (H:C { w with drawn:=w.drawn+1 }) (ha:∀w w',C w->O5 [] w w'->C w') (stab:∀i v w w',Φ i v w->O5 [] w w'->Φ i v w')
  (hb:∀(g:Fr) w,Fa (λi=>Φ i (sl (QU all i).dst g) w) opn->(∀i∈opn,∀j∈opn,i≠j->∀b∈ow (sl (QU all i).dst g),b∉ow (sl (QU all j).dst g))->∃z,XB g (S z)/\I z w)
  (h:XP P all C (λf1 _=>Fa (λi=>∀g w,C w->XO P (QU all i) (mix D f1 g) w (λJ w'=>O5 [] w w'/\Φ i (sl (QU all i).dst J) w'/\∀b∈ow (sl (QU all i).dst J),w.heap.size<=b/\b<w'.heap.size)) opn /\
   ∀z g w,C w->I z w->XP P all C (λf w=>Q .normal f w) rest (qX (S z) (mix D f1 g)) w) pre f { w with drawn:=w.drawn+1 }):W P n (.region id all.toArray true) Q f w:=by
 simp only[QqE,oK,beq_iff_eq,Om,Og]at G;obtain⟨⟨⟨⟨⟨O,hl⟩,hq⟩,hc⟩,he⟩,T⟩:=G;refine JR C hm hn ?_;rw[<-hl];have hf:(oX all.length false).size=all.length:=oe
 have V:=YK (K:=λf w=>Q .normal f w) (m:=opn.length+rest.length) O pre (oX all.length false) f _ H hq (λf1 Y=>QfS (P:=P) (C:=C) O hc ha stab hb Y.1 Y.2 opn.length (Z9 pre (oX all.length false)) f1 _ (by rw[YO];exact hf) H he (λ_ _=>U) (λi hi E=>by rw[T i hi]at E;cases E) (λi hi E=>by rw[T i hi]at E;cases E)) h;rw[hl]at V ⊢;exact V
end
def Jd (k:Nat):LI:=(oT k).map λi:Nat=>(i:Int)
theorem yo (k:Nat):(Jd k).length=k:=by simp[Jd]
theorem jP (k:Nat):Jd (k+1)=Jd k++[(k:Int)]:=by unfold Jd;rw[ND,Ls];rfl
theorem Qb4 (k:Nat)(x:Int):x∈Jd k↔0<=x/\x<(k:Int):=by
 unfold Jd;simp only[Oz,List.mem_range];constructor
 ·rintro⟨i,hi,rfl⟩;omega
 intro h;exact⟨x.toNat,oa,oa⟩
theorem QiJ (k:Nat):YW (Jd k):=by
 induction k with
 | zero=>exact List.Pairwise.nil
 | succ k ih =>
  rw[jP];refine MK.2 ⟨ih,NJ _ _,λx hx y E=>?_⟩;have:=(Qb4 k x).1 hx;simp at E;omega
abbrev KL (a:Q0):Cs:=YY a a.st.toNat 0 (ZY a)
theorem cn0 (J:0<a.st):CnG a 0 (ZY a):=by
 have G:0<a.st.toNat:=oa
 refine⟨⟨by simp[ZY],λs E=>by simp[ZY]at E;subst E;omega,by simp[ZY],λk O k1=>?_⟩,Ln _,⟨by simp[ZY,ZV],by simp[ZY]⟩,by simp[ZY],by simp[ZY],λj S=>oa⟩;by_cases ek:k=0
 ·subst ek;rw[OU (by simp[ZY])];unfold ZV ZY;simp[oQ,G]
 rw[OT (by simpa[ZY]using ek)];unfold ZY;have H:0≠k.toNat:=oa
 have I:k.toNat<a.st.toNat:=oa
 unfold ZV;rw[Mq,M9 H];simp[I]
theorem Qj0 (H:ZA a)(I:0<a.st):CnP a (KL a).ord/\Yr a=⟨a.al,((KL a).ord.length:Int),(KL a).mk',(KL a).ed⟩/\(KL a).ord.length<=a.st.toNat:=by
 obtain⟨J,E,T⟩:=qB H a.st.toNat 0 (ZY a) (cn0 I);have O:(YY a a.st.toNat 0 (ZY a)).ord.length<=a.st.toNat:=xH _ _ E.nu.nd (λx hx=>ou (E.nu.bd x hx));have S:J=(YY a a.st.toNat 0 (ZY a)).ord.length:=by have:=E.le;omega
 subst S;have G:Yr a=⟨a.al,((YY a a.st.toNat 0 (ZY a)).ord.length:Int),(YY a a.st.toNat 0 (ZY a)).mk',(YY a a.st.toNat 0 (ZY a)).ed⟩:=by unfold Yr;rw[OT oa]
 refine⟨⟨E.nu.nd,E.nu.bd,E.hd,by rw[G],by rw[G],?_,?_,E.cl⟩,G,O⟩
 ·rw[G];exact E.mk2
 rw[G];exact E.ed
theorem Qpc (lf:Lf)(x:Int)(z:LI×LI)(y:Int):dsE lf x z y=if lft lf y=true then bwE x z y else z:=by
 unfold dsE bwE;by_cases h:lft lf y=true <;> by_cases E:O6 z.1 y.toNat<0 <;> simp[h,E]
structure DsI (n:Nat)(z:LI×LI):Prop where
 ok:QkU n z.1 z.2
 cnt:neg z.1+z.2.length=n
 s0:QpD z.1 z.2
theorem DsI.le {z:LI×LI}(h:DsI n z):z.2.length<=n:=by have:=h.cnt;omega
theorem QjQ {lf:Lf}{x y:Int}{z:LI×LI}(h:DsI n z)(hx:0<=x/\x<(n:Int))(E:0<=O6 z.1 x.toNat)(G:0<=y/\y<(n:Int)):
  DsI n (dsE lf x z y)/\0<=O6 (dsE lf x z y).1 x.toNat:=by
 rw[Qpc];split
 ·obtain⟨H,J,I⟩:=Qpu h.ok hx E G;exact⟨⟨H,ou h.cnt,Qko h.ok E G h.s0⟩,I⟩
 exact⟨h,E⟩
theorem QmF (lf:Lf)(x:Int)(z:LI×LI)(y:Int):∃r,(dsE lf x z y).2=z.2++r:=by
 unfold dsE;split
 ·exact⟨[y],U⟩
 exact⟨[],oe⟩
theorem QmE {n:Nat}{lf:Lf}{x:Int}(hx:0<=x/\x<(n:Int)):∀(l:LI) (z:LI×LI),DsI n z->0<=O6 z.1 x.toNat->(∀y∈l,0<=y/\y<(n:Int)) ->
  DsI n (l.foldl (dsE lf x) z)/\∃r,(l.foldl (dsE lf x) z).2=z.2++r
 | [],z,h,_,_=>⟨h,[],oe⟩
 | y::l,z,h,E,hl=>by
  obtain⟨G,H⟩:=QjQ (lf:=lf) h hx E (hl y Lp);obtain⟨I,r2,J⟩:=QmE hx l _ G H (λy O=>hl y (Lj _ O));obtain⟨S,T⟩:=QmF lf x z y;exact⟨I,S++r2,by rw[LZ,J,T,LB]⟩
theorem QjP {lf:Lf}{f:Nat}{z:LI×LI}(h:¬i<z.2.length):dsL es lf f i z=z:=by
 cases f with
 | zero=>rfl
 | succ f=>rw[dsL,OT h]
theorem QfK {x:Int}(E:0<=x):(zh n l).set x.toNat 0=zh n (l++[x]):=by
 apply Mv
 ·simp[zh]
 intro i G H;rw[Nf];by_cases e:x.toNat=i
 ·have:(i:Int)=x:=oa
  rw[OU e];simp[zh,this]
 have:(i:Int)≠x:=oa
 rw[OT e];simp[zh,this]
theorem Qcv {lf:Lf}(G:∀x∈a.mr,0<=x)(k:Nat):(a.mr.take k).foldl (ds1 lf) (oN a.st.toNat (-1),[])=(zh a.st.toNat ((a.mr.take k).filter (lft lf)),(a.mr.take k).filter (lft lf)):=by
 induction k with
 | zero =>
  simp only[List.take_zero,List.foldl_nil,List.filter_nil];congr 1;apply Mv
  ·simp[zh]
  intro i H I;simp[zh]
 | succ k ih =>
  by_cases E:k<a.mr.length
  ·rw[Lm E,MG,ih,L6];simp only[List.foldl_cons,List.foldl_nil,ds1];by_cases hl:lft lf (a.mr[k]'E)=true
   ·rw[OU hl,QfK (G _ (Ll E))];simp[hl]
   rw[OT hl];simp[hl]
  have e:a.mr.take (k+1)=a.mr.take k:=by rw[Lt oa,Lt oa]
  rw[e];exact ih
theorem Qpe {lf:Lf}(E:∀x∈a.mr,0<=x):ds0 a lf=(zh a.st.toNat (a.mr.filter (lft lf)),a.mr.filter (lft lf)):=by
 have:=Qcv (lf:=lf) E a.mr.length;rw[M8]at this;exact this
theorem QlU (l:LI)(G:l.Nodup)(H:∀x∈l,0<=x/\x<(n:Int)):neg (zh n l)+l.length=n:=by
 have key:∀k,k<=l.length->neg (zh n (l.take k))+k=n:=by
  intro k;induction k with
  | zero =>
   intro _;have e:zh n (l.take 0)=oN n (-1):=by
    apply Mv
    ·simp[zh]
    intro i I V;simp[zh]
   rw[e];unfold neg;simp
  | succ k ih =>
   intro Y;have I:=ih oa;have hx:=H _ (Ll (show k<l.length by omega));rw[Lm (show k<l.length by omega),<-QfK hx.1];have J:(l[k]'oa).toNat<(zh n (l.take k)).length:=by rw[UX];omega
   have ha:=UB (zh n (l.take k)) (l[k]'oa).toNat 0 J (by
    have e:(((l[k]'oa).toNat:Nat):Int)=l[k]'oa:=oa
    have O:(l[k]'oa)∉l.take k:=λh=>by
     obtain⟨j,S,E⟩:=LG h;rw[Nl]at E;have T:j<k:=by simp at S;omega
     have:=(MR.1 G) j k oa oa T;exact this E
    simp[zh,e,O]) (NM _)
   omega
 have:=key l.length (Lx _)
 rwa [M8]at this
theorem Qpd {lf:Lf}(E:ZA a)(H:a.st=(n:Int)):DsI n (ds0 a lf):=by
 have G:∀x∈a.mr.filter (lft lf),0<=x/\x<(n:Int):=λx hx=>by rw[<-H];exact E.mr x (L8.1 hx).1
 have e:a.st.toNat=n:=oa
 rw[Qpe (λx hx=>(E.mr x hx).1),e];refine⟨Qpv G,QlU _ ((E.mri.imp (λh=>oa)).filter _) G,λx hx=>?_⟩;rw[Qm9 (G x hx) hx];exact NM _
def Ua (l:Lf):Nat:=l.countP (· == true)
theorem QmV (l:Lf):Ua l<=l.length:=List.countP_le_length
theorem Qft (l:Lf)(s:Int):(cut l s).length=l.length:=by simp[cut]
theorem yQ:∀(xs:LI) (l:Lf),(xs.foldl cut l).length=l.length
 | [],_=>rfl
 | x::xs,l=>by rw[LZ,yQ xs,Qft]
theorem Qfv:∀(l:Lf) (i:Nat),Ua (l.set i false)+(if l.getD i false=true then 1 else 0)=Ua l
 | [],i=>by simp[Ua]
 | b::l,0=>by cases b <;> simp[Ua]
 | b::l,i+1=>by
  have ih:=Qfv l i;unfold Ua at *;simp only[List.set_cons_succ,List.countP_cons,List.getD_cons_succ];omega
theorem Qfw (l:Lf)(s:Int):Ua (cut l s)+(if lft l s=true then 1 else 0)=Ua l:=Qfv l s.toNat
theorem QcC:∀(xs:LI) (l:Lf),Ua (xs.foldl cut l)<=Ua l
 | [],_=>Lx _
 | x::xs,l=>by
  have E:=QcC xs (cut l x);have G:=Qfw l x;rw[LZ];omega
theorem QjZ {xs:LI}{l:Lf}(h:0<xs.length)(E:∀x∈xs,lft l x=true):Ua (xs.foldl cut l)<Ua l:=by
 cases xs with
 | nil=>simp at h
 | cons x xs =>
  have H:=QcC xs (cut l x);have G:=Qfw l x;rw[OU (E x Lp)]at G;rw[LZ];omega
def QkM (a:Q0)(lf:Lf)(out:xx):Prop:=∀p∈out,lft lf p.1=true/\∃e∈a.ed,e.1=p.1/\e.2.1=p.2
theorem Ql0 {lf:Lf}{out:xx}{e:Ed}(h:QkM a lf out)(G:e∈a.ed):QkM a lf (Ve ul lf out e)/\(Ve ul lf out e).length<=out.length+1:=by
 unfold Ve;split
 ·exact⟨h,oa⟩
 rename_i H;split
 ·exact⟨h,oa⟩
 refine⟨λp E=>?_,oe⟩;simp only[oU,oI]at E;rcases E with E|rfl
 ·exact h p E
 exact⟨by cases hl:lft lf e.1 with|true=>rfl|false=>exact OW (.inl hl) H,e,G,rfl,rfl⟩
theorem yw {a:Q0}{ul:LI}{lf:Lf}:∀(l:List Ed) (out:xx),(∀e∈l,e∈a.ed)->QkM a lf out->QkM a lf (l.foldl (Ve ul lf) out)/\(l.foldl (Ve ul lf) out).length<=out.length+l.length
 | [],out,_,h=>⟨h,oe⟩
 | e::l,out,hl,h=>by
  obtain⟨E,I⟩:=Ql0 (ul:=ul) h (hl e Lp);obtain⟨G,J⟩:=yw l _ (λe H=>hl e (Lj _ H)) E;exact⟨G,by rw[LZ,LT];omega⟩
theorem QaS (a:Q0)(ul:LI)(lf:Lf):QkM a lf (lost a ul lf)/\(lost a ul lf).length<=a.ed.length:=by
 have:=yw (ul:=ul) (lf:=lf) a.ed [] (λ_ h=>h) (λp E=>by cases E);unfold lost;simpa using this
theorem UY (lf:Lf):∀(l:LI) (i:Nat),(∀x∈VO lf i l,lft lf x=true/\(i:Int)<=x/\x<(i:Int)+l.length)/\(VO lf i l).length<=l.length
 | [],i=>⟨λx hx=>(by cases hx),Lx _⟩
 | d::l,i=>by
  obtain⟨E,H⟩:=UY lf l (i+1);unfold VO;split
  ·rename_i G;refine⟨λx hx=>?_,by simp;omega⟩;rcases Li.1 hx with rfl|hx
   ·exact⟨by unfold lft;simpa using G.1,NM _,by simp;omega⟩
   have:=E x hx;exact⟨this.1,oa,by simp only[oW];omega⟩
  refine⟨λx hx=>?_,by simp;omega⟩;have:=E x hx;exact⟨this.1,oa,by simp only[oW];omega⟩
theorem QiC {lf:Lf}(x:Int)(hx:x∈nxs a ul lf):lft lf x=true:=by
 unfold nxs at hx;split at hx
 ·obtain⟨p,E,rfl⟩:=LC.1 hx;exact((QaS a ul lf).1 p E).1
 exact((UY lf (dsts a lf) 0).1 x hx).1
theorem Qga {f:Nat}{lf:Lf}(h:(nxs a ul lf).length=0):ya a ul f lf=lf:=by
 cases f with
 | zero=>rfl
 | succ f=>rw[ya,OU h]
theorem Qf9 {f:Nat}{lf:Lf}(h:(nxs a ul lf).length≠0):ya a ul (f+1) lf=ya a ul f ((nxs a ul lf).foldl cut lf):=by rw[ya,OT h]
theorem QiD {lf:Lf}(h:(nxs a ul lf).length≠0):Ua ((nxs a ul lf).foldl cut lf)<Ua lf:=QjZ oa (λx hx=>QiC x hx)
theorem Qf5 (h:ZA a)(lf:Lf):ZA (rstr a lf):=
 ⟨h.al,h.ali,h.st0,h.st1,h.mr,h.mri,λe E=>h.ed e (L8.1 E).1,h.edi.filter _⟩
def pst (v:Int)(a:Q0)(x:Int):Option Int:=if v∈a.al then xo a.ed x v else some x
def nx (v:Int)(A:Nat->Q0)(x:Nat->Int)(i:Nat):Int:=(pst v (A i) (x i)).getD 0
abbrev QG (p:Int×Int):LV:=[oF oG p.1,oF oG p.2]
theorem YD (p:Int×Int):(QG p).length=2:=rfl
abbrev js (L:LN)(H:xC)(v:O2)(l:xx):Prop:=Zp L H v l.length 2 (l.flatMap QG)
abbrev Zl (e:Ka):LV:=[.string e.nm,.bool e.co,.bool e.ob,.bool e.fo,oF oG e.fl]
theorem UM (e:Ka):(Zl e).length=5:=rfl
abbrev Kl (s:ByteArray):Prop:=s.size<=9223372036854775807
structure VQ (L:LN)(H:xC)(v:O2)(l:List Ka):Prop where
 arr:Zp L H v l.length 5 (l.flatMap Zl)
 nm:∀e∈l,Kl e.nm
theorem VQ.I {L:LN}{w w':O1}{v:O2}{l:List Ka}(h:VQ L w.heap v l)(E:O5 [] w w'):VQ L w'.heap v l:=⟨h.arr.I E,h.nm⟩
theorem VQ.st {L:LN}{w w':O1}{v:O2}{l:List Ka}(h:VQ L w.heap v l)(E:O5 L w w'):VQ L w'.heap v l:=⟨h.arr.st E,h.nm⟩
theorem VQ.up {L L':LN}{H:xC}{v:O2}{l:List Ka}(h:VQ L H v l)(E:∀b∈L',b∈L\/H.size<=b):VQ L' H v l:=⟨h.arr.up E,h.nm⟩
structure IV where
 nm:ByteArray
 p:AV
def IV.it (q:IV):YV:=⟨q.nm,q.p.a⟩
abbrev QM (q:IV):LV:=[.string q.nm,q.p.va,oF oG q.p.a.st,q.p.vm,q.p.ve]
theorem Yn (q:IV):(QM q).length=5:=rfl
structure XW (L:LN)(H:xC)(v:O2)(qs:List IV):Prop where
 arr:Zp L H v qs.length 5 (qs.flatMap QM)
 each:∀q∈qs,ZG L H q.p.va q.p.vm q.p.ve q.p.a
 nm:∀q∈qs,Kl q.nm
structure XV where
 nm:ByteArray
 v:O2
 ls:xx
def XV.x (q:XV):U0:=⟨q.nm,q.ls⟩
abbrev Q5 (q:XV):LV:=[.string q.nm,q.v]
theorem XC (q:XV):(Q5 q).length=2:=rfl
structure jg (L:LN)(H:xC)(v:O2)(qs:List XV):Prop where
 arr:Zp L H v qs.length 2 (qs.flatMap Q5)
 each:∀q∈qs,js L H q.v q.ls
 nm:∀q∈qs,Kl q.nm
structure KV where
 nm:ByteArray
 v:O2
 ts:xx
 bd:Int
def KV.k (q:KV):xL:=⟨q.nm,q.ts,q.bd⟩
abbrev Za (q:KV):LV:=[.string q.nm,q.v,oF oG q.bd]
theorem Xs (q:KV):(Za q).length=3:=rfl
structure jb (L:LN)(H:xC)(v:O2)(qs:List KV):Prop where
 arr:Zp L H v qs.length 3 (qs.flatMap Za)
 each:∀q∈qs,js L H q.v q.ts
 nm:∀q∈qs,Kl q.nm
theorem XW.I {L:LN}{w w':O1}{v:O2}{qs:List IV}(h:XW L w.heap v qs)(E:O5 [] w w'):XW L w'.heap v qs:=⟨h.arr.I E,λq G=>(h.each q G).I E,h.nm⟩
theorem XW.st {L:LN}{w w':O1}{v:O2}{qs:List IV}(h:XW L w.heap v qs)(E:O5 L w w'):XW L w'.heap v qs:=⟨h.arr.st E,λq G=>(h.each q G).st E,h.nm⟩
theorem XW.up {L L':LN}{H:xC}{v:O2}{qs:List IV}(h:XW L H v qs)(E:∀b∈L',b∈L\/H.size<=b):XW L' H v qs:=⟨h.arr.up E,λq G=>(h.each q G).up E,h.nm⟩
theorem jg.I {L:LN}{w w':O1}{v:O2}{qs:List XV}(h:jg L w.heap v qs)(E:O5 [] w w'):jg L w'.heap v qs:=⟨h.arr.I E,λq G=>(h.each q G).I E,h.nm⟩
theorem jg.st {L:LN}{w w':O1}{v:O2}{qs:List XV}(h:jg L w.heap v qs)(E:O5 L w w'):jg L w'.heap v qs:=⟨h.arr.st E,λq G=>(h.each q G).st E,h.nm⟩
theorem jg.up {L L':LN}{H:xC}{v:O2}{qs:List XV}(h:jg L H v qs)(E:∀b∈L',b∈L\/H.size<=b):jg L' H v qs:=⟨h.arr.up E,λq G=>(h.each q G).up E,h.nm⟩
theorem jb.I {L:LN}{w w':O1}{v:O2}{qs:List KV}(h:jb L w.heap v qs)(E:O5 [] w w'):jb L w'.heap v qs:=⟨h.arr.I E,λq G=>(h.each q G).I E,h.nm⟩
theorem jb.st {L:LN}{w w':O1}{v:O2}{qs:List KV}(h:jb L w.heap v qs)(E:O5 L w w'):jb L w'.heap v qs:=⟨h.arr.st E,λq G=>(h.each q G).st E,h.nm⟩
theorem jb.up {L L':LN}{H:xC}{v:O2}{qs:List KV}(h:jb L H v qs)(E:∀b∈L',b∈L\/H.size<=b):jb L' H v qs:=⟨h.arr.up E,λq G=>(h.each q G).up E,h.nm⟩
structure CL where
 ve:O2
 vc:O2
 vr:O2
 vx:O2
 vk:O2
 ev:List Ka
 co:List IV
 rq:List IV
 ex:List XV
 cs:List KV
def CL.V (c:CL):Zt:=⟨c.ev,c.co.map (·.it),c.rq.map (·.it),c.ex.map (·.x),c.cs.map (·.k)⟩
abbrev CL.cells (c:CL):LV:=[c.ve,c.vc,c.vr,c.vx,c.vk]
abbrev CL.val (c:CL):O2:=.agg #[c.ve,c.vc,c.vr,c.vx,c.vk]
structure ZH (L:LN)(H:xC)(c:CL):Prop where
 ev:VQ L H c.ve c.ev
 co:XW L H c.vc c.co
 rq:XW L H c.vr c.rq
 ex:jg L H c.vx c.ex
 cs:jb L H c.vk c.cs
theorem ZH.I {L:LN}{w w':O1}{c:CL}(h:ZH L w.heap c)(E:O5 [] w w'):ZH L w'.heap c:=⟨h.ev.I E,h.co.I E,h.rq.I E,h.ex.I E,h.cs.I E⟩
theorem ZH.st {L:LN}{w w':O1}{c:CL}(h:ZH L w.heap c)(E:O5 L w w'):ZH L w'.heap c:=⟨h.ev.st E,h.co.st E,h.rq.st E,h.ex.st E,h.cs.st E⟩
theorem ZH.up {L L':LN}{H:xC}{c:CL}(h:ZH L H c)(E:∀b∈L',b∈L\/H.size<=b):ZH L' H c:=⟨h.ev.up E,h.co.up E,h.rq.up E,h.ex.up E,h.cs.up E⟩
theorem ZH.ones {c:CL}(h:ZH L H c):Zm c.cells:=⟨h.ev.arr.one,h.co.arr.one,h.rq.arr.one,h.ex.arr.one,h.cs.arr.one,Z⟩
def Qei (N:Nat)(H:xC)(v:O2)(k:Zt):Prop:=∃c:CL,v=c.val/\c.V=k/\∀L:LN,(∀b∈L,b<N)->ZH L H c
theorem VK (s:ByteArray)(ha:Kl s)(w:O1):Q6 prog 147 [.string s] w λr w'=>r=.bool (Y1 s)/\w'=w:=by
 unfold Kl at ha;refine Zo func147 ?_;refine Qc<|Qb<|Qd<|Qm<|x (Qds U)<|Qa<|xe<|Qg<|QC (α:=Nat) [(2,5),(8,46)] (λz=>[(8,oF oG z)]) (λz w'=>w'=w/\z<=s.size/\(oR z (s.size - z)).all (nmQ s)=(oR 0 s.size).all (nmQ s)) (λz=>s.size - z) ol 0 La ⟨U,Ln _,by rw[NP]⟩ ?_;rintro k g Y ⟨rfl,hk,E⟩;refine Qc<|QY U U<|xe<|Qd<|QH U (λG=>?_) (λG=>?_)
 ·refine Qz ?_;have hb:s.size<=k:=by have he:¬(k:Int)<(s.size:Int):=G;omega
  rw[QlD hb]at E;have H:Y1 s=decide (0<s.size/\s.size<=32):=by unfold Y1;rw[<-E];simp
  rw[H];refine Q3 (α:=Bool) [(2,2),(47,54)] (λz=>[(2,.bool z)]) (λz w'=>w'=Y/\z=decide (0<s.size/\s.size<=32)) ol ?_ ?_
  ·refine Qv<|Qa<|x (Qds U)<|xb (Z6 U U) (λhf=>?_) (λhf=>?_)
   ·refine Qa<|Qa<|x (Qds U)<|x (KT U U)<|QJ U<|Qb<|⟨_,La,U,by first|exact bT oa|exact bF oa|exact bD oa⟩
   refine Qa<|Qr<|Qr<|Qr<|QJ U<|Qb<|⟨_,La,U,by first|exact bT oa|exact bF oa|exact bD oa⟩
  rintro z g w2 ⟨rfl,rfl⟩;exact Qk ⟨[_],La,U,U⟩
 have I:k<s.size:=by have he:(k:Int)<(s.size:Int):=G;omega
 rw[Qh6 I,L5]at E;refine Qh<|Qd<|Qg<|Qm<|Qb<|Qm<|Qa<|x (Qih (i:=k) U U I)<|Qb ?_;have J:nmQ s k=decide (nmP k (chr s k)):=rfl;refine Zj (chr s k) λc O=>?_;rw[O]at J;refine Q3 (α:=Bool) [(5,5),(14,31)] (λz=>[(5,.bool z)]) (λz w'=>w'=Y/\z=decide ((97<=c/\c<=122)\/(65<=c/\c<=90)\/c=95)) ol ?_ ?_
 ·rw[<-O];refine Qv<|Qa<|xb (Yw U U) (λhg=>?_) (λhg=>?_)
  ·refine Qa<|Qa<|xb (KT U U) (λhh=>?_) (λhh=>?_)
   ·refine QJ U<|Qa<|Qr<|Qr<|Qr<|Qr<|Qr<|Qr<|QJ U<|Qa<|Qr<|Qr<|x (yc U) <|
     Qb<|⟨_,La,U,by first|exact bT oa|exact bF oa|exact bD oa⟩
   refine QJ U<|Qa<|Qa<|xb (Yw U U) (λS=>?_) (λS=>?_)
   ·refine Qa<|Qa<|xb (KT U U) (λT=>?_) (λT=>?_)
    ·refine QJ U<|QJ U<|Qa<|Qr<|Qr<|QJ U<|Qb<|⟨_,La,U,by first|exact bT oa|exact bF oa|exact bD oa⟩
    refine QJ U<|QJ U<|Qa<|Qa<|x (Q2 U U)<|QJ U<|Qb<|⟨_,La,U,by first|exact bT oa|exact bF oa|exact bD oa⟩
   refine Qa<|Qr<|Qr<|QJ U<|QJ U<|Qa<|Qa<|x (Q2 U U)<|QJ U<|x Ql <|
    xe ?_
   exact⟨_,La,U,by first|exact bT oa|exact bF oa|exact bD oa⟩
  refine Qa<|Qr<|Qr<|QJ U<|Qa<|Qa<|xb (Yw U U) (λS=>?_) (λS=>?_)
  ·refine Qa<|Qa<|xb (KT U U) (λT=>?_) (λT=>?_)
   ·refine QJ U<|QJ U<|Qa<|Qr<|Qr<|QJ U<|Qb<|⟨_,La,U,by first|exact bT oa|exact bF oa|exact bD oa⟩
   refine QJ U<|QJ U<|Qa<|Qa<|x (Q2 U U)<|QJ U<|Qb<|⟨_,La,U,by first|exact bT oa|exact bF oa|exact bD oa⟩
  refine Qa<|Qr<|Qr<|QJ U<|QJ U<|Qa<|Qa<|x (Q2 U U)<|QJ U<|x Ql <|
   xe ?_
  exact⟨_,La,U,by first|exact bT oa|exact bF oa|exact bD oa⟩
 rintro z g w4 ⟨rfl,rfl⟩;refine Q3 (α:=Bool) [(32,45)] (λz=>[(45,.bool z)]) (λz w'=>w'=w4/\z=decide (¬nmP k c)) ol ?_ ?_
 ·unfold nmP;rw[<-O];refine Qv<|Qa<|xb (yd U) (λhi=>?_) (λhi=>?_)
  ·refine Qa<|Qa<|xb (Q2 U U) (λhj=>?_) (λhj=>?_)
   ·refine Qa<|Qr<|Qr<|QJ U<|Qa<|Qr<|Qr<|QJ U<|QJ U<|xe ?_;exact⟨_,La,U,by first|exact bT oa|exact bF oa|exact bD oa⟩
   refine Qa<|Qa<|xb (YR U U) (λhl=>?_) (λhl=>?_)
   ·refine QJ U<|Qa<|Qr<|Qr<|QJ U<|QJ U<|xe ?_;exact⟨_,La,U,by first|exact bT oa|exact bF oa|exact bD oa⟩
   refine QJ U<|Qa<|Qa<|x (Z6 U U)<|QJ U<|QJ U<|xe ?_;exact⟨_,La,U,by first|exact bT oa|exact bF oa|exact bD oa⟩
  refine Qa<|Qr<|Qr<|Qr<|Qr<|Qr<|Qr<|Qr<|Qr<|Qr<|Qr<|QJ U<|xe ?_;exact⟨_,La,U,by first|exact bT oa|exact bF oa|exact bD oa⟩
 rintro z g w5 ⟨rfl,rfl⟩;refine QZ rfl (λV=>?_) (λV=>?_)
 ·refine Qc<|Qb ?_;have H:Y1 s=false:=by
   unfold Y1;rw[<-E,J,OZ V];rfl
  exact Qk ⟨[_],La,by rw[H];rfl,U⟩
 refine Qh ?_;have hm:nmP k c:=Lo.1 V;refine Qv<|QP U U<|Qa<|xe ?_;rw[J,OX hm,OO]at E;exact⟨k+1,oa,La,U,I,E⟩
def nmM (l:List ByteArray):List (ByteArray×O2):=l.map λs=>(s,.bool true)
theorem QlT (l:List ByteArray)(s:ByteArray):xd (nmM l) s=if s∈l then some (.bool true)else none:=by
 induction l with
 | nil=>rfl
 | cons a l ih =>
  show(if a=s then some (Value.bool true)else xd (nmM l) s)=_
  rw[ih];by_cases h:a=s
  ·subst h;simp
  have:s≠a:=λe=>h e.symm;simp[h,this]
theorem QeL {l:List ByteArray}{s:ByteArray}(h:s∉l):xh (nmM l) s (.bool true)=nmM (l++[s]):=by
 induction l with
 | nil=>rfl
 | cons a l ih =>
  have E:a≠s:=λe=>h (by subst e;exact Lp);show(if a=s then(a,Value.bool true)::nmM l else(a,Value.bool true)::xh (nmM l) s (.bool true))=_
  rw[OT E,ih (λG=>h (Lj _ G))];rfl
section
variable {pS:String}
theorem QbW [hm:Mp P t kt et (.bool false)][hk:Key P kt JL]{x:O3}{l:List ByteArray}{s:ByteArray}(h:Ym JL w.heap b (nmM l))(hx:ev f x=.map (some b))(E:ev f y=.string s):
  (execOp (ev f) ⟨d,.lookup t x y false,ty,pS,af,gd⟩).run P w=.ok (.value (.bool (decide (s∈l)))) w:=by
 rw[JA h hx E,QlT];by_cases G:s∈l <;> simp[G]
end
theorem QdY {s:List ByteArray}{l:List Ka}{k:Nat}(h:k<l.length):qR s (l.drop k)=if Jn s (l[k]'h)≠0 then Jn s (l[k]'h)else qR (s++[(l[k]'h).nm]) (l.drop (k+1)):=by
 rw[Zf h];rfl
theorem yM {v:O2}{l:List Ka}(h:VQ L w.heap v l):Q6 prog 81 [v] w λr w'=>r=oF oG (Kf l)/\O5 [] w w':=by
 have h0:=h.arr.le;refine Zo func81 ?_;refine Qc<|Qb<|Qd<|Qm<|QL h.arr U<|x (Z6 U U)<|xe<|QZ rfl (λh8=>?_) (λh8=>?_)
 ·refine Qc<|Qb<|Qk ⟨[_],La,by unfold Kf;rw[OU (by have h9:(32:Int)<(l.length:Int):=h8;omega)];rfl,O5.Z _ _⟩
 have hm:Kf l=qR [] l:=by unfold Kf;rw[OT (by have h9:¬(32:Int)<(l.length:Int):=h8;omega)]
 rw[hm];refine Qh<|Qc<|Qe<|YE JL λb9 w1 hg ho hp=>Qb<|Qd<|Qm<|QL (h.arr.I hg) U<|Qa<|xe<|Qg<|QC (α:=Nat×List ByteArray) [(2,2),(5,5),(12,50)] (λz=>[(12,oF oG z.1)]) (λz w'=>z.1<=l.length/\O5 [] w w'/\Ym JL w'.heap b9 (nmM z.2)/\qR z.2 (l.drop z.1)=qR [] l) (λz=>l.length - z.1) ol (0,[]) La
  ⟨Ln _,hg,hp,U⟩ ?_
 rintro⟨k,sn⟩ g w2 ⟨hk,I,hh,E⟩;simp only[]at hk hh E;refine Qc<|QY U U<|xe<|Qd<|QH U (λha=>?_) (λha=>?_)
 ·refine Qz ?_;have hq:l.length<=k:=by have hr:¬(k:Int)<(l.length:Int):=ha;omega
  rw[Lr hq]at E;refine Qc<|Qb<|Qk ⟨[_],La,by rw[<-E];rfl,I⟩
 have T:k<l.length:=by have hr:(k:Int)<(l.length:Int):=ha;omega
 rw[QdY T]at E;have hi:=h.nm _ (Ll T);refine Qh<|Qd<|Qg<|Qc<|O8 UM (h.arr.I I) U U T λh2 hj=>?_;refine Zj (l[k]'T) λe he=>?_;rw[he]at hj E hi;refine x (Qw hj U U)<|Qe<|Qo (us:=[.string .empty,.bool false,.bool false,.bool false,oF oG 0]) U λb5 w3 hs ht H=>Qe<|Qj (us:=Zl e) H U U U U ⟨U,U,U,U,U,Z⟩ λw4 hu H =>
  xe ?_
 have J:O5 [] w2 w4:=hs.O hu ht;have hl:=hh.I J;refine Qd<|Qg<|Qc<|Qs U H U U<|QN<|(VK e.nm hi _).mono ?_;rintro r5 w5 ⟨rfl,rfl⟩;refine x (ZB U)<|Qb<|QX U (λhb=>?_) (λhb=>?_)
 ·have O:Y1 e.nm=false:=by simpa using hb
  have G:Jn sn e=7:=by unfold Jn;rw[OU O]
  refine Qc<|Qb<|Qk ⟨[_],La,by rw[<-E,G];rfl,I.D J⟩
 have O:¬Y1 e.nm=false:=by simpa using hb
 refine Qm<|Qs U H U U<|x (QbW hl U U)<|Qb<|QZ U (λS=>?_) (λS=>?_)
 ·have G:Jn sn e=8:=by unfold Jn;rw[OT O,OU S]
  refine Qc<|Qb<|Qk ⟨[_],La,by rw[<-E,G];rfl,I.D J⟩
 refine Q3 (α:=Bool) [(26,34)] (λz=>[(26,.bool z)]) (λz w'=>w'=w5/\z=decide (e.fl<0\/4<e.fl)) ol ?_ ?_
 ·refine Qv<|Qs U H U U<|xb (YR U U) (λhv=>?_) (λhv=>?_)
  ·refine Qa<|Qr<|Qr<|Qr<|QJ U<|Qb<|⟨_,La,U,by first|exact bT oa|exact bF oa|exact bD oa⟩
  refine Qa<|Qs U H U U<|x (Z6 U U)<|QJ U<|Qb<|⟨_,La,U,by first|exact bT oa|exact bF oa|exact bD oa⟩
 rintro z g w6 ⟨rfl,rfl⟩;refine QZ rfl (λV=>?_) (λV=>?_)
 ·have G:Jn sn e=2:=by unfold Jn;rw[OT O,OT S,OU V]
  refine Qc<|Qb<|Qk ⟨[_],La,by rw[<-E,G];rfl,I.D J⟩
 refine Q3 (α:=Bool) [(35,46)] (λz=>[(35,.bool z)]) (λz w'=>w'=w6/\z=decide (e.fl≠0/\(e.co || e.ob)=true)) ol ?_ ?_
 ·refine Qv<|Qs U H U U<|xb (XZ U U) (λY=>?_) (λY=>?_)
  ·refine Qa<|Zc U<|xB (Qq H U U) (λhc=>?_) (λhc=>?_)
   ·refine Qa<|Qr<|Qr<|QJ U<|QJ U<|Qb<|⟨_,La,U,by rw[hc,OX ⟨Y,oe⟩]⟩
   refine Qa<|Qs U H U U<|QJ U<|QJ U<|Qb<|⟨_,La,U,?_⟩;show e.ob=_;rw[hc];cases e.ob <;> simp[show ¬e.fl=0 from Y]
  refine Qa<|Qr<|Qr<|Qr<|Qr<|Qr<|Qr<|QJ U<|Qb<|⟨_,La,U,bF (λG=>Y G.1)⟩
 rintro z g w7 ⟨rfl,rfl⟩;refine QZ rfl (λhf=>?_) (λhf=>?_)
 ·have G:Jn sn e=13:=by unfold Jn;rw[OT O,OT S,OT V,OU hf]
  refine Qc<|Qb<|Qk ⟨[_],La,by rw[<-E,G];rfl,I.D J⟩
 have G:Jn sn e=0:=by unfold Jn;rw[OT O,OT S,OT V,OT hf]
 rw[G,OT (λh=>h rfl)]at E;refine Qh<|Qv<|Qa<|Qs U H U U<|Qe<|XI (k:=e.nm) hl U U λw8 hw hy=>xe ?_;refine Qv<|QP U U<|Qa<|xe ?_;have hz:Ym JL w8.heap b9 (nmM (sn++[e.nm])):=by rw[<-QeL S];exact hy
 exact⟨(k+1,sn++[e.nm]),oh,La,T,(I.D J).O hw ho,hz,E⟩
theorem Qcc {α:Type}(q:α->Bool)(x:α):∀(l:List α) (i:Nat),ixs q i (l++[x])=ixs q i l++if q x=true then[((i+l.length:Nat):Int)]else[]
 | [],i=>by simp[ixs]
 | a::l,i=>by
  have ih:=Qcc q x l (i+1);simp only[Ob,ixs,ih,oW];rw[show i+1+l.length=i+(l.length+1) by omega];split <;> simp
theorem Qa1 {α:Type}(q:α->Bool):∀(l:List α) (i:Nat),(ixs q i l).length<=l.length
 | [],i=>by simp[ixs]
 | a::l,i=>by
  have ih:=Qa1 q l (i+1);unfold ixs;split <;> simp <;> omega
theorem Qi9 (q:α->Bool){l:List α}{k:Nat}(h:k<l.length):ixs q 0 (l.take (k+1))=ixs q 0 (l.take k)++if q (l[k]'h)=true then[(k:Int)]else[]:=by
 rw[Lm h,Qcc];simp[Nat.min_eq_left (Nat.le_of_lt h)]
theorem QgY [Fu prog g fn]{q:Ka->Bool}(hq:∀(e:Ka) (w:O1),Q6 prog g [.agg (Zl e).toArray] w λr w'=>r=.bool (q e)/\O5 [] w w'){v:O2}{l:List Ka}(h:VQ L w.heap v l):
  Q6 prog 237 [v,.func (.func g) #[] #[]] w λr w'=>O5 [] w w'/\Qu 3 w.heap.size w' r (ixs q 0 l):=by
 have hr:=h.arr.le;refine Zo func237 ?_;refine Qc<|Qb<|Qc<|Qb<|Qd<|Qm<|QL h.arr U<|Qa<|xe<|Qg<|QC (α:=Nat×O2) [(5,7),(10,22)] (λz=>[(5,z.2),(10,oF oG z.1)]) (λz w'=>z.1<=l.length/\O5 [] w w'/\Qu 3 w.heap.size w' z.2 (ixs q 0 (l.take z.1))) (λz=>l.length - z.1) ol (0,nS) oA
  ⟨Ln _,O5.Z _ _,QI _ _ _ _⟩ ?_
 rintro⟨k,vo⟩ g w1 ⟨hk,E,I⟩;simp only[]at hk I;refine Qc<|QY U U<|xe<|Qd<|QH U (λO=>?_) (λO=>?_)
 ·refine Qz ?_;have hc:l.length<=k:=by have hf:¬(k:Int)<(l.length:Int):=O;omega
  rw[Lt hc]at I;refine Qm<|Qb<|Qk ⟨[_],La,E,I⟩
 have G:k<l.length:=by have hf:(k:Int)<(l.length:Int):=O;omega
 have H:=Qi9 q G;have hs:=Qa1 q (l.take k) 0;have ht:(l.take k).length=k:=by simp;omega
 refine Qh<|Qd<|Qg<|Qm<|O8 UM (h.arr.I E) U U G λhu ha=>?_;refine Zj (l[k]'G) λe he=>?_;rw[he]at ha H;refine x (Qw ha U U)<|Qe<|Qo (us:=[.string .empty,.bool false,.bool false,.bool false,oF oG 0]) U λb7 w2 hg hh S=>x Ql <|
  Qe<|Qj (us:=Zl e) S U U U U ⟨U,U,U,U,U,Z⟩ λw3 hi S=>xe ?_
 have hj:O5 [] w1 w3:=hg.O hi hh;refine Qm<|Q9 S U U<|Qe<|xc (first:=[]) (capt:=[]) U<|(hq e w3).mono ?_;rintro r4 w4 ⟨rfl,hl⟩;have J:=hj.D hl;have T:=Qn I J;have hv:=(E.D J).size;refine xe<|QX rfl (λV=>?_) (λV=>?_)
 ·rw[OU V]at H;refine Qv<|Qa<|Qa<|Qe<|QA (us:=[[oF oG k]]) U U og oe ⟨rfl,rfl,Z⟩ λhw w5 Y hy hm=>?_;have hn:=Qn T Y;have hz:=Y.size;refine Qe<|Q8 (news:=[oF oG k]) (L:=[]) hn U U U (hm.at oe) (by simp[Value.oneCell']) oa oa λv6 w6 ho hp h0 =>
   Qb ?_
  have hge:=Qi T;refine Qv<|QP U U<|Qa<|xe<|⟨(k+1,v6),oh,oA,G,((E.D J).D Y).then hp (λb hb=>.inr (hge b hb).1),?_⟩;simp only[];rw[H];exact Qu.snoc ho
 rw[OT (by rw[V];decide),LQ]at H;refine Qh<|Qv<|QP U U<|Qa<|xe ?_;exact⟨(k+1,vo),oh,oA,G,E.D J,by simp only[];rw[H];exact T⟩
theorem Qd8 (e:Ka)(w:O1):Q6 prog 232 [.agg (Zl e).toArray] w λr w'=>r=.bool (!e.co)/\O5 [] w w':=by
 refine Zo func232 ?_;refine Qc<|Qe<|QV (us:=Zl e) U λb1 H E I G=>Qb<|Qc<|Qs U G U U<|x (ZB U)<|Qb<|Qk ⟨[_],La,U,E⟩
theorem Qhd {v:O2}{l:List Ka}(h:VQ L w.heap v l):Q6 prog 163 [v,oF oG 2] w λr w'=>O5 [] w w' /\
  ∃vo,r=.tuple #[vo,oF oG (Kf l)]/\Qu 3 w.heap.size w' vo (if Kf l=0 then unc l else[]):=by
 refine Zo func163 ?_;refine Qc<|x Ql<|Qb<|Qd<|Qm<|ZM<|(yM h).mono ?_;rintro r1 O ⟨rfl,I⟩;refine Qb<|Qm<|ZD U U<|xe<|QZ rfl (λG=>?_) (λG=>?_)
 ·refine Qm<|x Ql<|Qb<|Qk ⟨[_,_],oA,I,_,U,by rw[OT G];exact QI _ _ _ _⟩
 have J:Kf l=0:=Lo.1 G;refine Qh<|Qc<|Qe<|YE V6 λho w2 S E T=>Qe<|Jb (k:=1) T U U λw3 V Y=>Qe<|Jb (k:=2) Y U U λw4 ha hb =>
  Qe<|Jb (k:=3) hb U U λw5 hc he=>Qe<|Jb (k:=4) he U U λw6 hf hg=>Qe<|Jb (k:=5) hg U U λw7 hh hi=>Qe<|Jb (k:=6) hi U U λw8 hj hk =>
  Qa<|Qb ?_
 have hl:O5 [] O w8:=(((((S.O V E).O ha E).O hc E).O hf E).O hh E).O hj E;refine Qm<|Qa<|x (jK (k:=(2:Int)) hk U U U)<|Qa<|Zd U U<|Zd U U<|x Ql<|Qb<|Qd<|Qm<|x (ZB U)<|xe<|Z0 rfl<|Qh ?_;have H:=I.D hl;refine Qm<|Qa<|ZM<|(QgY Qd8 (h.I H)).mono ?_;rintro r9 w9 ⟨hm,hn⟩;refine x Ql<|Qb<|Qk ⟨[_,_],oA,H.D hm,_,by rw[J];rfl,?_⟩;rw[OU J];exact Zu hn H.size
theorem Qcg (n:Int)(w:O1):Q6 prog 222 [oF oG n] w λr w'=>r=.bool (grt n)/\w'=w:=by
 refine Zo func222 ?_;refine Qc<|Qb<|Q3 (α:=Bool) [(2,8)] (λz=>[(2,.bool z)]) (λz w'=>w'=w/\z=grt n) ol ?_ ?_
 ·refine Qv<|Qa<|xb (YR U U) (λE=>?_) (λE=>?_)
  ·refine Qa<|Qr<|Qr<|QJ U<|Qb<|⟨_,La,U,by unfold grt;rw[OX E];rfl⟩
  refine Qa<|Qa<|x (Z6 U U)<|QJ U<|Qb<|⟨_,La,U,by unfold grt;rw[OZ E];rfl⟩
 rintro z g G ⟨rfl,rfl⟩;exact Qk ⟨[_],La,U,U⟩
theorem QdX {sz:LI}{k:Nat}(h:k<ls.length):X1 sz (pv (ls.map (·.1)) k) (ls.drop k)=if(ls[k]'h).1<0\/(sz.length:Int)<=(ls[k]'h).1 then 2 else if jm (pv (ls.map (·.1)) k) (ls[k]'h).1=true then 5 else if(ls[k]'h).2<0\/O6 sz (ls[k]'h).1.toNat<=(ls[k]'h).2 then 2 else X1 sz (pv (ls.map (·.1)) (k+1)) (ls.drop (k+1)):=by
 rw[Zf h,Vu (oz h),LO];rfl
theorem UU {sz:LI}{nm:ByteArray}(hS:QR [] w.heap vs sz)(hl:js [] w.heap vl ls):
  Q6 prog 157 [.agg #[vs,vx,vk],.agg #[.string nm,vl]] w λr w'=>r=oF oG (Jm sz ls)/\O5 [] w w':=by
 have hG:=hl.le;refine Zo func157 ?_;refine Qc<|Qe<|QV (us:=[vs,vx,vk]) U λb2 w1 hy hH V=>Qe<|QV (us:=[.string nm,vl]) U λb3 w2 hp hI Y=>Qb ?_;have H:=hy.D hp
 replace V:=V.I hp;refine Qd<|Qc<|Qs U Y U U<|QL (hl.I H) U<|x (Q2 U U)<|xe<|QZ rfl (λha=>?_) (λha=>?_)
 ·refine Qc<|Qb<|Qk ⟨[_],La,by unfold Jm;rw[OU (by have hz:(ls.length:Int)=0:=ha;omega)];rfl,H⟩
 have h0:ls.length≠0:=by have hz:¬(ls.length:Int)=0:=ha;omega
 have h1:Jm sz ls=X1 sz none ls:=by unfold Jm;rw[OT h0]
 rw[h1];refine Qh<|Qd<|Qc<|Qs U Y U U<|QL (hl.I H) U<|Qa<|xe<|Qg<|QC (α:=Nat) [(4,6),(14,61)] (λz=>[(14,oF oG z)]) (λz w'=>z<=ls.length/\O5 [] w2 w'/\X1 sz (pv (ls.map (·.1)) z) (ls.drop z)=X1 sz none ls) (λz=>ls.length - z) ol 0 La
  ⟨Ln _,O5.Z _ _,U⟩ ?_
 rintro k g w3 ⟨hk,O,G⟩;have hb:=H.D O;have hq:=V.I O;have h2:=Y.I O;have hr:=hl.I hb;have hs:=hS.I hb;refine Qc<|QY U U<|xe<|Qd<|QH U (λhf=>?_) (λhf=>?_)
 ·refine Qz ?_;have h3:ls.length<=k:=by have h4:¬(k:Int)<(ls.length:Int):=hf;omega
  rw[Lr h3]at G;refine Qc<|Qb<|Qk ⟨[_],La,by rw[<-G];rfl,hb⟩
 have S:k<ls.length:=by have h4:(k:Int)<(ls.length:Int):=hf;omega
 rw[QdX S]at G;refine Qh<|Qd<|Qg<|Qm<|O8 YD hr U U S λhJ ht=>?_;refine Zj (ls[k]'S) λe he=>?_;rw[he]at ht G;refine x (Qw ht U U)<|Qe<|Qo (us:=[oF oG 0,oF oG 0]) U λb6 w4 h5 h6 J=>x Ql<|Qe<|Qj (us:=QG e) J U U U U oA λw5 h7 J=>xe ?_;have I:O5 [] w3 w5:=h5.O h7 h6;have hu:=O.D I;refine Qg<|Q3 (α:=Bool) [(19,30)] (λz=>[(19,.bool z)]) (λz w'=>w'=w5/\z=decide (e.1<0\/(sz.length:Int)<=e.1)) ol ?_ ?_
 ·refine Qv<|Qs U J U U<|xb (YR U U) (λh8=>?_) (λh8=>?_)
  ·refine Qa<|Qr<|Qr<|Qr<|Qr<|Qr<|Qr<|QJ U<|Qb<|⟨_,La,U,by first|exact bT oa|exact bF oa|exact bD oa⟩
  refine Qa<|Qs U J U U<|Qs U (hq.I I) U U<|QL (hs.I I) U<|x (Yw U U) <|
   QJ rfl<|Qb<|⟨_,La,U,by first|exact bT oa|exact bF oa|exact bD oa⟩
 rintro z g w6 ⟨rfl,rfl⟩;refine QZ rfl (λhg=>?_) (λhg=>?_)
 ·rw[OU hg]at G;refine Qc<|Qb<|Qk ⟨[_],La,by rw[<-G];rfl,H.D hu⟩
 rw[OT hg]at G;have h9:e.1=((e.1.toNat:Nat):Int):=oa
 have hA:e.1.toNat<sz.length:=oa
 refine Q3 (α:=Bool) [(31,45)] (λz=>[(31,.bool z)]) (λz w'=>O5 [] w6 w'/\z=jm (pv (ls.map (·.1)) k) e.1) ol ?_ ?_
 ·refine ZF [] (Xi 0 15 [])<|p QF<|pb (λ_=>Z6 U U) (λhh=>?_) (λhh=>?_)
  ·have hi:k≠0:=by have hB:(0:Int)<(k:Int):=hh;omega
   have hk1:((k:Int) - 1)=((k - 1:Nat):Int):=oa
   have hj:k - 1<ls.length:=oa
   refine p QF<|p (QQ U)<|pq (λ_ E=>Qq (J.I E) U U)<|p (QQ U)<|pq (λ_ E=>Qq ((h2.I I).I E) U U) <|
    p QF<|p (λ_=>JH U U ⟨oa,oa⟩)<|Lg.pig (g:=QG) (i:=k - 1) U YD (hr.I I) U (OV (Value.int .i64) hk1) hj λhK hC=>p (λ_=>Zs U) <|
    pq (λ_ E=>QD ((hC.fld 0 _ U).I E) U)<|p (λ_=>KT U U)<|p (Xk U)<|p ZI<|pe ?_
   refine⟨_,La,O5.C _ _,?_⟩;have:pv (ls.map (·.1)) k=some (ls[k - 1]'hj).1:=by simp[pv,hi,hj]
   rw[this];rfl
  have hi:k=0:=by have hB:¬(0:Int)<(k:Int):=hh;omega
  refine p QF<|ps<|ps<|ps<|ps<|ps<|ps<|ps<|ps<|ps<|ps<|p (Xk U)<|p ZI<|pe ?_;exact⟨false,La,O5.C _ _,by simp[pv,hi,jm]⟩
 rintro z g w7 ⟨T,rfl⟩;have hv:=hu.D T;refine QX rfl (λhm=>?_) (λhm=>?_)
 ·rw[OU hm]at G;refine Qc<|Qb<|Qk ⟨[_],La,by rw[<-G];rfl,H.D hv⟩
 rw[OT (by simp[hm])]at G;have hn:=J.I T;refine Q3 (α:=Bool) [(46,60)] (λz=>[(46,.bool z)]) (λz w'=>O5 [] w7 w'/\z=decide (e.2<0\/O6 sz e.1.toNat<=e.2)) ol ?_ ?_
 ·refine ZF [] (Xi 0 15 [])<|p (QQ U)<|pq (λ_ E=>Qq (hn.I E) U U)<|pb (λ_=>YR U U) (λhD=>?_) (λhD=>?_)
  ·refine p QF<|ps<|ps<|ps<|ps<|ps<|ps<|ps<|ps<|ps<|p (Xk U)<|p ZI<|pe ?_;exact⟨_,La,O5.C _ _,by first|exact bT oa|exact bF oa|exact bD oa⟩
  refine p QF<|p (QQ U)<|pq (λ_ E=>Qq (hn.I E) U U)<|p (QQ U)<|pq (λ_ E=>Qq (((hq.I I).I T).I E) U U) <|
   p (QQ rfl)<|pq (λ_ E=>Qq (hn.I E) U U)<|pic (i:=e.1.toNat) U ((hs.I I).I T) U (OV (Value.int .i64) h9) hA λhL hE=>pq (λ_ E=>QD (hE.I E) U) <|
   p (λ_=>Yw U U)<|p (Xk U)<|p ZI<|pe ?_
  exact⟨_,La,O5.C _ _,by first|exact bT oa|exact bF oa|exact bD oa⟩
 rintro z g w8 ⟨hF,rfl⟩;have hw:=hv.D hF;refine QZ rfl (λho=>?_) (λho=>?_)
 ·rw[OU ho]at G;refine Qc<|Qb<|Qk ⟨[_],La,by rw[<-G];rfl,H.D hw⟩
 rw[OT ho]at G;refine Qh<|Qv<|QP U U<|Qa<|xe ?_;exact⟨k+1,oa,La,S,hw,G⟩
theorem QdW {sz:LI}{k:Nat}(h:k<ls.length):J7 sz (pv (ls.map (·.1)) k) (ls.drop k)=if(ls[k]'h).1<0\/(sz.length:Int)<=(ls[k]'h).1 then 2 else if jm (pv (ls.map (·.1)) k) (ls[k]'h).1=true then 5 else if(ls[k]'h).2=0\/grt (ls[k]'h).2=true then 2 else J7 sz (pv (ls.map (·.1)) (k+1)) (ls.drop (k+1)):=by
 rw[Zf h,Vu (oz h),LO];rfl
theorem Uf {sz:LI}{nm:ByteArray}{bd:Int}(hS:QR [] w.heap vs sz)(hl:js [] w.heap vl ls):
  Q6 prog 159 [.agg #[vs,vx,vk],.agg #[.string nm,vl,oF oG bd]] w λr w'=>r=oF oG (Xz sz ⟨nm,ls,bd⟩)/\O5 [] w w':=by
 have hG:=hl.le;refine Zo func159 ?_;refine Qc<|Qe<|QV (us:=[vs,vx,vk]) U λb2 w1 h0 hH V=>Qe<|QV (us:=[.string nm,vl,oF oG bd]) U λb3 w2 hq hI Y=>Qb ?_;have G:=h0.D hq
 replace V:=V.I hq;refine Qd<|Qc<|Qs U Y U U<|QL (hl.I G) U<|x (Q2 U U)<|xe<|QZ rfl (λha=>?_) (λha=>?_)
 ·refine Qc<|Qb<|Qk ⟨[_],La,by unfold Xz;rw[OU (by have h1:(ls.length:Int)=0:=ha;show ls.length=0;omega)];rfl,G⟩
 have h2:ls.length≠0:=by have h1:¬(ls.length:Int)=0:=ha;omega
 have h3:Xz sz ⟨nm,ls,bd⟩=if J7 sz none ls≠0 then J7 sz none ls else if grt bd=true then 2 else 0:=by unfold Xz;rw[OT h2]
 rw[h3];refine Qh<|Qd<|Qc<|Qs U Y U U<|QL (hl.I G) U<|Qa<|xe<|Qg<|QC (α:=Nat) [(4,6),(14,55)] (λz=>[(14,oF oG z)]) (λz w'=>z<=ls.length/\O5 [] w2 w'/\J7 sz (pv (ls.map (·.1)) z) (ls.drop z)=J7 sz none ls) (λz=>ls.length - z) ol 0 La
  ⟨Ln _,O5.Z _ _,U⟩ ?_
 rintro k g w3 ⟨hk,O,E⟩;have S:=G.D O;have h4:=V.I O;have hr:=Y.I O;have hs:=hl.I S;have h5:=hS.I S;refine Qc<|QY U U<|xe<|Qd<|QH U (λhb=>?_) (λhb=>?_)
 ·refine Qz ?_;have h6:ls.length<=k:=by have h7:¬(k:Int)<(ls.length:Int):=hb;omega
  rw[Lr h6]at E;have h8:J7 sz none ls=0:=E.symm;rw[h8,OT (λh=>h rfl)];refine Qd<|Qc<|Qs U hr U U<|QN<|(Qcg bd _).mono ?_;rintro r4 w4 ⟨rfl,rfl⟩;refine xe<|QX U (λhf=>?_) (λhf=>?_)
  ·rw[OU hf];refine Qc<|Qb<|Qk ⟨[_],La,U,S⟩
  rw[OT (by simp[hf])];refine Qh<|Qc<|Qb<|Qk ⟨[_],La,U,S⟩
 have T:k<ls.length:=by have h7:(k:Int)<(ls.length:Int):=hb;omega
 rw[QdW T]at E;refine Qh<|Qd<|Qg<|Qm<|O8 YD hs U U T λhJ ht=>?_;refine Zj (ls[k]'T) λe he=>?_;rw[he]at ht E;refine x (Qw ht U U)<|Qe<|Qo (us:=[oF oG 0,oF oG 0]) U λb6 w4 h9 hA H=>x Ql<|Qe<|Qj (us:=QG e) H U U U U oA λw5 hB H=>xe ?_;have I:O5 [] w3 w5:=h9.O hB hA;have hu:=O.D I;refine Qg<|Q3 (α:=Bool) [(19,30)] (λz=>[(19,.bool z)]) (λz w'=>w'=w5/\z=decide (e.1<0\/(sz.length:Int)<=e.1)) ol ?_ ?_
 ·refine Qv<|Qs U H U U<|xb (YR U U) (λhC=>?_) (λhC=>?_)
  ·refine Qa<|Qr<|Qr<|Qr<|Qr<|Qr<|Qr<|QJ U<|Qb<|⟨_,La,U,by first|exact bT oa|exact bF oa|exact bD oa⟩
  refine Qa<|Qs U H U U<|Qs U (h4.I I) U U<|QL (h5.I I) U<|x (Yw U U) <|
   QJ rfl<|Qb<|⟨_,La,U,by first|exact bT oa|exact bF oa|exact bD oa⟩
 rintro z g w6 ⟨rfl,rfl⟩;refine QZ rfl (λhh=>?_) (λhh=>?_)
 ·rw[OU hh]at E;refine Qc<|Qb<|Qk ⟨[_],La,by rw[<-E,OU og];rfl,G.D hu⟩
 rw[OT hh]at E;refine Q3 (α:=Bool) [(31,45)] (λz=>[(31,.bool z)]) (λz w'=>O5 [] w6 w'/\z=jm (pv (ls.map (·.1)) k) e.1) ol ?_ ?_
 ·refine ZF [] (Xi 0 15 [])<|p QF<|pb (λ_=>Z6 U U) (λhi=>?_) (λhi=>?_)
  ·have hj:k≠0:=by have hD:(0:Int)<(k:Int):=hi;omega
   have hk1:((k:Int) - 1)=((k - 1:Nat):Int):=oa
   have hm:k - 1<ls.length:=oa
   refine p QF<|p (QQ U)<|pq (λ_ J=>Qq (H.I J) U U)<|p (QQ U)<|pq (λ_ J=>Qq ((hr.I I).I J) U U) <|
    p QF<|p (λ_=>JH U U ⟨oa,oa⟩)<|Lg.pig (g:=QG) (i:=k - 1) U YD (hs.I I) U (OV (Value.int .i64) hk1) hm λhK hE=>p (λ_=>Zs U) <|
    pq (λ_ J=>QD ((hE.fld 0 _ U).I J) U)<|p (λ_=>KT U U)<|p (Xk U)<|p ZI<|pe ?_
   refine⟨_,La,O5.C _ _,?_⟩;have:pv (ls.map (·.1)) k=some (ls[k - 1]'hm).1:=by simp[pv,hj,hm]
   rw[this];rfl
  have hj:k=0:=by have hD:¬(0:Int)<(k:Int):=hi;omega
  refine p QF<|ps<|ps<|ps<|ps<|ps<|ps<|ps<|ps<|ps<|ps<|p (Xk U)<|p ZI<|pe ?_;exact⟨false,La,O5.C _ _,by simp[pv,hj,jm]⟩
 rintro z g w7 ⟨hv,rfl⟩;have hw:=hu.D hv;refine QX rfl (λhn=>?_) (λhn=>?_)
 ·rw[OU hn]at E;refine Qc<|Qb<|Qk ⟨[_],La,by rw[<-E,OU og];rfl,G.D hw⟩
 rw[OT (by simp[hn])]at E;have hy:=H.I hv;refine Q3 (α:=Bool) [(46,54)] (λz=>[(46,.bool z)]) (λz w'=>O5 [] w7 w'/\z=decide (e.2=0\/grt e.2=true)) ol ?_ ?_
 ·refine Qv<|Qs U hy U U<|xb (Q2 U U) (λho=>?_) (λho=>?_)
  ·refine Qa<|Qr<|Qr<|Qr<|QJ U<|Qb<|⟨_,La,O5.Z _ _,bT (.inl ho)⟩
  refine Qa<|Qs U hy U U<|QN<|(Qcg e.2 _).mono ?_;rintro r9 w9 ⟨rfl,rfl⟩;refine QJ U<|Qb<|⟨grt e.2,La,O5.Z _ _,?_⟩;cases hg:grt e.2 with
  | true=>exact bT (.inr U)
  | false=>exact bF (λh=>by rcases h with h|h;exact ho h;cases h)
 rintro z g w8 ⟨hF,rfl⟩;have hz:=hw.D hF;refine QZ rfl (λhp=>?_) (λhp=>?_)
 ·rw[OU hp]at E;refine Qc<|Qb<|Qk ⟨[_],La,by rw[<-E,OU og];rfl,G.D hz⟩
 rw[OT hp]at E;refine Qh<|Qv<|QP U U<|Qa<|xe ?_;exact⟨k+1,oa,La,T,hz,E⟩
open Go.RowKit
def Qdb:Fr->LN->LV->Fr
 | f,p::ps,v::vs=>Qdb (upd f p v) ps vs
 | f,_,_=>f
theorem U7 {n:Nat}{ds:LN}:∀(ps:LN) (vs:LV) (a:Act) (f:Fr),Xg n ds a f->(∀p∈ps,p<n) ->
  Xg n ds { tmps:=(ps.zip vs).foldl (λt (x:Nat×O2)=>t.setIfInBounds x.1 x.2) a.tmps,defers:=a.defers } (Qdb f ps vs)
 | [],_,a,f,h,_=>by cases h;exact⟨by assumption,by assumption,by assumption⟩
 | p::ps,[],a,f,h,_=>by cases h;exact⟨by assumption,by assumption,by assumption⟩
 | p::ps,v::vs,a,f,h,E=>by
  have G:=h.put (dst:=some p) (λd e=>by cases e;exact E p Lp) v;exact U7 ps vs _ _ G (λq H=>E q (Lj _ H))
def rdE {α:Type}(B:Nat)(L:LN)(I:List α->O1->Prop)(X:Exit->List α->O1->Prop)(xs:List α)(W:O1):Exit->LN->Fr->O1->Prop
 | .normal,_,_,W'=>KQ B L W W'/\I xs W'
 | .ret,_,_,W'=>KQ B L W W'/\X .ret xs W'
 | .exit i,_,_,W'=>KQ B L W W'/\X (.exit i) xs W'
 | _,_,_,_=>False
theorem QkP {m:Nat}{Q:Exit->LN->Fr->O1->Prop}{g:O3}{ps:LN}{assign body:Code}(L:LN)(V:1<=m)
    [hF:Fu P gf fn]  (hg:ev f g=.func (.func gf) #[] capt.toArray) {encs:α->LV} {S Sp:List α->Prop}  (hp:∀p∈ps,p<n) (hh:∀x,(encs x).length=ps.length)
  (hj:SeqStopsK (fen none) (m - 1) P gf capt.toArray (λx=>(encs x).toArray) (Lw w.heap.size L) S Sp N w)
  (I:List α->O1->Prop) (hI:∀s,YB w.heap.size (I s)) (X:Exit->List α->O1->Prop) (hX:∀e s,YB w.heap.size (X e s)) (h0:I [] w) (A:Fr->α->Fr->O1->Prop) (hA:∀x E,YB w.heap.size (A f x E))
  (hb:∀l pre x W,I pre W->WG (some l) (m - 1 - 1) P n assign (Qdd (λY E W'=>Y=[]/\KQ w.heap.size L W W'/\I pre W'/\A f x E W') (λ_ _ _ _=>False)) [] (Qdb f ps (encs x)) W)
  (hc:∀l pre x E W,I pre W->A f x E W->pre.length<N->WG (some l) (m - 1 - 1) P n body (rdE w.heap.size L I X (pre++[x]) W) [] E W)
  (hm:∀D xs W,w.heap.size<=D->S xs->I xs W->W.heap[D]?=some (.deferred (some []))->Q .normal (D::ds) f W)
  (he:∀D e pre W,w.heap.size<=D->Sp pre->X e pre W->W.heap[D]?=some (.deferred (some []))->(e=.ret\/∃i,e=.exit i)->Q e (D::ds) f W):
  WG none m P n (.rangeFunc g ps.toArray assign body) Q ds f w:=by
 unfold WG at hb hc ⊢;intro a J;have eg:∀args w,(callFunc gf args).run P w=.ok (.enter gf args) w:=by
  intro args w;have V:¬fn.name = "runtime.NumGoroutine" := by simpa using hF.nm
  have O:¬fn.body=none:=by have:=hF.b;intro e;rw[e]at this;cases this
  simp[callFunc,hF.f,V,O]
 have keep:∀{W W':O1},KQ w.heap.size L W W'->KeepsFrom w.heap.size W W':=λh=>⟨h.lw.size,λk o _ hk ho=>h.other k o hk ho⟩;refine wpIn_rangeFunc_ownH (F:=fen none) U V (gf:=gf) (lb:=capt.toArray) (by rw[J.eval];exact hg) Z eg hj (λh k=>h.D k)
  (λW l o o' hl ho _ _=>⟨U,U,U,oe,λk hk _=>World.putObj_heap_other oa⟩) (Below.refl _ _) (λx=>by simp[hh x]) I
  (λc pre W=>match c with| .ret=>X .ret pre W| .exit i=>X (.exit i) pre W|_=>False) (YB.own hI) (λc=>YB.own λs=>?_) h0
  (λx a' W=>∃E,Xg n [] a' E/\A f x E W) (λx a'=>YB.own λ_=>YB.ex λE=>YB.and (YB.pure _) (hA x E)) ?_ ?_ ?_ ?_
 ·cases c <;> first|exact hX _ s|exact YB.pure _
 ·intro l pre x W K hi hK;have hr:Xg n [] { tmps:=(ps.toArray.zip (encs x).toArray).foldl (λt (p,v)=>t.setIfInBounds p v) a.tmps,defers:=[] } (Qdb f ps (encs x)):=by
   have O:Xg n [] { a with defers:=[] } f:=⟨J.size,U,J.get⟩
   have H:=U7 ps (encs x) _ _ O hp;have e:(ps.toArray.zip (encs x).toArray).foldl (λt (p,v)=>t.setIfInBounds p v) a.tmps=(ps.zip (encs x)).foldl (λt (x:Nat×O2)=>t.setIfInBounds x.1 x.2) a.tmps:=oe
   rw[e];exact H
  refine wpIn_mono (hb l pre x W hi _ hr) ?_;rintro e a' W' ⟨Y,E,O,_,H⟩;cases e with
  | normal=>obtain⟨rfl,h4,G,h6⟩:=H;exact hK a' W' (keep h4) h4.lw G ⟨E,O,h6⟩
  | exit id=>exact H.elim
  | goto l=>exact H.elim
  | ret=>exact H.elim
  | panic ch=>exact H.elim
  | outgrown=>exact H.elim
 ·rintro l pre x a' W _ _ hi ⟨E,O,H⟩ hn;refine wpIn_mono (hc l pre x E W hi H hn a' O) ?_;rintro e hq W' ⟨Y,hs,h4,_,G⟩;cases e with
  | normal=>exact⟨keep G.1,G.1.lw,G.2⟩
  | exit id=>exact⟨keep G.1,G.2⟩
  | goto l=>exact G.elim
  | ret=>exact⟨keep G.1,G.2⟩
  | panic ch=>exact G.elim
  | outgrown=>exact G.elim
 ·intro D xs W hD T hi hd;exact⟨D::ds,f,⟨J.size,by rw[show coll (D::ds)={ target:=.collected D,args:=#[] }::coll ds from rfl,J.defers],J.get⟩,λ_ _=>rfl,hm D xs W hD T hi hd⟩
 intro D c pre W hD T hx hd;have hf:Xg n (D::ds) { a with defers:={ target:=.collected D,args:=#[] }::a.defers } f:=⟨J.size,by rw[show coll (D::ds)={ target:=.collected D,args:=#[] }::coll ds from rfl,J.defers],J.get⟩
 cases c with
 | ret=>exact wpIn_ret ⟨_,f,hf,λ_ _=>U,he D .ret pre W hD T hx hd (.inl U)⟩
 | exit i=>exact wpIn_exit ⟨_,f,hf,λ_ _=>U,he D (.exit i) pre W hD T hx hd (.inr ⟨i,U⟩)⟩
 | _=>exact hx.elim
theorem j0 {α:Type}(g:α->LV)(sz:Nat)(E:∀x,(g x).length=sz):∀(l:List α) (k:Nat),(l.flatMap g).take (k*sz)=(l.take k).flatMap g
 | [],k=>oe
 | e::l,0=>oe
 | e::l,k+1=>by
  simp only[Oe,List.take_succ_cons,Oq,Nat.one_mul];rw[Nj,OK,E,show sz+k*sz - sz=k*sz by omega,j0 g sz E l k,Lt (by rw[E];omega)]
theorem QeN [Fu prog gf fn]{nms:List ByteArray}{s:ByteArray}(hk:Kl s)
  (hl:∀(w':O1) (L:LN),O5 [] w w'->(∀b∈L,w.heap.size<=b)->SeqStopsK (fen none) 9 prog gf capt.toArray (λx:{ x:ByteArray // x∈nms }=>[Value.string x.1].toArray) (Lw w'.heap.size L) (λys=>ys.map (·.1)=nms) (λ_=>True) N w'):
  Q6 prog 156 [.string s,.func (.func gf) #[] capt.toArray] w λr w'=>r=oF oG (Ke nms s)/\O5 [] w w':=by
 refine Q6.of_G 10 func156 U ntmps156 results156 oe ?_;refine Zg<|QO ol ol<|Qe<|QV (us:=[.string s]) U λb2 w1 ho hs hh=>Qe<|Qo (us:=[oF oG 0]) U λJ w2 hi ht hf=>xe ?_;have Y:=ho.D hi;have hu:=hf.lt;have hj:=hh.I hi;have hv:=hh.lt;refine Zg<|Zg<|QO ol ol<|Xb hj U U<|ZM<|(VK s hk _).mono ?_;rintro r3 w3 ⟨rfl,rfl⟩;refine x (ZB U)<|xe<|Uh rfl (λh8=>?_) (λh8=>?_)
 ·have hn:Y1 s=false:=by simpa using h8
  have hr:Ke nms s=7:=by unfold Ke;rw[OU hn]
  refine Zg<|QO ol ol<|Qe<|QB (j:=0) (u:=oF oG 7) hf U U og U λw4 T ha=>xe ?_;refine Vr ⟨λ_ h=>(by cases h),MP,[oF oG 7],λW' O=>⟨⟨⟨_,rfl,Xp (At.one ((ha.I O).at (L:=[]) oe))⟩,Z⟩,by rw[hr];rfl,(Y.O T oa).D O⟩⟩
 have hn:¬Y1 s=false:=by simpa using h8
 refine YP<|Zg<|Zg<|QO ol ol<|Qa<|xe<|Yb<|QkP (α:={ x:ByteArray // x∈nms }) (ps:=[10]) [J] oa (capt:=capt) U (encs:=λx=>[.string x.1]) oe (λ_=>rfl)
  (hl w3 [J] Y (λb G=>by simp at G;omega))
  (λpre W=>O5 [J] w3 W/\Q7 W.heap b2 9 [.string s]/\Q7 W.heap J 47 [oF oG 0]/\∀x∈pre,x.1≠s)
  (λpre=>(YB.J (Lx _)).and (YB.blk.and (YB.blk.and (YB.pure _))))
  (λe pre W=>e=.ret/\O5 [J] w3 W/\Q7 W.heap J 47 [oF oG 8]/\s∈nms)
  (λe pre=>(YB.pure _).and ((YB.J (Lx _)).and (YB.blk.and (YB.pure _))))
  ⟨O5.Z _ _,hj,hf,λx hx=>by cases hx⟩
  (λf x f' W=>f'=upd (Qdb f [10] [.string x.1]) 5 (.string x.1)) (λx f'=>YB.pure _) ?_ ?_ ?_ ?_
 ·rintro l pre x W ⟨H,h2,I,V⟩;refine QO ol ol<|Lg.Qb<|⟨U,KQ.refl _ _ _,⟨H,h2,I,V⟩,U⟩
 ·rintro l pre x f' W ⟨H,h2,I,V⟩ rfl _;refine Yb<|Zg<|QO ol ol<|Lg.Qa<|Lg.x (Qq h2 U U)<|Lg.x (XG U U)<|xe<|Qno U (λhg=>?_) (λhg=>?_)
  ·refine Zg<|QO ol ol<|Qe<|QB (j:=0) (u:=oF oG 8) I U U og U λw4 T ha=>xe ?_;refine Vr ?_;exact⟨KQ.blk T H.size I (.inl oe),rfl,H.Q T,ha,by rw[<-hg];exact x.2⟩
  refine YP<|⟨KQ.refl _ _ _,H,h2,I,λy S=>?_⟩;rcases Lc.1 S with S|S
  ·exact V y S
  simp only[oI]at S;subst S;exact hg
 ·rintro D xs W hD hp ⟨H,h2,I,V⟩ hc;have hr:Ke nms s=0:=by
   unfold Ke;rw[OT hn,OT];intro hm;rw[<-hp]at hm;obtain⟨y,S,e⟩:=LC.1 hm;exact V y S e
  refine Zg<|QO ol ol<|Qe<|QB (j:=0) (u:=oF oG 0) I U U og U λw4 T ha=>xe ?_;have he:D≠J:=oa
  have hq:w4.heap[D]?=some (.deferred (some [])):=by rw[T.block D (LK.1 hc).1 (oz he)];exact hc
  refine Vr ⟨λE hE=>by simp only[oI]at hE;subst hE;exact hq,oe,[oF oG 0],λW' O=>?_⟩;refine⟨⟨⟨_,U,Xp (At.one ((ha.J O (oz he.symm)).at (L:=[]) oe))⟩,Z⟩,by rw[hr];rfl,?_⟩;exact((Y.then H (λb G=>.inr (by simp at G;omega))).O T oa).then O (λb G=>.inr (by simp at G;have:=Y.size;omega))
 rintro D e pre W hD _ ⟨rfl,H,I,V⟩ hc _;have hr:Ke nms s=8:=by unfold Ke;rw[OT hn,OU V]
 have he:D≠J:=oa
 refine⟨λE hE=>by simp only[oI]at hE;subst hE;exact hc,oe,[oF oG 8],λW' O=>?_⟩;refine⟨⟨⟨_,U,Xp (At.one ((I.J O (oz he.symm)).at (L:=[]) oe))⟩,Z⟩,by rw[hr];rfl,?_⟩;exact(Y.then H (λb G=>.inr (by simp at G;omega))).then O (λb G=>.inr (by simp at G;have:=Y.size;omega))
theorem JV.pre3 {m:Nat}{o1 o2 o3:Oper}{l2:xE}(h:XL P ops (λf w=>JV P m ops K l2 f w) [o1,o2,o3] f w):JV P m ops K (o1::o2::o3::l2) f w:=JV.pre [o1,o2,o3] f w h
theorem QjB {m:Nat}{qs:List XV}{nms:List ByteArray}(ho:Q7 w.heap b1 206 [vs,vx,vk])(hp:Q7 w.heap b2 3 [oF oG i])(Y:jg L w.heap vx qs)(hi:i<=qs.length)(hn:nms=(qs.take i).map (·.nm)):
  SeqStopsK (fen none) m prog 155 #[.pointer (some ⟨b1,0,none⟩),.pointer (some ⟨b2,0,none⟩)] (λx:{ x:ByteArray // x∈nms }=>[Value.string x.1].toArray) (Lw w.heap.size L)
   (λys=>ys.map (·.1)=nms) (λ_=>True) (nms.length+1) w:=by
 intro l J Jx W hr hJ hs hY h0;have ha:O5 [] w W:=O5.of_below hr;have ab:∀{ys:List { x:ByteArray // x∈nms }} {W1 W2:O1},J ys W1->O5 [] W1 W2->J ys W2:=λ{ys W1 W2} hj H=>hJ ys W1 W2 none hj ⟨H.os,H.tape,H.output,H.size,λk I _=>H.block k I oe⟩ (λr e=>by cases e);have h8:=Y.arr.le;have h9:nms.length=i:=by rw[hn];simp;omega
 have key:Q6 prog 155 [.func (.yield l) #[] #[],.pointer (some ⟨b1,0,none⟩),.pointer (some ⟨b2,0,none⟩)] W (λ_ W'=>(∃ys,ys.map (·.1)=nms/\J ys W')\/(∃pre,True/\Jx pre W')):=by
  refine Q6.of_G m func155 U ntmps155 results155 oe ?_;have ht:=ho.I ha;have hu:=hp.I ha;refine Zg<|QO ol ol<|Qs U ht U U<|Xb hu U U<|QnU Y.arr U U hi λv9 hg=>QL hg U<|Qa<|xe ?_;have hv:(qs.take i).length=i:=by simp;omega
  have hS:Zp L w.heap v9 (qs.take i).length 2 ((qs.take i).flatMap Q5):=by
   rw[hv,<-j0 Q5 2 XC];exact hg
  refine Yb<|qL (α:=Nat×List { x:ByteArray // x∈nms }) [(5,5),(11,20)] (λz=>[(11,oF oG z.1)]) (λz ds W'=>ds=[]/\z.1<=i/\O5 L w W'/\z.2.map (·.1)=nms.take z.1/\J z.2 W') (λz=>i - z.1) ol (0,[]) La
   ⟨U,Ln _,ha.any,U,h0⟩ ?_
  rintro⟨k,ys⟩ g ds w1 ⟨rfl,I,hh,O,hb⟩;simp only[]at I O hb;refine Zg<|QO ol ol<|QY U U<|xe<|Zg<|Qar U (λhl=>?_) (λhl=>?_)
  ·refine Vs ?_;rw[Lt oa]at O;exact⟨λ_ h=>(by cases h),MP,[],λW' E=>⟨Z,.inl ⟨ys,O,ab hb E⟩⟩⟩
  refine YP ?_;have hw:k<i:=by have hc:(k:Int)<(i:Int):=hl;omega
  have T:k<(qs.take i).length:=oa
  have V:k<nms.length:=oa
  have hf:nms.take (k+1)=nms.take k++[nms[k]'V]:=Lm V;have hA:ys.length=k:=by have:=OV oP O;rw[Lh,Ly]at this;omega
  have hy:nms[k]'V=((qs.take i)[k]'T).nm:=by subst hn;simp
  have S:=Ll V;rw[hy]at hf S;refine Zg<|Yb<|Zg<|QO ol ol<|O8 XC (i:=k) (hS.st hh) U U T λhB hc=>?_;refine Zj ((qs.take i)[k]'T) λq hq=>?_;rw[hq]at hc hf S;have hz:=(Y.each q (LY (by rw[<-hq];exact Ll T))).one;refine x (Qw hc U U)<|Qe<|Qo (us:=[.string .empty,nS]) U λb5 w2 h2 h3 h4=>Qe<|Qj (us:=Q5 q) h4 U U U U ⟨U,hz,Z⟩ λw3 h5 h6=>xe ?_;have hm:O5 [] w1 w3:=h2.O h5 h3;refine Zg<|VL ol ?_;refine JV.pre3 ?_;refine Qa<|Qs U h6 U U<|xe<|xy (l:=l) U (hY ys ⟨q.nm,S⟩ w3 (ab hb hm) oa) λen W3 h7=>Or.elim h7 (λG=>⟨.bool true,G.1,?_⟩) (λG=>⟨.bool false,G.1,?_⟩)
  ·refine JV.of_XL<|x (ZB U)<|xe<|VM U<|YP ?_;refine QO ol ol<|QP U U<|Qa<|xe ?_;exact⟨(k+1,ys++[⟨q.nm,S⟩]),oh,La,U,hw,(hh.D hm).lw G.2.2,by rw[hf,Ls,O];rfl,G.2.1⟩
  refine JV.of_XL<|x (ZB U)<|xe<|Qbn U ?_;refine Vr ⟨λ_ h=>(by cases h),MP,[],λW' E=>⟨Z,.inr ⟨ys++[⟨q.nm,S⟩],Z,?_⟩⟩⟩;exact hs _ W3 W' none G.2 ⟨E.os,E.tape,E.output,E.size,λk I _=>E.block k I oe⟩ (λr e=>by cases e)
 refine(callsIn_wide (n:=m)).2 ?_;have ea:(#[.func (.yield l) #[] #[]]++[.pointer (some ⟨b1,0,none⟩),.pointer (some ⟨b2,0,none⟩)].toArray:Array O2)=#[.func (.yield l) #[] #[],.pointer (some ⟨b1,0,none⟩),.pointer (some ⟨b2,0,none⟩)]:=oe
 rw[ea];unfold Q6 at key;refine Calls.mono key λe w' he=>?_;cases e with
 | returned v=>exact⟨⟨v,U⟩,he⟩
 | panicked c=>exact he.elim
 | outgrown=>exact he.elim
theorem QjY {m:Nat}{qs:List KV}{nms:List ByteArray}(ho:Q7 w.heap b1 206 [vs,vx,vk])(hp:Q7 w.heap b2 3 [oF oG i])(Y:jb L w.heap vk qs)(hi:i<=qs.length)(hn:nms=(qs.take i).map (·.nm)):
  SeqStopsK (fen none) m prog 158 #[.pointer (some ⟨b1,0,none⟩),.pointer (some ⟨b2,0,none⟩)] (λx:{ x:ByteArray // x∈nms }=>[Value.string x.1].toArray) (Lw w.heap.size L)
   (λys=>ys.map (·.1)=nms) (λ_=>True) (nms.length+1) w:=by
 intro l J Jx W hr hJ hs hY h0;have ha:O5 [] w W:=O5.of_below hr;have ab:∀{ys:List { x:ByteArray // x∈nms }} {W1 W2:O1},J ys W1->O5 [] W1 W2->J ys W2:=λ{ys W1 W2} hj H=>hJ ys W1 W2 none hj ⟨H.os,H.tape,H.output,H.size,λk I _=>H.block k I oe⟩ (λr e=>by cases e);have h8:=Y.arr.le;have h9:nms.length=i:=by rw[hn];simp;omega
 have key:Q6 prog 158 [.func (.yield l) #[] #[],.pointer (some ⟨b1,0,none⟩),.pointer (some ⟨b2,0,none⟩)] W (λ_ W'=>(∃ys,ys.map (·.1)=nms/\J ys W')\/(∃pre,True/\Jx pre W')):=by
  refine Q6.of_G m func158 U ntmps158 results158 oe ?_;have ht:=ho.I ha;have hu:=hp.I ha;refine Zg<|QO ol ol<|Qs U ht U U<|Xb hu U U<|QnU Y.arr U U hi λv9 hg=>QL hg U<|Qa<|xe ?_;have hv:(qs.take i).length=i:=by simp;omega
  have hS:Zp L w.heap v9 (qs.take i).length 3 ((qs.take i).flatMap Za):=by
   rw[hv,<-j0 Za 3 Xs];exact hg
  refine Yb<|qL (α:=Nat×List { x:ByteArray // x∈nms }) [(5,5),(11,20)] (λz=>[(11,oF oG z.1)]) (λz ds W'=>ds=[]/\z.1<=i/\O5 L w W'/\z.2.map (·.1)=nms.take z.1/\J z.2 W') (λz=>i - z.1) ol (0,[]) La
   ⟨U,Ln _,ha.any,U,h0⟩ ?_
  rintro⟨k,ys⟩ g ds w1 ⟨rfl,I,hh,O,hb⟩;simp only[]at I O hb;refine Zg<|QO ol ol<|QY U U<|xe<|Zg<|Qar U (λhl=>?_) (λhl=>?_)
  ·refine Vs ?_;rw[Lt oa]at O;exact⟨λ_ h=>(by cases h),MP,[],λW' E=>⟨Z,.inl ⟨ys,O,ab hb E⟩⟩⟩
  refine YP ?_;have hw:k<i:=by have hc:(k:Int)<(i:Int):=hl;omega
  have T:k<(qs.take i).length:=oa
  have V:k<nms.length:=oa
  have hf:nms.take (k+1)=nms.take k++[nms[k]'V]:=Lm V;have hA:ys.length=k:=by have:=OV oP O;rw[Lh,Ly]at this;omega
  have hy:nms[k]'V=((qs.take i)[k]'T).nm:=by subst hn;simp
  have S:=Ll V;rw[hy]at hf S;refine Zg<|Yb<|Zg<|QO ol ol<|O8 Xs (i:=k) (hS.st hh) U U T λhB hc=>?_;refine Zj ((qs.take i)[k]'T) λq hq=>?_;rw[hq]at hc hf S;have hz:=(Y.each q (LY (by rw[<-hq];exact Ll T))).one;refine x (Qw hc U U)<|Qe<|Qo (us:=[.string .empty,nS,oF oG 0]) U λb5 w2 h2 h3 h4=>Qe<|Qj (us:=Za q) h4 U U U U ⟨U,hz,U,Z⟩ λw3 h5 h6=>xe ?_;have hm:O5 [] w1 w3:=h2.O h5 h3;refine Zg<|VL ol ?_;refine JV.pre3 ?_;refine Qa<|Qs U h6 U U<|xe<|xy (l:=l) U (hY ys ⟨q.nm,S⟩ w3 (ab hb hm) oa) λen W3 h7=>Or.elim h7 (λG=>⟨.bool true,G.1,?_⟩) (λG=>⟨.bool false,G.1,?_⟩)
  ·refine JV.of_XL<|x (ZB U)<|xe<|VM U<|YP ?_;refine QO ol ol<|QP U U<|Qa<|xe ?_;exact⟨(k+1,ys++[⟨q.nm,S⟩]),oh,La,U,hw,(hh.D hm).lw G.2.2,by rw[hf,Ls,O];rfl,G.2.1⟩
  refine JV.of_XL<|x (ZB U)<|xe<|Qbn U ?_;refine Vr ⟨λ_ h=>(by cases h),MP,[],λW' E=>⟨Z,.inr ⟨ys++[⟨q.nm,S⟩],Z,?_⟩⟩⟩;exact hs _ W3 W' none G.2 ⟨E.os,E.tape,E.output,E.size,λk I _=>E.block k I oe⟩ (λr e=>by cases e)
 refine(callsIn_wide (n:=m)).2 ?_;have ea:(#[.func (.yield l) #[] #[]]++[.pointer (some ⟨b1,0,none⟩),.pointer (some ⟨b2,0,none⟩)].toArray:Array O2)=#[.func (.yield l) #[] #[],.pointer (some ⟨b1,0,none⟩),.pointer (some ⟨b2,0,none⟩)]:=oe
 rw[ea];unfold Q6 at key;refine Calls.mono key λe w' he=>?_;cases e with
 | returned v=>exact⟨⟨v,U⟩,he⟩
 | panicked c=>exact he.elim
 | outgrown=>exact he.elim
theorem yL {sz:LI}{qx:List XV}{ks:List KV}(hS:QR [] w.heap vs sz)(hX:jg [] w.heap vx qx)(hK:jb [] w.heap vk ks):
  Q6 prog 84 [.agg #[vs,vx,vk]] w λr w'=>r=oF oG (YF sz (qx.map (·.x)) (ks.map (·.k)))/\O5 [] w w':=by
 have hW:=hS.le;have hY:=hX.arr.le;have hZ:=hK.arr.le;refine Zo func84 ?_;refine Qc<|Qe<|QV (us:=[vs,vx,vk]) U λb1 w1 G ga T=>Qb<|Qd<|Qc<|Qs U T U U<|QL (hS.I G) U<|x (Z6 U U)<|xe<|QZ rfl (λh0=>?_) (λh0=>?_)
 ·refine Qc<|Qb<|Qk ⟨[_],La,by unfold YF;rw[OU (by have hO:(8:Int)<(sz.length:Int):=h0;omega)];rfl,G⟩
 have hy:¬8<sz.length:=by have hO:¬(8:Int)<(sz.length:Int):=h0;omega
 refine Qh<|Qd<|Qc<|Qs U T U U<|QL (hS.I G) U<|Qa<|xe<|Qg<|QC (α:=Nat) [(2,2),(4,4),(22,32)] (λz=>[(22,oF oG z)]) (λz w'=>z<=sz.length/\w'=w1/\(sz.drop z).any KU=sz.any KU) (λz=>sz.length - z) ol 0 La
  ⟨Ln _,U,U⟩ ?_
 rintro k g w2 ⟨hk,rfl,ha⟩;refine Qc<|QY U U<|xe<|Qd<|QH U (λh1=>?_) (λh1=>?_)
 ·refine Qz ?_;have hj:sz.length<=k:=by have hz:¬(k:Int)<(sz.length:Int):=h1;omega
  rw[Lr hj]at ha;have h2:¬sz.any KU=true:=by rw[<-ha];decide
  refine Qd<|Q3 (α:=Bool) [(33,42)] (λz=>[(42,.bool z)]) (λz w'=>w'=w2/\z=decide (32<qx.length\/32<ks.length)) ol ?_ ?_
  ·refine Qv<|Qs U T U U<|QL (hX.I G).arr U<|xb (Z6 U U) (λhP=>?_) (λhP=>?_)
   ·refine Qa<|Qr<|Qr<|Qr<|Qr<|QJ U<|xe ?_;exact⟨_,La,U,by first|exact bT oa|exact bF oa|exact bD oa⟩
   refine Qa<|Qs U T U U<|QL (hK.I G).arr U<|x (Z6 U U)<|QJ U<|xe ?_;exact⟨_,La,U,by first|exact bT oa|exact bF oa|exact bD oa⟩
  rintro z g V ⟨rfl,rfl⟩;refine QZ U (λh3=>?_) (λh3=>?_)
  ·refine Qc<|Qb<|Qk ⟨[_],La,by unfold YF;rw[OT hy,OT h2,OU (oz h3)];rfl,G⟩
  have hJ:¬(32<(qx.map (·.x)).length\/32<(ks.map (·.k)).length):=by simpa using h3
  have hM:Yz sz [] (qx.map (·.x))≠0->YF sz (qx.map (·.x)) (ks.map (·.k))=Yz sz [] (qx.map (·.x)):=λh=>by
   unfold YF;rw[OT hy,OT h2,OT hJ,OU h]
  have hQ:Yz sz [] (qx.map (·.x))=0->YF sz (qx.map (·.x)) (ks.map (·.k))=Y9 sz [] (ks.map (·.k)):=λh=>by
   unfold YF;rw[OT hy,OT h2,OT hJ,OT (by rw[h];exact λh=>h U)]
  refine Qh<|Qd<|Qc<|Qs U (T.I (O5.Z [] V)) U U<|QL ((hX.I G).I (O5.Z [] V)).arr U<|Qa<|xe<|Qg<|QC (α:=Nat) [(2,2),(5,9),(46,65)] (λz=>[(46,oF oG z)]) (λz w'=>z<=qx.length/\O5 [] V w'/\Yz sz ((qx.take z).map (·.nm)) ((qx.drop z).map (·.x))=Yz sz [] (qx.map (·.x))) (λz=>qx.length - z) ol 0 La
   ⟨Ln _,(O5.Z [] V),U⟩ ?_
  rintro k g wA ⟨hk,H,I⟩;refine Qc<|QY U U<|xe<|Qd<|QH U (λhc=>?_) (λhc=>?_)
  ·refine Qz ?_;have hj:qx.length<=k:=by have h4:¬(k:Int)<(qx.length:Int):=hc;omega
   rw[Lr hj]at I;have hR:Yz sz [] (qx.map (·.x))=0:=I.symm;have h5:=hQ hR;refine Qd<|Qc<|Qs U (T.I H) U U<|QL ((hK.I G).I H).arr U<|Qa<|xe<|Qg<|QC (α:=Nat) [(2,2),(10,14),(69,88)] (λz=>[(69,oF oG z)]) (λz w'=>z<=ks.length/\O5 [] V w'/\Y9 sz ((ks.take z).map (·.nm)) ((ks.drop z).map (·.k))=Y9 sz [] (ks.map (·.k))) (λz=>ks.length - z) ol 0 La
    ⟨Ln _,H,U⟩ ?_
   rintro k g wA ⟨hk,H,I⟩;refine Qc<|QY U U<|xe<|Qd<|QH U (λhc=>?_) (λhc=>?_)
   ·refine Qz ?_;have hj:ks.length<=k:=by have h4:¬(k:Int)<(ks.length:Int):=hc;omega
    rw[Lr hj]at I;have hT:Y9 sz [] (ks.map (·.k))=0:=I.symm;refine Qc<|Qb<|Qk ⟨[_],La,by rw[h5,hT];rfl,G.D H⟩
   have E:k<ks.length:=by have h4:(k:Int)<(ks.length:Int):=hc;omega
   have hl:(ks.take (k+1)).map (·.nm)=(ks.take k).map (·.nm)++[(ks[k]'E).nm]:=by rw[Lm E,Ls];rfl
   rw[Zf E,LH]at I;have he:=Ll E;have J:=(hK.I G).I H;have h6:=T.I H;refine Qh<|Qd<|Qg<|Qm<|O8 Xs J.arr U U E λaA hA=>?_;refine Zj (ks[k]'E) λq hq=>?_;rw[hq]at hA I hl he;have hm:=J.each q he;refine x (Qw hA U U)<|Qe<|Qo (us:=[oF oG 0]) U λb5 V ho h7 hf=>Qe<|Qo (us:=[.string .empty,nS,oF oG 0]) U λb6 w4 hp hU h8 =>
    Qe<|QB (j:=0) (u:=oF oG k) (hf.I hp) U U og U λw5 hr h9=>Qe<|Qj (us:=Za q) (h8.J hr (by have:=hf.lt;simp;omega)) U U U U ⟨U,hm.one,U,Z⟩ λw6 hs ht=>xe ?_
   have hV:b5<b6:=by have:=hf.lt;omega
   have hg:O5 [] wA w6:=((ho.D hp).O hr h7).O hs (ou ho.size);have hB:Q7 w6.heap b5 3 [oF oG k]:=h9.J hs (by simp;omega);have hu:=h6.I hg;have hC:=J.I hg;refine Qc<|x Zx<|Qb<|Qd<|Qc<|Qs U ht U U<|Qa<|ZM<|(QeN (nms:=(ks.take k).map (·.nm)) (capt:=[.pointer (some ⟨b1,0,none⟩),.pointer (some ⟨b5,0,none⟩)]) (J.nm q he) (λw' L hh hL=>QjY (hu.I hh) (hB.I hh) ((hC.up (λb hb=>.inr (hL b hb))).I hh) hk U)).mono ?_;rintro r7 w7 ⟨rfl,hi⟩;refine Qb ?_;have O:=hg.D hi;refine Qm<|ZD U U<|xe<|QZ U (λY=>?_) (λY=>?_)
   ·have e1:Y9 sz [] (ks.map (·.k))=Ke ((ks.take k).map (·.nm)) q.nm:=by rw[<-I];exact OU Y
    refine Qm<|Qb<|Qk ⟨[_],La,by rw[h5,e1];rfl,G.D (H.D O)⟩
   have hv:(if Xz sz q.k≠0 then Xz sz q.k else Y9 sz ((ks.take k).map (·.nm)++[q.nm]) ((ks.drop (k+1)).map (·.k)))=Y9 sz [] (ks.map (·.k)):=by rw[<-I];exact(OT Y).symm
   refine Qh ?_;have hD:=hu.I hi;have hE:=ht.I hi;refine Qc<|Q9 hD U U<|Q9 hE U U<|ZM<|(Uf (((hS.I G).I H).I O) (hm.I O)).mono ?_;rintro r8 w8 ⟨rfl,hF⟩;refine Qb ?_;have hw:=O.D hF;refine Qm<|ZD U U<|xe<|QZ U (λS=>?_) (λS=>?_)
   ·have e1:Y9 sz [] (ks.map (·.k))=Xz sz q.k:=by rw[<-hv];exact OU S
    have hN:Xz sz q.k≠0:=S;refine Qm<|Qb<|Qk ⟨[_],La,by rw[h5,e1];rfl,G.D (H.D hw)⟩
   have hG:Y9 sz ((ks.take k).map (·.nm)++[q.nm]) ((ks.drop (k+1)).map (·.k))=Y9 sz [] (ks.map (·.k)):=by rw[<-hv];exact(OT S).symm
   refine Qh<|Qv<|QP U U<|Qa<|xe ?_;exact⟨k+1,oa,La,E,H.D hw,by rw[hl];exact hG⟩
  have E:k<qx.length:=by have h4:(k:Int)<(qx.length:Int):=hc;omega
  have hl:(qx.take (k+1)).map (·.nm)=(qx.take k).map (·.nm)++[(qx[k]'E).nm]:=by rw[Lm E,Ls];rfl
  rw[Zf E,LH]at I;have he:=Ll E;have J:=(hX.I G).I H;have h6:=T.I H;refine Qh<|Qd<|Qg<|Qm<|O8 XC J.arr U U E λaA hA=>?_;refine Zj (qx[k]'E) λq hq=>?_;rw[hq]at hA I hl he;have hm:=J.each q he;refine x (Qw hA U U)<|Qe<|Qo (us:=[oF oG 0]) U λb5 V ho h7 hf=>Qe<|Qo (us:=[.string .empty,nS]) U λb6 w4 hp hU h8 =>
   Qe<|QB (j:=0) (u:=oF oG k) (hf.I hp) U U og U λw5 hr h9=>Qe<|Qj (us:=Q5 q) (h8.J hr (by have:=hf.lt;simp;omega)) U U U U ⟨U,hm.one,Z⟩ λw6 hs ht=>xe ?_
  have hV:b5<b6:=by have:=hf.lt;omega
  have hg:O5 [] wA w6:=((ho.D hp).O hr h7).O hs (ou ho.size);have hB:Q7 w6.heap b5 3 [oF oG k]:=h9.J hs (by simp;omega);have hu:=h6.I hg;have hC:=J.I hg;refine Qc<|x Zx<|Qb<|Qd<|Qc<|Qs U ht U U<|Qa<|ZM<|(QeN (nms:=(qx.take k).map (·.nm)) (capt:=[.pointer (some ⟨b1,0,none⟩),.pointer (some ⟨b5,0,none⟩)]) (J.nm q he) (λw' L hh hL=>QjB (hu.I hh) (hB.I hh) ((hC.up (λb hb=>.inr (hL b hb))).I hh) hk U)).mono ?_;rintro r7 w7 ⟨rfl,hi⟩;refine Qb ?_;have O:=hg.D hi;refine Qm<|ZD U U<|xe<|QZ U (λY=>?_) (λY=>?_)
  ·have e1:Yz sz [] (qx.map (·.x))=Ke ((qx.take k).map (·.nm)) q.nm:=by rw[<-I];exact OU Y
   refine Qm<|Qb<|Qk ⟨[_],La,by rw[hM (by rw[e1];exact Y),e1];rfl,G.D (H.D O)⟩
  have hv:(if Jm sz q.ls≠0 then Jm sz q.ls else Yz sz ((qx.take k).map (·.nm)++[q.nm]) ((qx.drop (k+1)).map (·.x)))=Yz sz [] (qx.map (·.x)):=by rw[<-I];exact(OT Y).symm
  refine Qh ?_;have hD:=hu.I hi;have hE:=ht.I hi;refine Qc<|Q9 hD U U<|Q9 hE U U<|ZM<|(UU (((hS.I G).I H).I O) (hm.I O)).mono ?_;rintro r8 w8 ⟨rfl,hF⟩;refine Qb ?_;have hw:=O.D hF;refine Qm<|ZD U U<|xe<|QZ U (λS=>?_) (λS=>?_)
  ·have e1:Yz sz [] (qx.map (·.x))=Jm sz q.ls:=by rw[<-hv];exact OU S
   have hN:Jm sz q.ls≠0:=S;refine Qm<|Qb<|Qk ⟨[_],La,by rw[hM (by rw[e1];exact hN),e1];rfl,G.D (H.D hw)⟩
  have hG:Yz sz ((qx.take k).map (·.nm)++[q.nm]) ((qx.drop (k+1)).map (·.x))=Yz sz [] (qx.map (·.x)):=by rw[<-hv];exact(OT S).symm
  refine Qh<|Qv<|QP U U<|Qa<|xe ?_;exact⟨k+1,oa,La,E,H.D hw,by rw[hl];exact hG⟩
 have E:k<sz.length:=by have hz:(k:Int)<(sz.length:Int):=h1;omega
 rw[Zf E,List.any_cons]at ha;refine Qh<|Qd<|Qg<|Qc<|xii (hS.I G) U U E λgb hz=>?_;refine Zj (sz[k]'E) λn hn=>?_;rw[hn]at hz ha;refine x (QD hz U)<|Qb<|Q3 (α:=Bool) [(26,31)] (λz=>[(31,.bool z)]) (λz w'=>w'=w2/\z=KU n) ol ?_ ?_
 ·refine Qv<|Qa<|xb (YR U U) (λhH=>?_) (λhH=>?_)
  ·refine Qa<|Qr<|Qr<|QJ U<|xe ?_;exact⟨_,La,U,by unfold KU;rw[OX hH];rfl⟩
  refine Qa<|Qa<|x (Z6 U U)<|QJ U<|xe ?_;exact⟨_,La,U,by unfold KU;rw[OZ hH];rfl⟩
 rintro z g V ⟨rfl,rfl⟩;refine QX rfl (λhI=>?_) (λhI=>?_)
 ·refine Qc<|Qb<|Qk ⟨[_],La,by unfold YF;rw[OT hy,OU (by rw[<-ha,hI];rfl)];rfl,G⟩
 rw[hI,Bool.false_or]at ha;refine Qh<|Qv<|QP U U<|Qa<|xe ?_;exact⟨k+1,oa,La,E,U,ha⟩
theorem Yo (q:α->Bool)(i:Nat)(a:α)(l:List α):fix q i (a::l)=if q a=true then(i:Int)else fix q (i+1) l:=rfl
theorem QdM {α:Type}(q:α->Bool):∀(l:List α) (i:Nat),fix q i l=-1\/((i:Int)<=fix q i l/\fix q i l<(i:Int)+l.length)
 | [],i=>.inl U
 | a::l,i=>by
  rw[Yo];split
  ·right;simp only[oW];omega
  rcases QdM q l (i+1)with h|h
  ·exact .inl h
  right;simp only[oW];omega
theorem Qa8 {α:Type}(q:α->Bool):∀(l:List α) (i:Nat),decide (0<=fix q i l)=l.any q
 | [],i=>rfl
 | a::l,i=>by
  rw[Yo,List.any_cons];cases h:q a with
  | true=>rw[OU rfl];simp
  | false=>rw[OT og,Qa8 q l (i+1)];rfl
theorem yH {α:Type}(q:α->Bool)(m:List α):∀(l:List α) (i:Nat),fix q i (l++m)=if 0<=fix q i l then fix q i l else fix q (i+l.length) m
 | [],i=>by
  show fix q i m=if(0:Int)<=-1 then(-1)else fix q i m
  rw[OT og]
 | a::l,i=>by
  rw[L9,Yo,Yo];by_cases h:q a=true
  ·rw[OU h,OU h,OU oa]
  rw[OT h,OT h,yH q m l (i+1),LT];rw[show i+1+l.length=i+(l.length+1) by omega]
theorem j2 {α:Type}(q:α->Bool)(d:Nat):∀(l:List α) (i:Nat),fix q (i+d) l=if 0<=fix q i l then fix q i l+d else -1
 | [],i=>rfl
 | a::l,i=>by
  rw[Yo,Yo];by_cases h:q a=true
  ·rw[OU h,OU h,OU oa];omega
  rw[OT h,OT h,show i+d+1=(i+1)+d by omega,j2 q d l (i+1)]
theorem Vz {α β:Type}(q:β->Bool)(g:α->β):∀(l:List α) (i:Nat),fix q i (l.map g)=fix (λa=>q (g a)) i l
 | [],i=>rfl
 | a::l,i=>by rw[LH,Yo,Yo,Vz q g l (i+1)]
theorem QgD {α:Type}{q E:α->Bool}:∀{l:List α}{i:Nat},(∀a∈l,q a=E a)->fix q i l=fix E i l
 | [],i,_=>rfl
 | a::l,i,h=>by rw[Yo,Yo,h a Lp,QgD (λb G=>h b (Lj _ G))]
theorem QoR [Fu prog gp fn]{cap:LV}{q:(Int×Int)->Bool}{v:O2}{l:xx}(h:Zp L w.heap v l.length 2 (l.flatMap QG))
  (Y:∀e∈l,∀(G:O1),O5 [] w G->Q6 prog gp ([.agg (QG e).toArray]++cap) G λr w'=>r=.bool (q e)/\O5 [] G w'):
  Q6 prog 332 [v,.func (.func gp) #[] cap.toArray] w λr w'=>r=oF oG (fix q 0 l)/\O5 [] w w':=by
 have hc:=h.le;refine Zo func332 ?_;refine Qc<|Qb<|Qd<|Qm<|QL h U<|Qa<|xe<|Qg<|QC (α:=Nat) [(4,5),(8,18)] (λz=>[(8,oF oG z)]) (λz w'=>z<=l.length/\O5 [] w w'/\fix q z (l.drop z)=fix q 0 l) (λz=>l.length - z) ol 0 La
  ⟨Ln _,O5.Z _ _,U⟩ ?_
 rintro k g G ⟨hk1,H,E⟩;refine Qc<|QY U U<|xe<|Qd<|QH U (λJ=>?_) (λJ=>?_)
 ·refine Qz ?_;have ha:l.length<=k:=by have hb:¬(k:Int)<(l.length:Int):=J;omega
  rw[Lr ha]at E;refine Qc<|Qb<|Qk ⟨[_],La,by rw[<-E];rfl,H⟩
 have I:k<l.length:=by have hb:(k:Int)<(l.length:Int):=J;omega
 rw[Zf I,Yo]at E;have S:=Ll I;refine Qh<|Qd<|Qg<|Qm<|Qb<|Qm<|Qa<|Qa<|O8 YD (h.I H) U U I λhf T=>?_;refine Zj (l[k]'I) λe he=>?_;rw[he]at T E S;refine x (Qw T U U)<|Qe<|xc (first:=[]) (capt:=cap) U<|(Y e S G H).mono ?_;rintro r2 w2 ⟨rfl,V⟩;refine xe<|QX rfl (λO=>?_) (λO=>?_)
 ·rw[OU O]at E;refine Qm<|Qb<|Qk ⟨[_],La,by rw[<-E];rfl,H.D V⟩
 rw[OT (by rw[O];decide)]at E;refine Qh<|Qv<|QP U U<|Qa<|xe ?_;exact⟨k+1,oa,La,I,H.D V,E⟩
theorem Qpq [Fu prog gp fn]{cap:LV}{q:(Int×Int)->Bool}{v:O2}{l:xx}(h:Zp L w.heap v l.length 2 (l.flatMap QG))
  (G:∀e∈l,∀(E:O1),O5 [] w E->Q6 prog gp ([.agg (QG e).toArray]++cap) E λr w'=>r=.bool (q e)/\O5 [] E w'):
  Q6 prog 296 [v,.func (.func gp) #[] cap.toArray] w λr w'=>r=.bool (l.any q)/\O5 [] w w':=by
 refine Zo func296 ?_;refine Qc<|Qb<|Qm<|Qa<|ZM<|(QoR h G).mono ?_;rintro I E ⟨rfl,H⟩;refine x (Yw U U)<|Qb<|Qk ⟨[_],La,OV Value.bool (Qa8 q l 0),H⟩
theorem Ue (sz:LI):∀(ls:xx) (pr:Option Int),X1 sz pr ls=0->(∀p∈ls,0<=p.1/\p.1<(sz.length:Int))/\YW (ls.map (·.1))/\∀y,pr=some y->∀p∈ls,y<p.1
 | [],pr,_=>⟨λp E=>(by cases E),List.Pairwise.nil,λy _ p E=>(by cases E)⟩
 | l::ls,pr,h=>by
  unfold X1 at h;split at h
  ·cases h
  rename_i T;split at h
  ·cases h
  rename_i H;split at h
  ·cases h
  obtain⟨I,J,O⟩:=Ue sz ls (some l.1) h;have G:=O l.1 U;refine⟨λp E=>?_,L4.2 ⟨λx hx=>?_,J⟩,λy S p E=>?_⟩
  ·rcases Li.1 E with rfl|E
   ·omega
   exact I p E
  ·obtain⟨p,E,rfl⟩:=LC.1 hx;exact G p E
  subst S;have V:¬l.1<=y:=λe=>H (OX e);rcases Li.1 E with rfl|E
  ·omega
  have:=G p E;omega
theorem Uc (sz:LI):∀(ls:xx) (pr:Option Int),J7 sz pr ls=0->(∀p∈ls,0<=p.1/\p.1<(sz.length:Int)/\-65536<=p.2/\p.2<=65536)/\YW (ls.map (·.1))/\∀y,pr=some y->∀p∈ls,y<p.1
 | [],pr,_=>⟨λp E=>(by cases E),List.Pairwise.nil,λy _ p E=>(by cases E)⟩
 | l::ls,pr,h=>by
  unfold J7 at h;split at h
  ·cases h
  rename_i h1;split at h
  ·cases h
  rename_i I;split at h
  ·cases h
  rename_i J;obtain⟨O,S,T⟩:=Uc sz ls (some l.1) h;have G:=T l.1 U;have H:grt l.2=false:=by cases V:grt l.2 with|true=>exact OW (.inr V) J|false=>rfl
  unfold grt at H;simp only[Oh,decide_eq_false_iff_not]at H;refine⟨λp E=>?_,L4.2 ⟨λx hx=>?_,S⟩,λy Y p E=>?_⟩
  ·rcases Li.1 E with rfl|E
   ·omega
   exact O p E
  ·obtain⟨p,E,rfl⟩:=LC.1 hx;exact G p E
  subst Y;have h8:¬l.1<=y:=λe=>I (OX e);rcases Li.1 E with rfl|E
  ·omega
  have:=G p E;omega
theorem Vm (sz:LI):∀(l:List U0) (sn:List ByteArray),Yz sz sn l=0->∀x∈l,Jm sz x.ls=0
 | [],_,_,x,hx=>by cases hx
 | a::l,sn,h,x,hx=>by
  unfold Yz at h;split at h
  ·rename_i E;exact OW h E
  split at h
  ·rename_i E;exact OW h E
  rename_i E;rcases Li.1 hx with rfl|hx
  ·exact Lo.1 E
  exact Vm sz l _ h x hx
theorem Vn (sz:LI):∀(l:List xL) (sn:List ByteArray),Y9 sz sn l=0->∀x∈l,Xz sz x=0
 | [],_,_,x,hx=>by cases hx
 | a::l,sn,h,x,hx=>by
  unfold Y9 at h;split at h
  ·rename_i E;exact OW h E
  split at h
  ·rename_i E;exact OW h E
  rename_i E;rcases Li.1 hx with rfl|hx
  ·exact Lo.1 E
  exact Vn sz l _ h x hx
structure QrT (sz:LI)(ex:List U0)(cs:List xL):Prop where
 s8:sz.length<=8
 s:∀n∈sz,1<=n/\n<=4096
 xl:ex.length<=32
 kl:cs.length<=32
 x:∀e∈ex,∀p∈e.ls,0<=p.1/\p.1<(sz.length:Int)
 k:∀e∈cs,(∀p∈e.ts,0<=p.1/\p.1<(sz.length:Int)/\-65536<=p.2/\p.2<=65536)/\e.ts.length<=8
theorem Vo {sz:LI}{ex:List U0}{cs:List xL}(h:YF sz ex cs=0):QrT sz ex cs:=by
 unfold YF at h;split at h
 ·cases h
 rename_i h8;split at h
 ·cases h
 rename_i O;split at h
 ·cases h
 rename_i ha;split at h
 ·rename_i hx;exact OW h hx
 rename_i hx;have S:=Lo.1 hx;refine⟨oa,λn T=>?_,oa,oa,λe H p G=>?_,λe H=>?_⟩
 ·have E:KU n=false:=by
   cases V:KU n with
   | false=>rfl
   | true=>exact OW (Nv.2 ⟨n,T,V⟩) O
  unfold KU at E;simp only[Oh,decide_eq_false_iff_not]at E;omega
 ·have E:=Vm sz ex [] S e H;unfold Jm at E;split at E
  ·cases E
  exact(Ue sz e.ls none E).1 p G
 have E:=Vn sz cs [] h e H;unfold Xz at E;split at E
 ·cases E
 split at E
 ·rename_i I;exact OW E I
 rename_i I;obtain⟨J,Y,_⟩:=Uc sz e.ts none (Lo.1 I);refine⟨J,?_⟩;have:=xH sz.length (e.ts.map (·.1)) (List.Pairwise.imp (λ{a b} (h:a<b)=>(by omega:a≠b)) Y) (λx hx=>by
  obtain⟨p,G,rfl⟩:=LC.1 hx;exact⟨(J p G).1,(J p G).2.1⟩)
 rw[Lh]at this;omega
def Qnl (sz t:LI):Prop:=t.length=sz.length/\∀i,i<t.length->0<=O6 t i/\O6 t i<O6 sz i
theorem QfW (t:LI)(p:Int×Int)(l:xx)(s:Int):(l++[p]).foldl (λs p=>s+p.2*t.getD p.1.toNat 0) s=l.foldl (λs p=>s+p.2*t.getD p.1.toNat 0) s+p.2*O6 t p.1.toNat:=by
 rw[MG];rfl
theorem Qhz {nm:ByteArray}{ts:xx}{bd:Int}{t:LI}(hl:js [] w.heap vl ts)(ht:QR [] w.heap vt t)
  (hg:∀p∈ts,0<=p.1/\p.1<(t.length:Int)/\-65536<=p.2/\p.2<=65536) (h8:ts.length<=8) (hh:∀i,i<t.length->0<=O6 t i/\O6 t i<=4096):
  Q6 prog 299 [.agg #[.string nm,vl,oF oG bd],vt] w λr w'=>r=oF oG (Qp4 t ⟨nm,ts,bd⟩)/\O5 [] w w':=by
 refine Zo func299 ?_;refine Qc<|Qe<|QV (us:=[.string nm,vl,oF oG bd]) U λb2 w1 V hv hi=>Qb<|Qc<|Qb<|Qd<|Qc<|Qs U hi U U<|QL (hl.I V) U<|Qa<|xe<|Qg<|QC (α:=Nat×Int) [(5,5),(7,7),(11,25)] (λz=>[(5,oF oG z.2),(11,oF oG z.1)]) (λz w'=>z.1<=ts.length/\O5 [] w w'/\z.2=(ts.take z.1).foldl (λs p=>s+p.2*t.getD p.1.toNat 0) 0/\-(268435456*(z.1:Int))<=z.2/\z.2<=268435456*(z.1:Int)) (λz=>ts.length - z.1) ol (0,0) oA
  ⟨Ln _,V,U,oh,oh⟩ ?_
 rintro⟨k,s⟩ g w2 ⟨hk,O,H,hj,hm⟩;simp only[]at hk H hj hm;refine Qc<|QY U U<|xe<|Qd<|QH U (λS=>?_) (λS=>?_)
 ·refine Qz ?_;have hn:ts.length<=k:=by have I:¬(k:Int)<(ts.length:Int):=S;omega
  rw[Lt hn]at H;refine Qm<|Qb<|Qk ⟨[_],La,by rw[H];rfl,O⟩
 have E:k<ts.length:=by have I:(k:Int)<(ts.length:Int):=S;omega
 have T:=hg _ (Ll E);have Y:ts.take (k+1)=ts.take k++[ts[k]'E]:=Lm E;refine Qh<|Qd<|Qg<|Qc<|O8 YD (hl.I O) U U E λhw I=>?_;refine Zj (ts[k]'E) λe he=>?_;rw[he]at I T Y;refine x (Qw I U U)<|Qe<|Qo (us:=[oF oG 0,oF oG 0]) U λb7 w3 ho hp J=>Qe<|Qj (us:=QG e) J U U U U oA λw4 hq J=>xe ?_;have hr:O5 [] w2 w4:=ho.O hq hp;have ha:=O.D hr;have hs:e.1=((e.1.toNat:Nat):Int):=oa
 have hb:e.1.toNat<t.length:=oa
 have hf:=hh _ hb;have hy:-268435456<=e.2*O6 t e.1.toNat/\e.2*O6 t e.1.toNat<=268435456:=by
  have h1:(-65536)*O6 t e.1.toNat<=e.2*O6 t e.1.toNat:=Int.mul_le_mul_of_nonneg_right T.2.2.1 hf.1;have h2:e.2*O6 t e.1.toNat<=65536*O6 t e.1.toNat:=Int.mul_le_mul_of_nonneg_right T.2.2.2 hf.1;omega
 refine Zj (e.2*O6 t e.1.toNat) λpr hz=>?_;refine ZF [] (Xi 0 11 [])<|p QF<|p (QQ U)<|pq (λ_ G=>Qq (J.I G) U U)<|p QF<|p (QQ U) <|
  pq (λ_ G=>Qq (J.I G) U U)<|pic (i:=e.1.toNat) U (ht.I ha) U (OV (Value.int .i64) hs) hb λh0 hu=>pq (λ_ G=>QD (hu.I G) U) <|
  p (λ_=>Qie U U ⟨oa,oa⟩)<|p (λ_=>XH U U ⟨oa,oa⟩)<|p ZI<|pe ?_
 refine Qv<|QP U U<|Qa<|xe<|⟨(k+1,s+e.2*O6 t e.1.toNat),oh,oA,E,ha.D (O5.C _ _),?_,oh,oh⟩;simp only[];rw[Y,QfW,<-H]
theorem QjA {bt:Nat}{t:LI}(I:Q7 w.heap bt 56 [vt])(J:QR [] w.heap vt t)(e:Int×Int)(V:0<=e.1/\e.1<(t.length:Int)):
  Q6 prog 297 ([.agg (QG e).toArray]++[.pointer (some ⟨bt,0,none⟩)]) w λr w'=>r=.bool (!decide (t.getD e.1.toNat 0=e.2))/\O5 [] w w':=by
 refine Zo func297 ?_;refine Qc<|Qe<|QV (us:=QG e) U λb2 Y G ha H=>Qb ?_;have O:e.1=((e.1.toNat:Nat):Int):=oa
 have S:e.1.toNat<t.length:=oa
 refine Qd<|ZF [] (Xi 0 9 [])<|pq (λ_ E=>Qq ((I.I G).I E) U U)<|p (QQ U)<|pq (λ_ E=>Qq (H.I E) U U)<|pic (i:=e.1.toNat) U (J.I G) U (OV (Value.int .i64) O) S λa7 T =>
  pq (λ_ E=>QD (T.I E) U)<|p (QQ U)<|pq (λ_ E=>Qq (H.I E) U U)<|p (λ_=>XZ U U) <|
  p ZI<|pe ?_
 refine Qk ⟨[_],La,?_,G.D (O5.C _ _)⟩;show Value.bool (decide (¬O6 t e.1.toNat=e.2))=_;unfold O6;simp
theorem Qhx (t:LI)(x:U0):(!(x.ls.any λl=>!decide (t.getD l.1.toNat 0=l.2)))=VZ t x:=by
 unfold VZ;induction x.ls with
 | nil=>rfl
 | cons a l ih=>rw[List.any_cons,L5,<-ih];cases decide (t.getD a.1.toNat 0=a.2) <;> simp
theorem Qms {q:XV}{t:LI}(I:Q7 w.heap b 116 (Q5 q))(J:js [] w.heap q.v q.ls)(H:QR [] w.heap vt t)(O:∀p∈q.ls,0<=p.1/\p.1<(t.length:Int)):
  Q6 prog 295 ([vt]++[.pointer (some ⟨b,0,none⟩)]) w λr w'=>r=.bool (VZ t q.x)/\O5 [] w w':=by
 refine Zo func295 ?_;refine Qc<|Qe<|QV (us:=[vt]) H.cells λb2 Y E ha S=>Qb<|Qc<|Qs U (I.I E) U U<|x Zx<|ZM<|(Qpq (q:=λl=>!decide (t.getD l.1.toNat 0=l.2)) (cap:=[.pointer (some ⟨b2,0,none⟩)]) (J.I E) (λe T V G=>QjA (S.I G) ((H.I E).I G) e (O e T))).mono ?_;rintro r2 V ⟨rfl,G⟩;refine x (ZB U)<|Qb<|Qk ⟨[_],La,OV Value.bool (Qhx t q.x),E.D G⟩
theorem Qmr {q:KV}{t:LI}(G:Q7 w.heap b 121 (Za q))(I:js [] w.heap q.v q.ts)(J:QR [] w.heap vt t)
  (O:∀p∈q.ts,0<=p.1/\p.1<(t.length:Int)/\-65536<=p.2/\p.2<=65536) (S:q.ts.length<=8) (T:∀i,i<t.length->0<=O6 t i/\O6 t i<=4096):
  Q6 prog 298 ([vt]++[.pointer (some ⟨b,0,none⟩)]) w λr w'=>r=.bool (U3 t q.k)/\O5 [] w w':=by
 refine Zo func298 ?_;refine Qc<|Qb ?_;have hd:O5 [] w { w with drawn:=w.drawn+1 }:=O5.C _ _
 refine Qd<|qH (O5 [] { w with drawn:=w.drawn+1 }) [oD 0,oD 1,oD 3,oD 4,oE 2,oD 5,oD 6] mixed ol od (O5.Z _ _) ?_
 refine pq (λ_ E=>Z1 ((G.I hd).I E) U U)<|p QF<|p (QQ U)<|pq (λ_ E=>Qq ((G.I hd).I E) U U)<|pk<|xg<|(Qhz (I.I hd) (J.I hd) O S T).mono ?_;rintro V Y ⟨rfl,H⟩;refine⟨H,?_⟩;refine p (λ_=>Z6 U U)<|p ZI<|pe ?_;exact Qk ⟨[_],La,U,hd.D H⟩
inductive Cd where
 | ex (b:Nat) (q:XV)
 | co (b:Nat) (q:KV)
def Cd.val:Cd->O2
 | .ex b _=>.func (.func 295) #[] #[.pointer (some ⟨b,0,none⟩)]
 | .co b _=>.func (.func 298) #[] #[.pointer (some ⟨b,0,none⟩)]
def Cd.src:Cd->Sum XV KV
 | .ex _ q=>.inl q
 | .co _ q=>.inr q
def QfX (t:LI):Sum XV KV->Bool
 | .inl q=>VZ t q.x
 | .inr q=>U3 t q.k
def Cd.vio (t:LI)(c:Cd):Bool:=QfX t c.src
abbrev UW (c:Cd):LV:=[c.val]
theorem Qps (c:Cd):(UW c).length=1:=rfl
def CdA (H:xC):Cd->Prop
 | .ex b q=>Q7 H b 116 (Q5 q)/\js [] H q.v q.ls
 | .co b q=>Q7 H b 121 (Za q)/\js [] H q.v q.ts
theorem CdA.I {w w':O1}{c:Cd}(h:CdA w.heap c)(E:O5 [] w w'):CdA w'.heap c:=by
 cases c with
 | ex b q=>exact⟨h.1.I E,h.2.I E⟩
 | co b q=>exact⟨h.1.I E,h.2.I E⟩
def Cd.rg (n:Nat):Cd->Prop
 | .ex _ q=>∀p∈q.ls,0<=p.1/\p.1<(n:Int)
 | .co _ q=>(∀p∈q.ts,0<=p.1/\p.1<(n:Int)/\-65536<=p.2/\p.2<=65536)/\q.ts.length<=8
theorem Qck {q:XV}(w:O1):Q6 prog 257 [.agg (Q5 q).toArray] w λr w'=>O5 [] w w'/\∃b,r=(Cd.ex b q).val/\w.heap.size<=b/\Q7 w'.heap b 116 (Q5 q):=by
 refine Zo func257 ?_;refine Qc<|Qe<|QV (us:=Q5 q) U λb1 I E G H=>Qb<|Qc<|x Zx<|Qb<|Qk ⟨[_],La,E,b1,U,G,H⟩
theorem QdO {q:KV}(w:O1):Q6 prog 258 [.agg (Za q).toArray] w λr w'=>O5 [] w w'/\∃b,r=(Cd.co b q).val/\w.heap.size<=b/\Q7 w'.heap b 121 (Za q):=by
 refine Zo func258 ?_;refine Qc<|Qe<|QV (us:=Za q) U λb1 I E G H=>Qb<|Qc<|x Zx<|Qb<|Qk ⟨[_],La,E,b1,U,G,H⟩
def CdB (H:xC):Cd->Prop
 | .ex b q=>Q7 H b 116 (Q5 q)
 | .co b q=>Q7 H b 121 (Za q)
def Cd.blk:Cd->Nat
 | .ex b _=>b
 | .co b _=>b
theorem CdB.lt {H:xC}{c:Cd}(h:CdB H c):c.blk<H.size:=by cases c <;> exact Q7.lt h
theorem CdB.J {X:LN}{w w':O1}{c:Cd}(h:CdB w.heap c)(E:O5 X w w')(G:c.blk∉X):CdB w'.heap c:=by
 cases c <;> exact Q7.J h E G
structure CdL (base:Nat)(w:O1)(v:O2)(cds:List Cd):Prop where
 own:w.ownsRow base 403 1 v cds.length (cds.flatMap UW)
 bx:∀c∈cds,CdB w.heap c/\c.blk∉ob v
theorem CdL.add {base:Nat}{E G:O1}{v H:O2}{cds:List Cd}{c:Cd}(h:CdL base w v cds)(O:O5 [] w E)(S:CdB E.heap c)(hb:w.heap.size<=c.blk)
  (T:G.ownsRow base 403 1 H (cds.length+1) (cds.flatMap UW++[c.val])) (V:O5 (ob v) E G) (Y:∀b∈ob H,b∈ob v\/E.heap.size<=b):CdL base G H (cds++[c]):=by
 have ha:=Zb h.own;have he:c.blk∉ob v:=λI=>ou (ha _ I)
 refine⟨?_,λd hd=>?_⟩
 ·rw[Lk,LA];simpa using T
 have key:CdB E.heap d/\d.blk∉ob v:=by
  rcases Lc.1 hd with hd|hd
  ·exact⟨(h.bx d hd).1.J O oe,(h.bx d hd).2⟩
  simp only[oI]at hd;subst hd;exact⟨S,he⟩
 refine⟨key.1.J V key.2,λI=>?_⟩;rcases Y _ I with J|J
 ·exact key.2 J
 have:=key.1.lt;omega
theorem QjX {qx:List XV}{ks:List KV}(hX:jg [] w.heap vx qx)(hK:jb [] w.heap vk ks)(hG:qx.length<=32)(hH:ks.length<=32):
  Q6 prog 192 [.agg #[vs,vx,vk]] w λr w'=>O5 [] w w'/\∃cds,CdL w.heap.size w' r cds/\cds.map Cd.src=qx.map Sum.inl++ks.map Sum.inr:=by
 refine Zo func192 ?_;refine Qc<|Qe<|QV (us:=[vs,vx,vk]) U λb1 J H hI h2=>Qb ?_;have h7:=H.size;refine Qc<|Qb<|Qd<|Qc<|Qs U h2 U U<|QL (hX.I H).arr U<|Qa<|xe<|Qg<|QC (α:=Nat×O2×List Cd) [(3,3),(5,5),(11,20)] (λz=>[(3,z.2.1),(11,oF oG z.1)]) (λz w'=>z.1<=qx.length/\O5 [] J w'/\CdL J.heap.size w' z.2.1 z.2.2/\z.2.2.map Cd.src=(qx.take z.1).map Sum.inl) (λz=>qx.length - z.1) ol (0,nS,[]) oA
  ⟨Ln _,O5.Z _ _,⟨QI _ _ _ _,λc hc=>(by cases hc)⟩,rfl⟩ ?_
 rintro⟨k,vo,cds⟩ g wA ⟨hk,I,V,Y⟩;simp only[]at hk V Y;have hJ:cds.length=k:=by have:=OV oP Y;simp at this;omega
 refine Qc<|QY U U<|xe<|Qd<|QH U (λhi=>?_) (λhi=>?_)
 ·refine Qz ?_;have h8:qx.length<=k:=by have hl:¬(k:Int)<(qx.length:Int):=hi;omega
  rw[Lt h8]at Y;refine Qd<|Qc<|Qs U (h2.I I) U U<|QL ((hK.I H).I I).arr U<|Qa<|xe<|Qg<|QC (α:=Nat×O2×List Cd) [(3,3),(7,7),(24,33)] (λz=>[(3,z.2.1),(24,oF oG z.1)]) (λz w'=>z.1<=ks.length/\O5 [] J w'/\CdL J.heap.size w' z.2.1 z.2.2/\z.2.2.map Cd.src=qx.map Sum.inl++(ks.take z.1).map Sum.inr) (λz=>ks.length - z.1) ol (0,vo,cds) oA
   ⟨Ln _,I,V,by simp only[];rw[Y];simp⟩ ?_
  rintro⟨j,vp,cdt⟩ g wB ⟨hj,ha,O,he⟩;simp only[]at hj O he;have hM:cdt.length=qx.length+j:=by have:=OV oP he;simp at this;omega
  refine Qc<|QY U U<|xe<|Qd<|QH U (λhm=>?_) (λhm=>?_)
  ·refine Qz ?_;have h9:ks.length<=j:=by have hl:¬(j:Int)<(ks.length:Int):=hm;omega
   rw[Lt h9]at he;refine Qm<|Qb<|Qk ⟨[_],La,H.D ha,cdt,⟨Zu O.own h7,O.bx⟩,he⟩
  have S:j<ks.length:=by have hl:(j:Int)<(ks.length:Int):=hm;omega
  have h3:=Ll S;have h4:ks.take (j+1)=ks.take j++[ks[j]'S]:=Lm S;refine Qh<|Qd<|Qg<|Qc<|O8 Xs ((hK.I H).I ha).arr U U S λaA hA=>?_;refine Zj (ks[j]'S) λq hq=>?_;rw[hq]at hA h3 h4;have hn:=((hK.I H).I ha).each q h3;refine x (Qw hA U U)<|Qe<|Qo (us:=[.string .empty,nS,oF oG 0]) U λb7 w4 ho hp hr=>Qe<|Qj (us:=Za q) hr U U U U ⟨U,hn.one,U,Z⟩ λw5 hs ht=>xe ?_;have hf:O5 [] wB w5:=ho.O hs hp;refine Qv<|Qa<|Q9 ht U U<|QN<|(QdO w5).mono ?_;rintro r6 w6 ⟨hu,E,rfl,hB,hv⟩;refine Qe<|QA (us:=[[(Cd.co E q).val]]) U U og oe ⟨rfl,rfl,Z⟩ λhC w7 hg hD hw=>?_;have G:=(hf.D hu).D hg;have hE:=(ha.D G).size;have hF:=hf.size;refine Qe<|Q8 (news:=[(Cd.co E q).val]) (L:=[]) (Qn O.own G) U U U (hw.at oe) (by simp[Cd.val,Value.oneCell']) oa oa λv8 w8 hy hh hz =>
   Qb ?_
  have hge:=Qi O.own;have h0:=O.add (c:=Cd.co E q) G (Q7.I hv hg) (by show _<=E;omega) hy hh hz;have h1:O5 [] J w8:=(ha.D G).then hh (λb hb=>.inr (hge b hb).1);refine Qv<|QP U U<|Qa<|xe ?_;exact⟨(j+1,v8,cdt++[Cd.co E q]),oh,oA,S,h1,h0,by simp only[];rw[Ls,he,h4];simp[Cd.src]⟩
 have T:k<qx.length:=by have hl:(k:Int)<(qx.length:Int):=hi;omega
 have h5:=Ll T;have h6:qx.take (k+1)=qx.take k++[qx[k]'T]:=Lm T;refine Qh<|Qd<|Qg<|Qc<|O8 XC ((hX.I H).I I).arr U U T λaA hA=>?_;refine Zj (qx[k]'T) λq hq=>?_;rw[hq]at hA h5 h6;have hn:=((hX.I H).I I).each q h5;refine x (Qw hA U U)<|Qe<|Qo (us:=[.string .empty,nS]) U λb7 w4 ho hp hr=>Qe<|Qj (us:=Q5 q) hr U U U U ⟨U,hn.one,Z⟩ λw5 hs ht=>xe ?_;have hf:O5 [] wA w5:=ho.O hs hp;refine Qv<|Qa<|Q9 ht U U<|QN<|(Qck w5).mono ?_;rintro r6 w6 ⟨hu,E,rfl,hB,hv⟩;refine Qe<|QA (us:=[[(Cd.ex E q).val]]) U U og oe ⟨rfl,rfl,Z⟩ λhC w7 hg hD hw=>?_;have G:=(hf.D hu).D hg;have hE:=(I.D G).size;have hF:=hf.size;refine Qe<|Q8 (news:=[(Cd.ex E q).val]) (L:=[]) (Qn V.own G) U U U (hw.at oe) (by simp[Cd.val,Value.oneCell']) oa oa λv8 w8 hy hh hz =>
  Qb ?_
 have hge:=Qi V.own;have h0:=V.add (c:=Cd.ex E q) G (Q7.I hv hg) (by show _<=E;omega) hy hh hz;have h1:O5 [] J w8:=(I.D G).then hh (λb hb=>.inr (hge b hb).1);refine Qv<|QP U U<|Qa<|xe ?_;exact⟨(k+1,v8,cds++[Cd.ex E q]),oh,oA,T,h1,h0,by simp only[];rw[Ls,Y,h6];simp[Cd.src]⟩
theorem QoU [Fu prog gp fn]{cap:LV}{q:Cd->Bool}{v:O2}{l:List Cd}(h:Zp L w.heap v l.length 1 (l.flatMap UW))
  (Y:∀e∈l,∀(G:O1),O5 [] w G->Q6 prog gp ([e.val]++cap) G λr w'=>r=.bool (q e)/\O5 [] G w'):
  Q6 prog 255 [v,.func (.func gp) #[] cap.toArray] w λr w'=>r=oF oG (fix q 0 l)/\O5 [] w w':=by
 have hc:=h.le;refine Zo func255 ?_;refine Qc<|Qb<|Qd<|Qm<|QL h U<|Qa<|xe<|Qg<|QC (α:=Nat) [(4,5),(8,18)] (λz=>[(8,oF oG z)]) (λz w'=>z<=l.length/\O5 [] w w'/\fix q z (l.drop z)=fix q 0 l) (λz=>l.length - z) ol 0 La
  ⟨Ln _,O5.Z _ _,U⟩ ?_
 rintro k g G ⟨hk1,H,E⟩;refine Qc<|QY U U<|xe<|Qd<|QH U (λJ=>?_) (λJ=>?_)
 ·refine Qz ?_;have ha:l.length<=k:=by have hb:¬(k:Int)<(l.length:Int):=J;omega
  rw[Lr ha]at E;refine Qc<|Qb<|Qk ⟨[_],La,by rw[<-E];rfl,H⟩
 have I:k<l.length:=by have hb:(k:Int)<(l.length:Int):=J;omega
 rw[Zf I,Yo]at E;have S:=Ll I;refine Qh<|Qd<|Qg<|Qm<|Qb<|Qm<|Qa<|Qa<|O8 Qps (h.I H) U U I λhf T=>?_;refine Zj (l[k]'I) λe he=>?_;rw[he]at T E S;refine x (QD T U)<|Qe<|xc (first:=[]) (capt:=cap) U<|(Y e S G H).mono ?_;rintro r2 w2 ⟨rfl,V⟩;refine xe<|QX rfl (λO=>?_) (λO=>?_)
 ·rw[OU O]at E;refine Qm<|Qb<|Qk ⟨[_],La,by rw[<-E];rfl,H.D V⟩
 rw[OT (by rw[O];decide)]at E;refine Qh<|Qv<|QP U U<|Qa<|xe ?_;exact⟨k+1,oa,La,I,H.D V,E⟩
theorem QmU {c:Cd}{t:LI}(E:CdA w.heap c)(H:QR [] w.heap vt t)(G:c.rg t.length)(I:∀i,i<t.length->0<=O6 t i/\O6 t i<=4096):
  ∃g fn cap,c.val=.func (.func g) #[] #[cap]/\Fu prog g fn/\Q6 prog g ([vt]++[cap]) w λr w'=>r=.bool (c.vio t)/\O5 [] w w':=by
 cases c with
 | ex b q=>exact⟨_,_,_,U,inferInstance,Qms E.1 E.2 H G⟩
 | co b q=>exact⟨_,_,_,U,inferInstance,Qmr E.1 E.2 H G.1 G.2 I⟩
theorem Qhv {bt:Nat}{c:Cd}{t:LI}(E:Q7 w.heap bt 56 [vt])(G:CdA w.heap c)(H:QR [] w.heap vt t)(I:c.rg t.length)(J:∀i,i<t.length->0<=O6 t i/\O6 t i<=4096):
  Q6 prog 256 ([c.val]++[.pointer (some ⟨bt,0,none⟩)]) w λr w'=>r=.bool (c.vio t)/\O5 [] w w':=by
 obtain⟨gq,fn,cap,O,T,hcall⟩:=QmU G H I J;rw[O];refine Zo func256 ?_;refine Qc<|Qb<|Qm<|Xb E U U<|Qe<|xc (g:=gq) (fn:=fn) (first:=[]) (capt:=[cap]) U<|hcall.mono ?_;rintro V Y ⟨rfl,S⟩;refine Qb<|Qk ⟨[_],La,U,S⟩
theorem Qbx {v:O2}{cds:List Cd}{t:LI}(h:Zp L w.heap v cds.length 1 (cds.flatMap UW))(J:∀c∈cds,CdA w.heap c)(H:QR [] w.heap vt t)(O:∀c∈cds,c.rg t.length)(S:∀i,i<t.length->0<=O6 t i/\O6 t i<=4096):
  Q6 prog 191 [v,vt] w λr w'=>r=oF oG (fix (Cd.vio t) 0 cds)/\O5 [] w w':=by
 refine Zo func191 ?_;refine Qc<|Qe<|QV (us:=[vt]) H.cells λT w1 G ha V=>Qb<|Qm<|x Zx<|ZM<|(QoU (q:=Cd.vio t) (cap:=[.pointer (some ⟨T,0,none⟩)]) (h.I G) (λc I Y E=>Qhv (V.I E) (((J c I).I G).I E) ((H.I G).I E) (O c I) S)).mono ?_;rintro r2 Y ⟨rfl,E⟩;refine Qb<|Qk ⟨[_],La,U,G.D E⟩
theorem Qkc {sz t:LI}(I:QR [] w.heap vs sz)(G:QR [] w.heap vt t)(h:Qnl sz t):
  Q6 prog 254 [.agg #[vs,vx,vk],vt] w λr w'=>r=oF oG 0/\O5 [] w w':=by
 have he:=G.le;have h0:=h.1;refine Zo func254 ?_;refine Qc<|Qe<|QV (us:=[vs,vx,vk]) U λb2 T E hf J=>Qb<|Qd<|Qm<|QL (G.I E) U<|Qs U J U U<|QL (I.I E) U<|x (XZ U U) <|
  xe ?_
 refine QH rfl (λO=>?_) (λO=>?_)
 ·refine Qh<|Qd<|Qm<|QL (G.I E) U<|Qa<|xe<|Qg<|QC (α:=Nat) [(4,6),(15,31)] (λz=>[(15,oF oG z)]) (λz w'=>z<=t.length/\w'=T) (λz=>t.length - z) ol 0 La ⟨Ln _,U⟩ ?_;rintro k g V ⟨hk,rfl⟩;refine Qc<|QY U U<|xe<|Qd<|QH U (λS=>?_) (λS=>?_)
  ·refine Qz<|Qc<|Qb<|Qk ⟨[_],La,U,E⟩
  have H:k<t.length:=by have hg:(k:Int)<(t.length:Int):=S;omega
  have hb:=h.2 k H;refine Qh<|Qd<|Qg<|Qm<|xic (i:=k) (G.I E) U U H λhh Y=>x (QD Y U)<|x Ql<|Qb<|Q3 (α:=Unit) [(20,30)] (λz=>[(30,.bool false)]) (λz w'=>w'=V) ol ?_ ?_
  ·refine Qv<|Qa<|xb (YR U U) (λha=>oa) (λha=>?_);refine Qa<|Qa<|Qs U J U U<|Qa<|xic (i:=k) (I.I E) U U oa λhi hc=>x (QD hc U) <|
    x (Yw rfl U)<|QJ U<|xe ?_
   exact⟨(),⟨OV Value.bool (OZ oa),Z⟩,U⟩
  rintro _ g w3 rfl;refine Z0 U<|Qh<|Qv<|QP U U<|Qa<|xe ?_;exact⟨k+1,oa,La,H,U⟩
 exact OW (show(t.length:Int)=(sz.length:Int) by omega) O
theorem jv {sz t:LI}{qx:List XV}{ks:List KV}(H:QR [] w.heap vs sz)(S:jg [] w.heap vx qx)(hK:jb [] w.heap vk ks)(T:QR [] w.heap vt t)(V:YF sz (qx.map (·.x)) (ks.map (·.k))=0)(h:Qnl sz t):
  Q6 prog 190 [.agg #[vs,vx,vk],vt] w λr w'=>r=oF oG 0/\O5 [] w w':=by
 refine Zo func190 ?_;refine Qc<|Qe<|QV (us:=[vs,vx,vk]) U λb2 w1 E ha I=>Qb<|Qd<|Qc<|Q9 I U U<|QN<|(yL (H.I E) (S.I E) (hK.I E)).mono ?_;rintro r2 w2 ⟨J,O⟩;rw[V]at J;subst J;refine Qb<|Qm<|ZD U U<|xe<|Z0 rfl<|Qh ?_;have G:=E.D O;refine Qc<|Q9 (I.I O) U U<|Qa<|QN<|(Qkc (H.I G) (T.I G) h).mono ?_;rintro r3 w3 ⟨rfl,Y⟩;refine Qb<|Qk ⟨[_],La,U,G.D Y⟩
def Un (qx:List U0)(ks:List xL)(t:LI):Int×Int×Bool :=
 if 0<=fix (VZ t) 0 qx then(1,fix (VZ t) 0 qx,true)else if 0<=fix (U3 t) 0 ks then(2,fix (U3 t) 0 ks,true)else(0,0,false)
theorem Qmo {cds:List Cd}{qx:List XV}{ks:List KV}(t:LI)(h:cds.map Cd.src=qx.map Sum.inl++ks.map Sum.inr):
  fix (Cd.vio t) 0 cds=if 0<=fix (VZ t) 0 (qx.map (·.x))then fix (VZ t) 0 (qx.map (·.x))else if 0<=fix (U3 t) 0 (ks.map (·.k))then fix (U3 t) 0 (ks.map (·.k))+qx.length else -1:=by
 have E:fix (Cd.vio t) 0 cds=fix (QfX t) 0 (cds.map Cd.src):=(Vz (QfX t) Cd.src cds 0).symm;rw[E,h,yH,Vz,Lh,j2,Vz (QfX t) Sum.inr ks 0];have e1:fix (λa=>QfX t (Sum.inl a)) 0 qx=fix (VZ t) 0 (qx.map (·.x)):=(Vz (VZ t) XV.x qx 0).symm;have e2:fix (λa=>QfX t (Sum.inr a)) 0 ks=fix (U3 t) 0 (ks.map (·.k)):=(Vz (U3 t) KV.k ks 0).symm;rw[e1,e2]
theorem QnX {P:Int×Int×Bool}{a b:Int}{c:Bool}(h:P=(a,b,c)):(Value.tuple #[oF oG a,oF oG b,.bool c,oF oG 0])=.tuple #[oF oG P.1,oF oG P.2.1,.bool P.2.2,oF oG 0]:=by rw[h]
theorem qT {sz t:LI}{qx:List XV}{ks:List KV}(hS:QR [] w.heap vs sz)(S:jg [] w.heap vx qx)(hK:jb [] w.heap vk ks)(ht:QR [] w.heap vt t)(hc:YF sz (qx.map (·.x)) (ks.map (·.k))=0)(h:Qnl sz t):
  Q6 prog 127 [.agg #[vs,vx,vk],vt] w λr w'=>O5 [] w w'/\r=.tuple #[oF oG (Un (qx.map (·.x)) (ks.map (·.k)) t).1,oF oG (Un (qx.map (·.x)) (ks.map (·.k)) t).2.1,.bool (Un (qx.map (·.x)) (ks.map (·.k)) t).2.2,oF oG 0]:=by
 have T:=Vo hc;have hu:qx.length<=32:=by have:=T.xl;simpa using this
 have hv:ks.length<=32:=by have:=T.kl;simpa using this
 refine Zo func127 ?_;refine Qc<|Qe<|QV (us:=[vs,vx,vk]) U λb2 w1 V h6 hj=>x Ql<|x Ql<|x Ql<|Qb<|Qd<|Qc<|Q9 hj U U<|Qa<|QN<|(jv (hS.I V) (S.I V) (hK.I V) (ht.I V) hc h).mono ?_;rintro r2 w2 ⟨rfl,hk⟩;refine Qb<|Qm<|ZD U U<|xe<|Z0 rfl<|Qh ?_;have he:=V.D hk;have hl:=hj.I hk;refine Qc<|Q9 hl U U<|QN<|(QjX (S.I he) (hK.I he) hu hv).mono ?_;rintro r3 w3 ⟨hn,cds,hL,hf⟩;have hb:=he.D hn;have h7:cds.length=qx.length+ks.length:=by have:=OV oP hf;simpa using this
 have hw:∀i,i<t.length->0<=O6 t i/\O6 t i<=4096:=λi hi=>by
  have H:=h.2 i hi;have Y:i<sz.length:=by rw[<-h.1];exact hi
  have h3:=T.s _ (Ll Y);rw[ZE Y]at h3;omega
 have ho:∀c∈cds,c.src∈qx.map Sum.inl++ks.map Sum.inr:=λc I=>by rw[<-hf];exact LJ I
 have hy:∀c∈cds,CdA w3.heap c:=λc I=>by
  have H:=ho c I;have Y:=(hL.bx c I).1;cases c with
  | ex b q =>
   have G:q∈qx:=by simpa[Cd.src]using H
   exact⟨Y,(S.each q G).I hb⟩
  | co b q =>
   have G:q∈ks:=by simpa[Cd.src]using H
   exact⟨Y,(hK.each q G).I hb⟩
 have hz:∀c∈cds,c.rg t.length:=λc I=>by
  have H:=ho c I;rw[h.1];cases c with
  | ex b q =>
   have G:q∈qx:=by simpa[Cd.src]using H
   exact T.x q.x (LJ G)
  | co b q =>
   have G:q∈ks:=by simpa[Cd.src]using H
   exact T.k q.k (LJ G)
 have h0:=Qmo t hf;have g1:=QdM (VZ t) (qx.map (·.x)) 0;have g2:=QdM (U3 t) (ks.map (·.k)) 0;simp only[Oc]at g1 g2;refine Qa<|QN<|(Qbx (QK (L:=[]) hL.own oa oe) hy (ht.I hb) hz hw).mono ?_;rintro r4 w4 ⟨rfl,hp⟩;rw[h0];have ha:=hb.D hp;refine Zj (Un (qx.map (·.x)) (ks.map (·.k)) t) λP J=>?_;rw[J];unfold Un at J;refine Zj (fix (VZ t) 0 (qx.map (·.x))) λO hg=>?_;refine Zj (fix (U3 t) 0 (ks.map (·.k))) λi2 hh=>?_;rw[hg,hh]at J;rw[hg]at g1;rw[hh]at g2;refine Zj (if 0<=O then O else if 0<=i2 then i2+(qx.length:Int)else -1) λr E=>?_
 rw[hg,hh,E];refine Qb<|Qg<|Qm<|QY U U<|Qb<|QZ U (λh4=>?_) (λh4=>?_)
 ·have n1:¬0<=O:=λh=>by rw[OU h]at E;omega
  have n2:¬0<=i2:=λh=>by rw[OT n1,OU h]at E;omega
  refine Qc<|x Ql<|x Ql<|x Ql<|Qb<|Qk ⟨[_,_,_,_],oC,ha,QnX (by rw[<-J,OT n1,OT n2])⟩
 have hs:=(hl.I hn).I hp;refine Qm<|Qs U hs U U<|QL (S.I ha).arr U<|QY U U<|Qb<|QZ U (λh5=>?_) (λh5=>?_)
 ·have p1:0<=O:=by
   refine Lo.1 λn1=>?_;by_cases h:0<=i2
   ·rw[OT n1,OU h]at E;omega
   rw[OT n1,OT h]at E;omega
  have e:r=O:=by rw[OU p1]at E;exact E.symm
  refine Qm<|x Ql<|x Ql<|x Ql<|Qb<|Qk ⟨[_,_,_,_],oC,ha,QnX (by rw[<-J,OU p1,e])⟩
 have n1:¬0<=O:=λh=>by rw[OU h]at E;omega
 have p2:0<=i2:=by
  refine Lo.1 λn2=>?_;rw[OT n1,OT n2]at E;omega
 have e:r - (qx.length:Int)=i2:=by rw[OT n1,OU p2]at E;omega
 refine Qd<|ZF [] (Xi 0 9 [])<|p QF<|p (QQ U)<|pq (λ_ hc=>Qq (hs.I hc) U U)<|p (λ_=>YX (S.I ha).arr U) <|
  p (λ_=>JH U U ⟨oa,oa⟩)<|p ZI<|p ZI<|p ZI<|p ZI <|
  pe ?_
 exact Qk ⟨[_,_,_,_],oC,ha.D (O5.C _ _),QnX (by rw[<-J,OT n1,OU p2,<-e])⟩
def YH (base:Nat)(av:LN)(H:xC)(v:O2)(n sz:Nat)(cs:LV):Prop:=∀L:LN,(∀b∈L,b<base\/b∈av)->Zp L H v n sz cs
theorem YH.I {base:Nat}{av:LN}{w w':O1}{v:O2}{n sz:Nat}{cs:LV}(h:YH base av w.heap v n sz cs)(E:O5 [] w w'):YH base av w'.heap v n sz cs:=λL G=>(h L G).I E
theorem YH.app {base:Nat}{I:LN}{v:O2}(h:YH base av w.heap v n sz cs)(J:O5 av w w')(O:∀b∈I,b∈av\/w.heap.size<=b):YH base I w'.heap v n sz cs:=by
 intro L S;have T:Zp (av++L.filter λb=>decide (b<base)) w.heap v n sz cs:=h _ (λb E=>by
  rcases Lc.1 E with E|E
  ·exact .inr E
  exact .inl (by simpa using(L8.1 E).2))
 refine T.grow J (λb E=>Lc.2 (.inl E)) λb E=>?_;rcases S b E with G|G
 ·exact .inl (Lc.2 (.inr (L8.2 ⟨E,oz G⟩)))
 rcases O b G with H|H
 ·exact .inl (Lc.2 (.inl H))
 exact .inr H
theorem YH.of_own {base:Nat}{v:O2}{e:Nat}(h:w.ownsRow N e sz v n cs)(H:n<=1099511627776)(E:base<=N)(I:∀b∈av,b<N):YH base av w.heap v n sz cs:=λL J =>
 QK h H λb E hbL=>by
  have O:=(Qi h b E).1;rcases J b hbL with G|G
  ·omega
  have:=I b G;omega
structure YC {α:Type}(g:α->LV)(sz T:Nat)(p:α->O2×Nat×Nat×LV)(base:Nat)(w:O1)(v:O2)(l:List α):Prop where
 own:w.ownsRow base T sz v l.length (l.flatMap g)
 each:∀q∈l,YH base (ob v) w.heap (p q).1 (p q).2.1 (p q).2.2.1 (p q).2.2.2
theorem YC.nil {g:α->LV}{p:α->O2×Nat×Nat×LV}{base:Nat}:YC g sz T p base w (nS) []:=⟨QI _ _ _ _,λq E=>by cases E⟩
theorem YC.I {α:Type}{g:α->LV}{sz T:Nat}{p:α->O2×Nat×Nat×LV}{base:Nat}{w w':O1}{v:O2}{l:List α}(h:YC g sz T p base w v l)(E:O5 [] w w'):YC g sz T p base w' v l:=⟨Qn h.own E,λq G=>(h.each q G).I E⟩
theorem YC.app {α:Type}{g:α->LV}{sz T:Nat}{p:α->O2×Nat×Nat×LV}{base N e:Nat}{w E G:O1}{v H:O2}{l:List α}{q:α}(h:YC g sz T p base w v l)(S:O5 [] w E)
  (V:E.ownsRow N e (p q).2.2.1 (p q).1 (p q).2.1 (p q).2.2.2) (Y:(p q).2.1<=1099511627776) (hN:w.heap.size<=N) (I:base<=w.heap.size)
  (ho:G.ownsRow base T sz H (l.length+1) (l.flatMap g++g q)) (J:O5 (ob v) E G) (O:∀b∈ob H,b∈ob v\/E.heap.size<=b):YC g sz T p base G H (l++[q]):=by
 have ha:=Zb h.own;refine⟨?_,λd hd=>?_⟩
 ·rw[Lk,LA];simpa using ho
 rcases Lc.1 hd with hd|hd
 ·exact((h.each d hd).I S).app J O
 simp only[oI]at hd;subst hd;exact(YH.of_own V Y oa (λb I=>ou (ha b I))).app J O
theorem Qc3 {ha hb hc:O2}{b:Q0}(h:ZG L w.heap va vm ve a)(h':ZG L' w.heap ha hb hc b):
  Q6 prog 55 [.agg #[va,oF oG a.st,vm,ve],.agg #[ha,oF oG b.st,hb,hc]] w λr w'=>r=.bool (decide (a.st=b.st/\a.al=b.al/\a.mr=b.mr/\a.ed=b.ed))/\O5 [] w w':=by
 refine Zo func55 ?_;refine Qc<|Qe<|QV (us:=[va,oF oG a.st,vm,ve]) U λb2 w1 hh hl hi=>Qe<|QV (us:=[ha,oF oG b.st,hb,hc]) U λb3 w2 he E H=>Qb ?_;have I:=hh.D he;have J:=hi.I he;refine Q3 (α:=Bool) [(4,30)] (λz=>[(4,.bool z)]) (λz w'=>O5 [] w w'/\z=decide (a.st=b.st/\a.al=b.al/\a.mr=b.mr/\a.ed=b.ed)) ol ?_ ?_
 ·refine Qv<|Qs U J U U<|Qs U H U U<|xb (Q2 U U) (λh9=>?_) (λh9=>?_)
  ·refine Qa<|Qs U J U U<|Qs U H U U<|QN<|(VB (h.al.I I) (h'.al.I I)).mono ?_;rintro r3 w3 ⟨O,S⟩;have T:=I.D S;refine QjD (decide (a.al=b.al)) (λE=>?_) (λE=>?_)
   ·rw[E]at O;subst O;refine QJ U<|Qa<|Qs U (J.I S) U U<|Qs U (H.I S) U U<|QN<|(VB (h.mr.I T) (h'.mr.I T)).mono ?_;rintro r4 w4 ⟨V,hf⟩;have Y:=T.D hf;have hg:=S.D hf;refine QjD (decide (a.mr=b.mr)) (λG=>?_) (λG=>?_)
    ·rw[G]at V;subst V;refine QJ U<|Qa<|Qs U (J.I hg) U U<|Qs U (H.I hg) U U<|QN<|(QgI (h.ed.I Y) (h'.ed.I Y)).mono ?_;rintro r5 w5 ⟨rfl,hj⟩;refine QJ U<|Qb<|⟨_,La,Y.D hj,bD ⟨λe=>⟨h9,OY E,OY G,e⟩,λe=>e.2.2.2⟩⟩
    rw[G]at V;subst V;refine QJ U<|Qa<|Qr<|Qr<|Qr<|Qr<|Qr<|QJ U<|Qb<|⟨_,La,Y,bF (λe=>O0 G e.2.2.1)⟩
   rw[E]at O;subst O;refine QJ U<|Qa<|Qr<|Qr<|Qr<|Qr<|Qr<|QJ U<|Qa<|Qr<|Qr<|Qr<|Qr<|Qr<|x (yc U) <|
    Qb<|⟨_,La,T,bF (λe=>O0 E e.2.1)⟩
  refine Qa<|Qr<|Qr<|Qr<|Qr<|Qr<|QJ U<|Qa<|Qr<|Qr<|Qr<|Qr<|Qr<|x (yc U) <|
   Qa<|Qr<|Qr<|Qr<|Qr<|Qr<|QJ U<|Qb<|⟨_,La,I,bF (λe=>h9 e.1)⟩
 rintro z g w6 ⟨hk,rfl⟩;exact Qk ⟨[_],La,U,hk⟩
theorem QkO (h:ZG L w.heap va vm ve a):
  Q6 prog 149 [.agg #[va,oF oG a.st,vm,ve]] w λr w'=>r=.bool (Jl a)/\O5 [] w w':=by
 refine Zo func149 ?_;refine Qc<|Qe<|QV (us:=[va,oF oG a.st,vm,ve]) U λb1 S hb hg G=>Qb<|Q3 (α:=Bool) [(2,11)] (λz=>[(2,.bool z)]) (λz w'=>O5 [] w w'/\z=Jl a) ol ?_ ?_
 ·refine ZF [] (Xi 0 10 [1,6,7]) ?_;have T:=hb.D (O5.C [] S);refine pq (λ_ E=>Z1 (G.J E oe) rfl rfl)<|pk<|xg<|(Jf (h.I T)).mono ?_;rintro r2 w2 ⟨rfl,V⟩;have H:=T.D V;have I:=(O5.C [] S).D V;refine⟨I,?_⟩;refine pb (λ_=>Q2 U U) (λJ=>?_) (λJ=>?_)
  ·have E:JD a=0:=J;refine p QF<|pq (λ_ E=>Z1 (G.J E oe) rfl rfl)<|pq (λ_ E=>Z1 (G.J E oe) rfl rfl) <|
    pk<|xg<|(Jv (h.I H) ((ZQ a).1 E)).mono ?_
   rintro r3 w3 ⟨O,hh,hi,hj,rfl,he⟩;have Y:=H.D O;refine⟨I.D O,?_⟩;refine pk<|xg<|(Qc3 (h.I Y) (he [] oe)).mono ?_;rintro r4 w4 ⟨rfl,ha⟩;refine⟨(I.D O).D ha,?_⟩;refine p (Xk U)<|p ZI<|pe ?_;refine⟨_,La,Y.D ha,?_⟩;unfold Jl;rw[OX E,OO];exact bD ⟨λe=>⟨e.1.symm,e.2.1.symm,e.2.2.1.symm,e.2.2.2.symm⟩,λe=>⟨e.1.symm,e.2.1.symm,e.2.2.1.symm,e.2.2.2.symm⟩⟩
  have E:¬JD a=0:=J;refine p QF<|ps<|ps<|ps<|ps<|p (Xk U)<|p ZI<|pe ?_;exact⟨_,La,H,by unfold Jl;rw[OZ E];rfl⟩
 rintro z g w5 ⟨hf,rfl⟩;exact Qk ⟨[_],La,U,hf⟩
section
variable {pS:String}
theorem Zv [Ag P t sz]{x:O3}(h:Q7 w.heap b T cs)(hx:ev f x=.pointer (some ⟨b,o,none⟩))(hl:us.length=sz)(G:(cs.drop o).take sz=us):
  (execOp (ev f) ⟨d,.load t x,ty,pS,af,gd⟩).run P w=.ok (.value (.agg us.toArray)) w:=zq hx hl λj v E=>by
 rw[Kp,Kt,h.cell];rw[<-G,LW]at E;split at E
 ·simpa using E
 cases E
end
theorem QdG {v:O2}{qs:List IV}(h:XW L w.heap v qs):
  Q6 prog 186 [v] w λr w'=>O5 [] w w'/\w'.ownsRow w.heap.size 59 4 r (qs.map (·.p)).length ((qs.map (·.p)).flatMap ZU):=by
 have ho:=h.arr.le;refine Zo func186 ?_;refine Qc<|Qb<|Qc<|Qb<|Qd<|Qm<|QL h.arr U<|Qa<|xe<|Qg<|QC (α:=Nat×O2) [(3,3),(5,5),(8,17)] (λz=>[(3,z.2),(8,oF oG z.1)]) (λz w'=>z.1<=qs.length/\O5 [] w w'/\w'.ownsRow w.heap.size 59 4 z.2 z.1 (((qs.take z.1).map (·.p)).flatMap ZU)) (λz=>qs.length - z.1) ol (0,nS) oA
  ⟨Ln _,O5.Z _ _,QI _ _ _ _⟩ ?_
 rintro⟨k,vo⟩ g w1 ⟨hk,H,I⟩;simp only[]at hk I;refine Qc<|QY U U<|xe<|Qd<|QH U (λO=>?_) (λO=>?_)
 ·refine Qz ?_;have hc:k=qs.length:=by have J:¬(k:Int)<(qs.length:Int):=O;omega
  subst hc;rw[Lt (Lx _)]at I;refine Qm<|Qb<|Qk ⟨[_],La,H,by rw[Lh];exact I⟩
 have E:k<qs.length:=by have J:(k:Int)<(qs.length:Int):=O;omega
 have V:=Ll E;have Y:qs.take (k+1)=qs.take k++[qs[k]'E]:=Lm E;refine Qh<|Qd<|Qg<|Qc<|O8 Yn (h.arr.I H) U U E λhp J=>?_;refine Zj (qs[k]'E) λq hq=>?_;rw[hq]at J V Y;have G:=h.each q V;refine x (Qw J U U)<|Qe<|Qo (us:=[.string .empty,nS,oF oG 0,nS,nS]) U λb5 w2 he hf S=>Qe<|Qj (us:=QM q) S U U U U ⟨U,G.al.one,U,G.mr.one,G.ed.one,Z⟩ λw3 hg S =>
  xe ?_
 have hh:O5 [] w1 w3:=he.O hg hf;refine Qv<|Qa<|Zc U<|x (Zv (us:=ZU q.p) S U U U)<|Qe<|QA (us:=[ZU q.p]) U U og oe ⟨rfl,rfl,Z⟩ λhr w4 hi hs hj=>?_;have T:=hh.D hi;have ha:=Qn I T;have ht:=(H.D T).size;have hl:∀u∈ZU q.p,u.oneCell'=true:=by
  intro u hu;simp only[oL,oJ,or_false]at hu;rcases hu with rfl|rfl|rfl|rfl
  ·exact G.al.one
  ·rfl
  ·exact G.mr.one
  exact G.ed.one
 refine Qe<|Q8 (news:=ZU q.p) (L:=[]) ha U U U (hj.at oe) hl oa oa λv5 w5 hm hn hv=>Qb ?_;have hge:=Qi ha;refine Qv<|QP U U<|Qa<|xe<|⟨(k+1,v5),oh,oA,E,(H.D T).then hn (λb hb=>.inr (hge b hb).1),?_⟩;simp only[];rw[Y,Ls,LA];simpa using hm
theorem Qje {r:O2}{base e:Nat}{ps:List AV}(h:w.ownsRow base e 4 r ps.length (ps.flatMap ZU))(E:ps.length<=1099511627776)(G:∀b∈L,b<base)(H:∀p∈ps,ZG L w.heap p.va p.vm p.ve p.a):Kw L w.heap r ps :=
 ⟨QK h E (λb I hbL=>ov (Qi h b I).1 (G b hbL)),H⟩
theorem Qjd {n m:Int}(E:Q7 w.heap b 3 [oF oG m]):
  Q6 prog 151 ([oF oG n]++[.pointer (some ⟨b,0,none⟩)]) w λr w'=>r=.bool (decide (m<=n))/\O5 [] w w':=by
 refine Zo func151 ?_;refine Qc<|Qb<|Qm<|Xb E U U<|x (Yw U U)<|Qb<|Qk ⟨[_],La,U,O5.Z _ _⟩
abbrev UH (n:Int):LV:=[oF oG n]
theorem QoV (n:Int):(UH n).length=1:=rfl
theorem QnH:∀l:LI,l.flatMap UH=l.map (.int .i64)
 | []=>rfl
 | a::l=>by rw[LM,QnH l];rfl
theorem QR.fl {v:O2}(h:QR L H v l):Zp L H v l.length 1 (l.flatMap UH):=by
 rw[QnH l];exact h
theorem Qjb [Fu prog gp fn]{cap:LV}{q:Int->Bool}{v:O2}(h:Zp L w.heap v l.length 1 (l.flatMap UH))
  (Y:∀e∈l,∀(G:O1),O5 [] w G->Q6 prog gp ([oF oG e]++cap) G λr w'=>r=.bool (q e)/\O5 [] G w'):
  Q6 prog 74 [v,.func (.func gp) #[] cap.toArray] w λr w'=>r=oF oG (fix q 0 l)/\O5 [] w w':=by
 have hc:=h.le;refine Zo func74 ?_;refine Qc<|Qb<|Qd<|Qm<|QL h U<|Qa<|xe<|Qg<|QC (α:=Nat) [(4,5),(8,18)] (λz=>[(8,oF oG z)]) (λz w'=>z<=l.length/\O5 [] w w'/\fix q z (l.drop z)=fix q 0 l) (λz=>l.length - z) ol 0 La
  ⟨Ln _,O5.Z _ _,U⟩ ?_
 rintro k g G ⟨hk1,H,E⟩;refine Qc<|QY U U<|xe<|Qd<|QH U (λJ=>?_) (λJ=>?_)
 ·refine Qz ?_;have ha:l.length<=k:=by have hb:¬(k:Int)<(l.length:Int):=J;omega
  rw[Lr ha]at E;refine Qc<|Qb<|Qk ⟨[_],La,by rw[<-E];rfl,H⟩
 have I:k<l.length:=by have hb:(k:Int)<(l.length:Int):=J;omega
 rw[Zf I,Yo]at E;have S:=Ll I;refine Qh<|Qd<|Qg<|Qm<|Qb<|Qm<|Qa<|Qa<|O8 QoV (h.I H) U U I λhf T=>?_;refine Zj (l[k]'I) λe he=>?_;rw[he]at T E S;refine x (QD T U)<|Qe<|xc (first:=[]) (capt:=cap) U<|(Y e S G H).mono ?_;rintro r2 w2 ⟨rfl,V⟩;refine xe<|QX rfl (λO=>?_) (λO=>?_)
 ·rw[OU O]at E;refine Qm<|Qb<|Qk ⟨[_],La,by rw[<-E];rfl,H.D V⟩
 rw[OT (by rw[O];decide)]at E;refine Qh<|Qv<|QP U U<|Qa<|xe ?_;exact⟨k+1,oa,La,I,H.D V,E⟩
theorem Qpr [Fu prog gp fn]{cap:LV}{q:Int->Bool}{v:O2}(h:Zp L w.heap v l.length 1 (l.flatMap UH))
  (G:∀e∈l,∀(E:O1),O5 [] w E->Q6 prog gp ([oF oG e]++cap) E λr w'=>r=.bool (q e)/\O5 [] E w'):
  Q6 prog 150 [v,.func (.func gp) #[] cap.toArray] w λr w'=>r=.bool (l.any q)/\O5 [] w w':=by
 refine Zo func150 ?_;refine Qc<|Qb<|Qm<|Qa<|ZM<|(Qjb h G).mono ?_;rintro I E ⟨rfl,H⟩;refine x (Yw U U)<|Qb<|Qk ⟨[_],La,OV Value.bool (Qa8 q l 0),H⟩
theorem Qe3 {q:IV}{nev:Nat}{vg:O2}{amg:LI}{bm:Nat}{seen:List ByteArray}(hA:ZG L w.heap q.p.va q.p.vm q.p.ve q.p.a)(h1:Kl q.nm)(hg:QR L' w.heap vg amg)(hD:amg.length<=4096)(hm:Ym JL w.heap bm (nmM seen))(hbL:bm∈L)(h2:bm∈L'):
  Q6 prog 82 [.agg (QM q).toArray,oF oG nev,vg,.map (some bm)] w λr w'=>r=oF oG (ZW nev amg seen q.it)/\O5 [bm] w w'/\(ZW nev amg seen q.it=0->Ym JL w'.heap bm (nmM (seen++[q.nm]))):=by
 have E:ZW nev amg seen q.it=(if Y1 q.nm=false then 7 else if q.nm∈seen then 8 else if JD q.p.a≠0 then JD q.p.a else if Jl q.p.a=false then 6 else if q.p.a.st=0 then 12 else
  if(q.p.a.al.any λe=>decide ((nev:Int)<=e))=true then 2 else if(mns q.p.a.al amg).length≠0 then 9 else 0):=rfl
 refine Zj (ZW nev amg seen q.it) λR hR=>?_;rw[hR]at E ⊢;refine Zo func82 ?_;refine Qc<|Qe<|QV (us:=QM q) U λb4 w1 ht hE h3=>Qe<|QV (us:=[oF oG nev]) U λb5 w2 T hF h4=>Qb ?_;have V:=ht.D T;have Y:=h3.I T;refine Qd<|Qg<|Qc<|Qs U Y U U<|ZM<|(VK q.nm h1 w2).mono ?_;rintro r3 w3 ⟨rfl,rfl⟩;refine x (ZB U)<|Qb<|QX U (λhi=>?_) (λhi=>?_)
 ·have G:Y1 q.nm=false:=by simpa using hi
  rw[OU G]at E;subst E;refine Qc<|Qb<|Qk ⟨[_],La,U,V.any,λe=>OW e og⟩
 have G:¬Y1 q.nm=false:=by simpa using hi
 rw[OT G]at E;have hu:=hm.I V;refine Qm<|Qs U Y U U<|x (QbW hu U U)<|Qb<|QZ U (λha=>?_) (λha=>?_)
 ·rw[OU ha]at E;subst E;refine Qc<|Qb<|Qk ⟨[_],La,U,V.any,λe=>OW e og⟩
 rw[OT ha]at E;refine Qh ?_;have hG:=hm.lt;refine Qm<|Qs U Y U U<|Qe<|XI (k:=q.nm) hu U U λw4 hj hv=>xe ?_;rw[show ev _ _=Value.bool true from rfl,QeL ha]at hv;have H:O5 [bm] w w4:=V.any.Q hj;have hH:=ht.size;have hc:=Y.J hj (by simp;omega);have h5:=h4.J hj (by simp;omega);have hf:ZG L w4.heap q.p.va q.p.vm q.p.ve q.p.a:=hA.st (H.mono (λb I=>by simp at I;subst I;exact hbL));have h6:QR L' w4.heap vg amg:=hg.st (H.mono (λb I=>by simp at I;subst I;exact h2));refine Qd<|Qc<|Zc U<|x (Zv (us:=ZU q.p) hc U U U)<|ZM<|(Jf hf).mono ?_;rintro r5 w5 ⟨rfl,hh⟩;refine Qb<|Qm<|ZD U U<|xe<|QZ rfl (λJ=>?_) (λJ=>?_)
 ·rw[OU J]at E;subst E;refine Qm<|Qb<|Qk ⟨[_],La,U,H.D hh,λe=>OW e J⟩
 rw[OT J]at E;have h7:=(ZQ q.p.a).1 (Lo.1 J);refine Qh<|Qd<|Qg<|Qc<|Zc U<|x (Zv (us:=ZU q.p) (hc.I hh) U U U)<|ZM<|(QkO (hf.I hh)).mono ?_;rintro r6 w6 ⟨rfl,h8⟩;have O:=hh.D h8;have hw:=H.D O;have hy:=hc.I O;refine x (ZB U)<|Qb<|QX U (λhk=>?_) (λhk=>?_)
 ·have G:Jl q.p.a=false:=by simpa using hk
  rw[OU G]at E;subst E;refine Qc<|Qb<|Qk ⟨[_],La,U,hw,λe=>OW e og⟩
 have G:¬Jl q.p.a=false:=by simpa using hk
 rw[OT G]at E;refine Qc<|Zc U<|Qs U hy U U<|x (Q2 U U)<|Qb<|QZ U (λhl=>?_) (λhl=>?_)
 ·have ho:q.p.a.st=0:=hl;rw[OU ho]at E;subst E;refine Qc<|Qb<|Qk ⟨[_],La,U,hw,λe=>OW e og⟩
 have ho:¬q.p.a.st=0:=hl;rw[OT ho]at E;refine Qc<|Zc U<|Qs U hy U U<|x Zx<|ZM<|(Qpr (q:=λe=>decide ((nev:Int)<=e)) (cap:=[.pointer (some ⟨b5,0,none⟩)]) (QR.fl (hf.al.I O)) (λe he w2 T=>Qjd ((h5.I O).I T))).mono ?_;rintro r7 w7 ⟨rfl,h9⟩;have S:=O.D h9;have hB:=H.D S;refine Qb<|QX U (λhp=>?_) (λhp=>?_)
 ·rw[OU hp]at E;subst E;refine Qc<|Qb<|Qk ⟨[_],La,U,hB,λe=>OW e og⟩
 rw[OT (by rw[hp];decide)]at E;have hI:=h7.al_le;refine Qc<|Zc U<|Qs U (hc.I S) U U<|Qa<|ZM<|(Qha (hf.al.I S) (h6.I S) oa).mono ?_;rintro r8 w8 ⟨hC,rfl⟩;have hz:=S.D hC;have h0:=H.D hz;refine x (yd U)<|Qb<|QZ U (λhq=>?_) (λhq=>?_)
 ·have hs:(mns q.p.a.al amg).length≠0:=λe=>hq (Lq e);rw[OU hs]at E;subst E;refine Qc<|Qb<|Qk ⟨[_],La,U,h0,λe=>OW e og⟩
 have hs:¬(mns q.p.a.al amg).length≠0:=λe=>hq (λh=>e (by rw[show mns q.p.a.al amg=[] from h];rfl));rw[OT hs]at E;subst E;refine Qh<|Qc<|Qb<|Qk ⟨[_],La,U,h0,λ_=>hv.I hz⟩
theorem j9 {v:O2}{l:xx}(h:js L w.heap v l):
  Q6 prog 90 [v] w λr w'=>O5 [] w w'/\w'.ownsRow w.heap.size 118 2 r l.length (l.flatMap QG):=by
 have hc:=h.le;refine Zo func90 ?_;refine Qc<|Qb ?_;obtain⟨ao,cap,G⟩:=h.shape;refine Qd<|Qm<|x (XD (show ev _ _=_ from G) U)<|xe<|QX rfl (λH=>?_) (λH=>?_)
 ·refine Qc<|Qb<|Qk ⟨[nS],La,O5.Z _ _,?_⟩;rcases h.2.2 with⟨E,I⟩|⟨a,c,E,_⟩
  ·have:l=[]:=Lq I;subst this;exact QI _ _ _ _
  rw[E]at G;cases G;cases H
 rcases h.2.2 with⟨E,I⟩|⟨a,c,E,I,V⟩
 ·rw[E]at G;injection G with e1;subst e1;cases H
 refine Qh<|Qc ?_;have Y:∀u∈l.flatMap QG,u.oneCell'=true:=by
  intro u hu;obtain⟨p,_,J⟩:=Mf.1 hu;simp only[oL,oJ,or_false]at J;rcases J with rfl|rfl <;> rfl
 refine Qe<|X4 λb5 w1 O S T=>Qa<|Qe<|Q8 (base:=w.heap.size) (T.own (n:=0) (sz:=2) U oa S) U (show ev _ _=_ from E) h.1 (V.I O) Y oa (ou T.lt) λv2 w2 ha hb he=>Qb<|Qk ⟨[v2],La,O.O hb S,?_⟩;simpa[tup]using ha
theorem j8 {v:O2}{l:xx}(h:js L w.heap v l):
  Q6 prog 91 [v] w λr w'=>O5 [] w w'/\w'.ownsRow w.heap.size 123 2 r l.length (l.flatMap QG):=by
 have hc:=h.le;refine Zo func91 ?_;refine Qc<|Qb ?_;obtain⟨ao,cap,G⟩:=h.shape;refine Qd<|Qm<|x (XD (show ev _ _=_ from G) U)<|xe<|QX rfl (λH=>?_) (λH=>?_)
 ·refine Qc<|Qb<|Qk ⟨[nS],La,O5.Z _ _,?_⟩;rcases h.2.2 with⟨E,I⟩|⟨a,c,E,_⟩
  ·have:l=[]:=Lq I;subst this;exact QI _ _ _ _
  rw[E]at G;cases G;cases H
 rcases h.2.2 with⟨E,I⟩|⟨a,c,E,I,V⟩
 ·rw[E]at G;injection G with e1;subst e1;cases H
 refine Qh<|Qc ?_;have Y:∀u∈l.flatMap QG,u.oneCell'=true:=by
  intro u hu;obtain⟨p,_,J⟩:=Mf.1 hu;simp only[oL,oJ,or_false]at J;rcases J with rfl|rfl <;> rfl
 refine Qe<|X4 λb5 w1 O S T=>Qa<|Qe<|Q8 (base:=w.heap.size) (T.own (n:=0) (sz:=2) U oa S) U (show ev _ _=_ from E) h.1 (V.I O) Y oa (ou T.lt) λv2 w2 ha hb he=>Qb<|Qk ⟨[v2],La,O.O hb S,?_⟩;simpa[tup]using ha
theorem YH.low {base:Nat}{v:O2}(h:YH base av w.heap v n sz cs)(G:O5 X w w')(H:∀b∈X,b<base):YH base av w'.heap v n sz cs:=by
 intro L I;have J:Zp (X++L) w.heap v n sz cs:=h _ (λb E=>by
  rcases Lc.1 E with E|E
  ·exact .inl (H b E)
  exact I b E)
 exact(J.J G (λb E=>Lc.2 (.inl E))).up (λb E=>.inl (Lc.2 (.inr E)))
theorem YC.low {α:Type}{g:α->LV}{sz T:Nat}{p:α->O2×Nat×Nat×LV}{base:Nat}{X:LN}{w w':O1}{v:O2}{l:List α}(h:YC g sz T p base w v l)(E:O5 X w w')(G:∀b∈X,b<base):YC g sz T p base w' v l :=
 ⟨Qf h.own E (λb H I=>ov (Qi h.own b H).1 (G b I)),λq J=>(h.each q J).low E G⟩
theorem YC.arr {g:α->LV}{p:α->O2×Nat×Nat×LV}{base:Nat}{v:O2}{l:List α}(h:YC g sz T p base w v l)(E:l.length<=1099511627776)(G:∀b∈L,b<base):Zp L w.heap v l.length sz (l.flatMap g):=
 QK h.own E (λb H hbL=>ov (Qi h.own b H).1 (G b hbL))
abbrev xvP (q:XV):O2×Nat×Nat×LV:=(q.v,q.ls.length,2,q.ls.flatMap QG)
abbrev kvP (q:KV):O2×Nat×Nat×LV:=(q.v,q.ts.length,2,q.ts.flatMap QG)
abbrev XvN (base:Nat)(w:O1)(v:O2)(l:List XV):Prop:=YC Q5 2 116 xvP base w v l
abbrev KvN (base:Nat)(w:O1)(v:O2)(l:List KV):Prop:=YC Za 3 121 kvP base w v l
theorem XvN.xcs {base:Nat}{v:O2}{l:List XV}{qs:List XV}(h:XvN base w v l)(J:l.map (·.x)=qs.map (·.x))(E:∀q∈qs,Kl q.nm)(O:l.length<=1099511627776)(G:∀b∈L,b<base):jg L w.heap v l:=by
 refine⟨h.arr O G,λq E=>h.each q E L (λb S=>.inl (G b S)),λq T=>?_⟩;have V:q.x∈qs.map (·.x):=by rw[<-J];exact LJ T
 obtain⟨H,Y,e⟩:=LC.1 V;have I:=E H Y;have h3:H.nm=q.nm:=OV U0.nm e;rw[h3]at I;exact I
theorem KvN.kcs {base:Nat}{v:O2}{l:List KV}{qs:List KV}(h:KvN base w v l)(J:l.map (·.k)=qs.map (·.k))(E:∀q∈qs,Kl q.nm)(O:l.length<=1099511627776)(G:∀b∈L,b<base):jb L w.heap v l:=by
 refine⟨h.arr O G,λq E=>h.each q E L (λb S=>.inl (G b S)),λq T=>?_⟩;have V:q.k∈qs.map (·.k):=by rw[<-J];exact LJ T
 obtain⟨H,Y,e⟩:=LC.1 V;have I:=E H Y;have h3:H.nm=q.nm:=OV xL.nm e;rw[h3]at I;exact I
theorem Qt {base e:Nat}{v:O2}(h:w.ownsRow base e sz v n cs):v.oneCell'=true:=by
 rcases h.2 with⟨E,_⟩|⟨g,cap,cur,E,_⟩ <;> subst E <;> rfl
theorem xM {base e:Nat}{v:O2}(h:w.ownsRow base e sz v n cs):v.cells=#[v]:=by
 rcases h.2 with⟨E,_⟩|⟨g,cap,cur,E,_⟩ <;> subst E <;> rfl
theorem Qat {q:XV}(h:q.v.oneCell'=true):∀u∈Q5 q,u.oneCell'=true:=by
 intro u E;simp only[oL,oJ,or_false]at E;rcases E with rfl|rfl
 ·rfl
 exact h
theorem QeX {q:KV}(h:q.v.oneCell'=true):∀u∈Za q,u.oneCell'=true:=by
 intro u E;simp only[oL,oJ,or_false]at E;rcases E with rfl|rfl|rfl
 ·rfl
 ·exact h
 rfl
def QrS (N:Nat)(w:O1)(r:O2)(sz:LI)(ex:List U0)(cs:List xL):Prop:=∃vs vx vk qx ks,r=.agg #[vs,vx,vk]/\qx.map (·.x)=ex/\ks.map (·.k)=cs/\∀L:LN,(∀b∈L,b<N)->QR L w.heap vs sz/\jg L w.heap vx qx/\jb L w.heap vk ks
theorem Qaj {c:CL}(h:ZH L w.heap c):
  Q6 prog 85 [c.val] w λr w'=>O5 [] w w'/\QrS w.heap.size w' r (szs c.V.co) c.V.ex c.V.cs:=by
 have pc:=h.co.arr.le;have pd:=h.ex.arr.le;have pf:=h.cs.arr.le;refine Zo func85 ?_;refine Qc<|Qe<|QV (us:=c.cells) U λb1 w1 ga pg gb=>Qe<|Qo (us:=[nS,nS,nS]) U λb2 w2 gc ph gg=>xe ?_;have pj:=ga.size;have pm:=gb.lt;have pn:=gg.lt;refine Qc<|x (Qx Z)<|Qe<|Qo (us:=[nS,nS,nS]) U λG w3 g8 g9 h8=>Qe<|Qj (us:=[nS,nS,nS]) h8 U U U U oB λw4 ka h8 =>
  xe ?_
 have po:=h8.lt;have V:O5 [] w2 w4:=g8.O ka g9;have gh:O5 [] w w4:=(ga.D gc).D V;have gi:=(gb.I gc).I V;have kb:=gg.I V;have h4:=h.I gh;have pp:b1<G:=oa
 have pu:b2<G:=oa
 have kc:w.heap.size<=G:=oa
 have hJ:∀{wa wb:O1},O5 [G] wa wb->O5 [] w wa->O5 [] w wb:=λha E=>E.O ha kc;refine Qd<|Qc<|Qs U gi U U<|QL h4.co.arr U<|Qa<|xe<|Qg<|QC (α:=Nat×O2) [(5,5),(14,26)] (λz=>[(14,oF oG z.1)]) (λz w'=>z.1<=c.co.length/\O5 [G] w4 w'/\Q7 w'.heap G 206 [z.2,nS,nS]/\Qu 3 w4.heap.size w' z.2 ((c.co.take z.1).map (·.p.a.st))) (λz=>c.co.length - z.1) ol (0,nS) La
  ⟨Ln _,O5.Z _ _,h8,QI _ _ _ _⟩ ?_
 rintro⟨k,vs⟩ g w5 ⟨hk,hv,h9,O⟩;simp only[]at hk h9 O;have gj:=hJ hv gh;have h5:=h.I gj;have gk:=gi.J hv (by simp;omega);have ke:=kb.J hv (by simp;omega);have pw:=hv.size;refine Qc<|QY U U<|xe<|Qd<|QH U (λhK=>?_) (λhK=>?_)
 ·refine Qz ?_;have kf:c.co.length<=k:=by have T:¬(k:Int)<(c.co.length:Int):=hK;omega
  rw[Lt kf]at O;refine Qd<|Qc<|Qs U gk U U<|QL h5.ex.arr U<|Qa<|xe<|Qg<|QC (α:=Nat×O2×List XV) [(7,7),(30,45)] (λz=>[(30,oF oG z.1)]) (λz w'=>z.1<=c.ex.length/\O5 [G] w5 w'/\Q7 w'.heap G 206 [vs,z.2.1,nS]/\XvN w5.heap.size w' z.2.1 z.2.2/\z.2.2.map (·.x)=(c.ex.take z.1).map (·.x)) (λz=>c.ex.length - z.1) ol (0,nS,[]) La
   ⟨Ln _,O5.Z _ _,h9,YC.nil,U⟩ ?_
  rintro⟨j,vx,qx⟩ g w6 ⟨hj,Y,hM,hf,hg⟩;simp only[]at hj hM hf hg;have gl:=hJ Y gj;have h6:=h.I gl;have kg:=gk.J Y (by simp;omega);have kh:=ke.J Y (by simp;omega);have pz:=Y.size;have p0:qx.length=j:=by have:=OV oP hg;simp at this;omega
  refine Qc<|QY U U<|xe<|Qd<|QH U (λhN=>?_) (λhN=>?_)
  ·refine Qz ?_;have ki:c.ex.length<=j:=by have T:¬(j:Int)<(c.ex.length:Int):=hN;omega
   rw[Lt ki]at hg;refine Qd<|Qc<|Qs U kg U U<|QL h6.cs.arr U<|Qa<|xe<|Qg<|QC (α:=Nat×O2×List KV) [(9,9),(49,66)] (λz=>[(49,oF oG z.1)]) (λz w'=>z.1<=c.cs.length/\O5 [G] w6 w'/\Q7 w'.heap G 206 [vs,vx,z.2.1]/\KvN w6.heap.size w' z.2.1 z.2.2/\z.2.2.map (·.k)=(c.cs.take z.1).map (·.k)) (λz=>c.cs.length - z.1) ol (0,nS,[]) La
    ⟨Ln _,O5.Z _ _,hM,YC.nil,U⟩ ?_
   rintro⟨i,vk,ks⟩ g w7 ⟨hi,hh,hO,hn,ho⟩;simp only[]at hi hO hn ho;have gm:=hJ hh gl;have h7:=h.I gm;have kj:=kh.J hh (by simp;omega);have p1:=hh.size;have p2:ks.length=i:=by have:=OV oP ho;simp at this;omega
   refine Qc<|QY U U<|xe<|Qd<|QH U (λhP=>?_) (λhP=>?_)
   ·refine Qz ?_;have kk:c.cs.length<=i:=by have T:¬(i:Int)<(c.cs.length:Int):=hP;omega
    rw[Lt kk]at ho;have kn:Zm [vs,vx,vk]:=⟨Qt O,Qt hf.own,Qt hn.own,Z⟩;refine Qc<|Q9 hO U U<|Qe<|Qj (us:=[vs,vx,vk]) kj U U U U kn λw8 hA ko=>xe ?_;refine Qk ⟨[.agg #[vs,vx,vk]],⟨⟨_,U,Qp U (ko.at (L:=[]) oe).cells⟩,Z⟩,gm.O hA oa,?_⟩;have kq:=Qf ((Qf O Y (λb E H=>by have:=(Qi O b E).1;simp at H;omega))) hh (λb E H=>by have:=(Qi O b E).1;simp at H;omega);have kr:=Qf kq hA (λb E H=>by have:=(Qi O b E).1;simp at H;omega);have kt:=(YC.low hf hh (by simp;omega)).low hA (by simp;omega);have ku:=YC.low hn hA (by simp;omega);refine⟨vs,vx,vk,qx,ks,U,hg,ho,λL hL=>⟨?_,XvN.xcs kt hg h.ex.nm oa (λb E=>ou (hL b E)),KvN.kcs ku ho h.cs.nm oa (λb E=>ou (hL b E))⟩⟩;have he:szs c.V.co=c.co.map (·.p.a.st):=by show((c.co.map IV.it).map _)=_;rw[Ms];rfl
    rw[he];exact Qu.ints kr (by rw[Lh];omega) (λb E=>ou (hL b E))
   have hp:i<c.cs.length:=by have T:(i:Int)<(c.cs.length:Int):=hP;omega
   have gn:=Ll hp;have go:c.cs.take (i+1)=c.cs.take i++[c.cs[i]'hp]:=Lm hp;refine Qh<|Qd<|Qg<|Qc<|O8 Xs h7.cs.arr U U hp λp3 gp=>?_;refine Zj (c.cs[i]'hp) λq hq=>?_;rw[hq]at gp gn go;have J:=h7.cs.each q gn;refine x (Qw gp U U)<|Qe<|Qo (us:=[.string .empty,nS,oF oG 0]) U λb9 w9 kv kw hw=>Qe<|Qj (us:=Za q) hw U U U U ⟨U,J.one,U,Z⟩ λhr kx hw =>
    xe ?_
   have hB:O5 [] w7 hr:=kv.O kx kw;have gq:=hO.I hB;have hQ:=Qi hn.own;have S:G∉ob vk:=λH=>ou (hQ G H).1
   have hR:b9∉ob vk:=λH=>ou (hQ b9 H).2
   refine ZF (ob vk) [oD 0,oD 1,oD 2,oD 3,oD 4,oD 5,oD 7,oD 8,oE 6,oD 9,oE 10,oE 11,oD 12,oE 13] ?_;have kz:=hB.D (O5.C [] hr);refine p (QQ U)<|pq (λ_ I=>Qq (gq.J I S) U U)<|p (QQ U)<|pq (λ_ I=>Qq (hw.J I hR) U U) <|
    p (QQ rfl)<|pq (λ_ I=>Qq (hw.J I hR) U U)<|p (QQ U)<|pq (λ_ I=>Qq (hw.J I hR) U U) <|
    pk<|xg<|(j8 (J.I kz)).mono ?_
   rintro hy p4 ⟨k0,hS⟩;have hz:=(O5.C [] hr).D k0;refine⟨hz.any,?_⟩;refine p (λ_=>Qx ⟨U,xM hS,U,Z⟩)<|pk<|QA (us:=[Za ⟨q.nm,hy,q.ts,q.bd⟩]) U U og oe ⟨rfl,rfl,Z⟩ λp5 p6 h0 p7 k4=>⟨(hz.D h0).any,?_⟩;have hC:=(hB.D hz).D h0;have hT:hr.heap.size=({ hr with drawn:=hr.drawn+1 }:O1).heap.size:=rfl
   have p8:=hB.size;have p9:=hC.size;refine pk<|Q8 (news:=Za ⟨q.nm,hy,q.ts,q.bd⟩) (L:=[]) (Qn hn.own hC) U U U (k4.at oe) (QeX (q:=⟨q.nm,hy,q.ts,q.bd⟩) (Qt hS)) oa oa λhU gr gs hD k5=>⟨((hz.D h0).any (L:=ob vk)).Q hD,?_⟩;have k6:KvN w6.heap.size gr hU (ks++[⟨q.nm,hy,q.ts,q.bd⟩]):=YC.app hn hC (Qn hS h0) J.le (by rw[<-hT];omega) oa gs hD k5;have k7:=(gq.J ((hz.D h0).any (L:=ob vk)) S).J hD S;refine p (QQ U)<|pkl (hl:=by kernel_rfl)<|QB (j:=2) (u:=hU) k7 U U oe (Qt gs) λqc gt k8=>pe ?_;have k9:O5 [G] w6 gr:=(hh.D hC).then hD (λb E=>.inr (hQ b E).1);refine Qv<|QP U U<|Qa<|xe<|⟨(i+1,hU,ks++[⟨q.nm,hy,q.ts,q.bd⟩]),oh,La,hp,?_,k8,YC.low k6 gt (by simp;omega),?_⟩
   ·exact k9.Q gt
   simp only[];rw[Ls,ho,go,Ls];rfl
  have hs:j<c.ex.length:=by have T:(j:Int)<(c.ex.length:Int):=hN;omega
  have gu:=Ll hs;have gv:c.ex.take (j+1)=c.ex.take j++[c.ex[j]'hs]:=Lm hs;refine Qh<|Qd<|Qg<|Qc<|O8 XC h6.ex.arr U U hs λqf gw=>?_;refine Zj (c.ex[j]'hs) λq hq=>?_;rw[hq]at gw gu gv;have J:=h6.ex.each q gu;refine x (Qw gw U U)<|Qe<|Qo (us:=[.string .empty,nS]) U λb7 ql ma mf hE=>Qe<|Qj (us:=Q5 q) hE U U U U ⟨U,J.one,Z⟩ λht mg hE =>
   xe ?_
  have hF:O5 [] w6 ht:=ma.O mg mf;have gx:=hM.I hF;have hV:=Qi hf.own;have S:G∉ob vx:=λH=>ou (hV G H).1
  have gy:b7∉ob vx:=λH=>ou (hV b7 H).2
  refine ZF (ob vx) (Xi 0 12 [6,8,9,11]) ?_;have mh:=hF.D (O5.C [] ht);refine p (QQ U)<|pq (λ_ I=>Qq (gx.J I S) U U)<|p (QQ U)<|pq (λ_ I=>Qq (hE.J I gy) U U) <|
   p (QQ rfl)<|pq (λ_ I=>Qq (hE.J I gy) U U)<|pk<|xg<|(j9 (J.I mh)).mono ?_
  rintro h1 qo ⟨mj,hW⟩;have h2:=(O5.C [] ht).D mj;refine⟨h2.any,?_⟩;refine p (λ_=>Qx ⟨U,xM hW,Z⟩)<|pk<|QA (us:=[Q5 ⟨q.nm,h1,q.ls⟩]) U U og oe ⟨rfl,rfl,Z⟩ λqr qy h3 q0 mo=>⟨(h2.D h3).any,?_⟩;have hG:=(hF.D h2).D h3;have hT:ht.heap.size=({ ht with drawn:=ht.drawn+1 }:O1).heap.size:=rfl
  have q1:=hF.size;have q2:=hG.size;refine pk<|Q8 (news:=Q5 ⟨q.nm,h1,q.ls⟩) (L:=[]) (Qn hf.own hG) U U U (mo.at oe) (Qat (q:=⟨q.nm,h1,q.ls⟩) (Qt hW)) oa oa λhX gz g0 hH mq=>⟨((h2.D h3).any (L:=ob vx)).Q hH,?_⟩;have ms:XvN w5.heap.size gz hX (qx++[⟨q.nm,h1,q.ls⟩]):=YC.app hf hG (Qn hW h3) J.le (by rw[<-hT];omega) oa g0 hH mq;have mt:=(gx.J ((h2.D h3).any (L:=ob vx)) S).J hH S;have mu:O5 [G] w5 gz:=(Y.D hG).then hH (λb E=>.inr (hV b E).1);refine p (QQ U)<|pkl (hl:=by kernel_rfl)<|QB (j:=1) (u:=hX) mt U U oe (Qt g0) λq3 g2 mv=>pe ?_;refine Qv<|QP U U<|Qa<|xe<|⟨(j+1,hX,qx++[⟨q.nm,h1,q.ls⟩]),oh,La,hs,?_,mv,YC.low ms g2 (by simp;omega),?_⟩
  ·exact mu.Q g2
  simp only[];rw[Ls,hg,gv,Ls];rfl
 have hu:k<c.co.length:=by have T:(k:Int)<(c.co.length:Int):=hK;omega
 have g3:=Ll hu;have g4:c.co.take (k+1)=c.co.take k++[c.co[k]'hu]:=Lm hu;have q4:((c.co.take k).map (·.p.a.st)).length=k:=by simp;omega
 refine Qh<|Qd<|Qg<|Qc<|O8 Yn h5.co.arr U U hu λq5 T=>?_;refine Zj (c.co[k]'hu) λq hq=>?_;rw[hq]at T g3 g4;have J:=h5.co.each q g3;refine x (Qw T U U)<|Qe<|Qo (us:=[.string .empty,nS,oF oG 0,nS,nS]) U λb5 za mw my hY=>Qe<|Qj (us:=QM q) hY U U U U ⟨U,J.al.one,U,J.mr.one,J.ed.one,Z⟩ λmz m2 hY =>
  xe ?_
 have g5:O5 [] w5 mz:=mw.O m2 my;have m3:=h9.I g5;refine Qv<|Qs U m3 U U<|Zc U<|Qs U hY U U<|Qe<|QA (us:=[[oF oG q.p.a.st]]) U U og oe ⟨rfl,rfl,Z⟩ λzb zv m4 z0 m5=>?_;have hI:=g5.D m4;have z1:=hI.size;have g6:=Qi O;have S:G∉ob vs:=λH=>ou (g6 G H).1
 refine Qe<|Q8 (news:=[oF oG q.p.a.st]) (L:=[]) (Qn O hI) U U U (m5.at oe) (by simp[Value.oneCell']) oa oa λv24 m6 hZ V z2=>?_;have m7:=(h9.I hI).J V S;have m8:O5 [G] w4 m6:=(hv.D hI).then V (λb E=>.inr (g6 b E).1);refine Zc rfl<|Qe<|QB (j:=0) (u:=v24) m7 U U oe (Qt hZ) λz3 g7 m9 =>
  xe ?_
 have pa:=Qf hZ g7 (λb E H=>by have:=(Qi hZ b E).1;simp at H;omega);refine Qv<|QP U U<|Qa<|xe<|⟨(k+1,v24),oh,La,hu,m8.Q g7,m9,?_⟩;simp only[];rw[g4,Ls];exact Qu.snoc (n:=q.p.a.st) pa
theorem Qbz (n:Nat):Kk (n+1)=Kk n++[(n:Int)]:=by unfold Kk;rw[ND,Ls];rfl
theorem Qav (n:Nat):(Kk n).length=n:=by unfold Kk;simp
theorem J4 {k:Nat}{l:List IV}(h:k<l.length):(l.drop k).map (·.it)=(l[k]'h).it::(l.drop (k+1)).map (·.it):=by rw[Zf h];rfl
theorem yT {s:List ByteArray}{x:YV}(h:ZW n u s x=0):ZA x.a:=by
 unfold ZW at h;split at h
 ·cases h
 split at h
 ·cases h
 split at h
 ·rename_i E G;exact OW h G
 rename_i E;exact(ZQ _).1 (Lo.1 E)
theorem KO {s:List ByteArray}{x:YV}{l:List YV}:Ys n al s u (x::l)=if ZW n al s x≠0 then(ZW n al s x,s,u)else Ys n al (s++[x.nm]) (mrg (· || ·) u x.a.al) l:=rfl
theorem X6 {s:List ByteArray}{x:YV}{l:List YV}:XQ n u s (x::l)=if ZW n u s x≠0 then ZW n u s x else XQ n u (s++[x.nm]) l:=rfl
theorem X7 {c:CL}(h:ZH L w.heap c):
  Q6 prog 43 [c.val] w λr w'=>r=oF oG (Zi c.V)/\O5 [] w w':=by
 have kc:=h.co.arr.le;have ke:=h.rq.arr.le;have E:Zi c.V=(if Kf c.ev≠0 then Kf c.ev else if c.co.length=0 then 12 else if 8<c.co.length\/12<c.co.length+c.rq.length then 3 else
  if(Ys c.ev.length (Kk c.ev.length) [] [] (c.co.map (·.it))).1≠0 then(Ys c.ev.length (Kk c.ev.length) [] [] (c.co.map (·.it))).1 else
  if XQ c.ev.length (Ys c.ev.length (Kk c.ev.length) [] [] (c.co.map (·.it))).2.2 (Ys c.ev.length (Kk c.ev.length) [] [] (c.co.map (·.it))).2.1 (c.rq.map (·.it))≠0 then XQ c.ev.length (Ys c.ev.length (Kk c.ev.length) [] [] (c.co.map (·.it))).2.2 (Ys c.ev.length (Kk c.ev.length) [] [] (c.co.map (·.it))).2.1 (c.rq.map (·.it))else
  YF (szs c.V.co) c.V.ex c.V.cs):=by
  unfold Zi;rw[show c.V.co.length=c.co.length from Lh ..,show c.V.rq.length=c.rq.length from Lh ..];rfl
 refine Zj (Zi c.V) λR hR=>?_;rw[hR]at E ⊢;refine Zj (Ys c.ev.length (Kk c.ev.length) [] [] (c.co.map (·.it))) λCO h6=>?_;rw[h6]at E;refine Zo func43 ?_;refine Qc<|Qe<|QV (us:=c.cells) U λb1 w1 h7 kf h8=>Qb<|Qd<|Qc<|Qs U h8 U U<|QN<|(yM (h.ev.I h7)).mono ?_;rintro r2 w2 ⟨rfl,h9⟩;refine Qb ?_;have Y:=h7.D h9;have hl:=h8.I h9;have h2:=h.I Y;refine Qm<|ZD U U<|xe<|QZ rfl (λhm=>?_) (λhm=>?_)
 ·rw[OU hm]at E;subst E;refine Qm<|Qb<|Qk ⟨[_],La,U,Y⟩
 rw[OT hm]at E;have kg:c.ev.length<=32:=by
  refine Lo.1 λhn=>?_;apply hm;unfold Kf;rw[OU oa];decide
 refine Qh<|Qd<|Qc<|Qs U hl U U<|QL h2.co.arr U<|Qb<|Qg<|Qm<|x (Q2 U U)<|Qb<|QZ U (λhu=>?_) (λhu=>?_)
 ·have hv:c.co.length=0:=by have hX:(c.co.length:Int)=0:=hu;omega
  rw[OU hv]at E;subst E;refine Qc<|Qb<|Qk ⟨[_],La,U,Y⟩
 have hv:¬c.co.length=0:=by have hX:¬(c.co.length:Int)=0:=hu;omega
 rw[OT hv]at E;refine Q3 (α:=Bool) [(27,37)] (λz=>[(27,.bool z)]) (λz w'=>w'=w2/\z=decide (8<c.co.length\/12<c.co.length+c.rq.length)) ol ?_ ?_
 ·refine Qv<|Qa<|xb (Z6 U U) (λhY=>?_) (λhY=>?_)
  ·refine Qa<|Qr<|Qr<|Qr<|Qr<|Qr<|Qr<|QJ U<|Qb<|⟨_,La,U,bT (.inl oa)⟩
  refine Qa<|Qa<|Qs U hl U U<|QL h2.rq.arr U<|x (XH U U ⟨oa,oa⟩) <|
   x (Z6 rfl U)<|QJ U<|Qb<|⟨_,La,U,bD oa⟩
 rintro z g w3 ⟨rfl,rfl⟩;refine QZ rfl (λhw=>?_) (λhw=>?_)
 ·rw[OU hw]at E;subst E;refine Qc<|Qb<|Qk ⟨[_],La,U,Y⟩
 rw[OT hw]at E;refine Qh<|Qc<|Qe<|YE JL λbm w4 hA kh hB=>Qb ?_;have ki:=hB.lt;have kj:=hl.lt;have hC:=Y.D hA;have hD:=hl.I hA;have hE:b1≠bm:=oa
 have hge:w.heap.size<=bm:=oa
 have hM:ZH [bm] w.heap c:=h.up (λb hb=>.inr (by simp at hb;omega));have hG:=hM.I hC;refine Qc<|x Ql<|Qb<|Qd<|Qc<|Qs U hD U U<|QL hG.ev.arr U<|Qa<|xe<|Qg<|QC (α:=Nat×O2) [(6,6),(8,8),(42,49)] (λz=>[(6,z.2),(42,oF oG z.1)]) (λz w'=>z.1<=c.ev.length/\O5 [] w4 w'/\Qu 3 w4.heap.size w' z.2 (Kk z.1)) (λz=>c.ev.length - z.1) ol (0,nS) oA
  ⟨Ln _,O5.Z _ _,QI _ _ _ _⟩ ?_
 rintro⟨k,vg⟩ g w5 ⟨hk,ha,ho⟩;simp only[]at hk ho;have kk:=Qav k;refine Qc<|QY U U<|xe<|Qd<|QH U (λhy=>?_) (λhy=>?_)
 ·refine Qz ?_;have hc:k=c.ev.length:=by have he:¬(k:Int)<(c.ev.length:Int):=hy;omega
  subst hc;have hZ:QR [bm] w5.heap vg (Kk c.ev.length):=Qu.ints ho oa (by simp;omega);have ga:=hB.I ha;have hH:=hD.I ha;have hI:=hG.I ha;have gb:=hC.D ha;refine Qd<|Qc<|Qs U hH U U<|QL hI.co.arr U<|Qa<|xe<|Qg<|QC (α:=Nat×O2×List ByteArray×LI) [(2,2),(7,7),(10,11),(53,72)] (λz=>[(7,z.2.1),(53,oF oG z.1)]) (λz w'=>z.1<=c.co.length/\O5 [bm] w5 w'/\Ym JL w'.heap bm (nmM z.2.2.1)/\QR [bm] w'.heap z.2.1 z.2.2.2/\z.2.2.2.length<=32*z.1/\Ys c.ev.length (Kk c.ev.length) z.2.2.1 z.2.2.2 ((c.co.drop z.1).map (·.it))=CO) (λz=>c.co.length - z.1) ol (0,nS,[],[]) oA
   ⟨Ln _,O5.Z _ _,ga,Zp.nil _ _ _,oe,h6⟩ ?_
  rintro⟨k,vu,sn,u⟩ g w6 ⟨hk,hf,hp,hz,gc,H⟩;simp only[]at hk hp hz gc H;have hJ:O5 [] w w6:=gb.O hf hge;have h0:=hH.J hf (oz hE);have S:=hI.st hf;refine Qc<|QY U U<|xe<|Qd<|QH U (λh1=>?_) (λh1=>?_)
  ·refine Qz ?_;have hc:k=c.co.length:=by have he:¬(k:Int)<(c.co.length:Int):=h1;omega
   subst hc;rw[Lr (Lx _)]at H;have gg:CO=(0,sn,u):=H.symm;subst gg;rw[OT oe]at E;simp only[]at E;refine Zj (XQ c.ev.length u sn (c.rq.map (·.it))) λRQ hK=>?_;rw[hK]at E;refine Qd<|Qc<|Qs U h0 U U<|QL S.rq.arr U<|Qa<|xe<|Qg<|QC (α:=Nat×List ByteArray) [(2,2),(13,14),(76,90)] (λz=>[(76,oF oG z.1)]) (λz w'=>z.1<=c.rq.length/\O5 [bm] w6 w'/\Ym JL w'.heap bm (nmM z.2)/\XQ c.ev.length u z.2 ((c.rq.drop z.1).map (·.it))=RQ) (λz=>c.rq.length - z.1) ol (0,sn) La
    ⟨Ln _,O5.Z _ _,hp,hK⟩ ?_
   rintro⟨k,sm⟩ g w7 ⟨hk,hg,hL,I⟩;simp only[]at hk hL I;have hN:O5 [] w w7:=hJ.O hg hge;have hO:=h0.J hg (oz hE);have hh:=S.st hg;have gh:=hz.st hg;refine Qc<|QY U U<|xe<|Qd<|QH U (λh3=>?_) (λh3=>?_)
   ·refine Qz ?_;have hc:c.rq.length<=k:=by have he:¬(k:Int)<(c.rq.length:Int):=h3;omega
    rw[Lr hc]at I;have gi:RQ=0:=I.symm;rw[OT (by rw[gi];decide)]at E;refine Qc<|Q9 hO U U<|QN<|(Qaj hh).mono ?_;rintro r8 w8 ⟨gj,vs,vx,vk,qx,ks,rfl,gk,gl,hF⟩;obtain⟨gm,gn,go⟩:=hF [] oe;refine QN<|(yL gm gn go).mono ?_;rintro r9 w9 ⟨rfl,gp⟩;rw[gk,gl,<-E];refine Qb<|Qk ⟨[_],La,U,(hN.D gj).D gp⟩
   have G:k<c.rq.length:=by have he:(k:Int)<(c.rq.length:Int):=h3;omega
   have O:=Ll G;rw[J4 G,X6]at I;refine Qh<|Qd<|Qg<|Qc<|O8 Yn hh.rq.arr U U G λkn hP=>?_;refine Zj (c.rq[k]'G) λq hq=>?_;rw[hq]at hP O I;have J:=hh.rq.each q O;refine x (Qw hP U U)<|Qe<|Qo (us:=[.string .empty,nS,oF oG 0,nS,nS]) U λb13 ko gq gr h4=>Qe<|Qj (us:=QM q) h4 U U U U ⟨U,J.al.one,U,J.mr.one,J.ed.one,Z⟩ λgs gt h4 =>
    xe ?_
   have T:O5 [] w7 gs:=gq.O gt gr;refine Qc<|Q9 h4 U U<|Qs U (hO.I T) U U<|QL (hh.ev.I T).arr U<|Qa<|Qa<|QN<|(Qe3 (J.I T) (hh.rq.nm q O) (gh.I T) oa (hL.I T) oe oe).mono ?_;rintro kq kr ⟨rfl,hQ,gu⟩;refine Qb<|Qm<|ZD U U<|xe<|QZ U (λhi=>?_) (λhi=>?_)
   ·rw[OU hi]at I;rw[OU (by rw[<-I];exact hi)]at E;refine Qm<|Qb<|Qk ⟨[_],La,by rw[E,<-I];rfl,(hN.D T).O hQ hge⟩
   rw[OT hi]at I;refine Qh<|Qv<|QP U U<|Qa<|xe ?_;exact⟨(k+1,sm++[q.nm]),oh,La,G,(hg.D T).Q hQ,gu (Lo.1 hi),I⟩
  have G:k<c.co.length:=by have he:(k:Int)<(c.co.length:Int):=h1;omega
  have O:=Ll G;rw[J4 G,KO]at H;refine Qh<|Qd<|Qg<|Qc<|O8 Yn S.co.arr U U G λkt hS=>?_;refine Zj (c.co[k]'G) λq hq=>?_;rw[hq]at hS O H;have J:=S.co.each q O;have gv:=hZ.st hf;refine x (Qw hS U U)<|Qe<|Qo (us:=[.string .empty,nS,oF oG 0,nS,nS]) U λku kv gw gx hs=>Qe<|Qj (us:=QM q) hs U U U U ⟨U,J.al.one,U,J.mr.one,J.ed.one,Z⟩ λgy gz hs =>
   xe ?_
  have V:O5 [] w6 gy:=gw.O gz gx;have kw:=hp.lt;refine Qd<|Qc<|Q9 hs U U<|Qs U (h0.I V) U U<|QL (S.ev.I V).arr U<|Qa<|Qa<|QN<|(Qe3 (J.I V) (S.co.nm q O) (gv.I V) oa (hp.I V) oe oe).mono ?_;rintro kx g0 ⟨rfl,h5,g2⟩;refine Qb<|Qm<|ZD U U<|xe<|QZ U (λhj=>?_) (λhj=>?_)
  ·rw[OU hj]at H;rw[OU (by rw[<-H];exact hj)]at E;refine Qm<|Qb<|Qk ⟨[_],La,by rw[E,<-H];rfl,(hJ.D V).O h5 hge⟩
  rw[OT hj]at H;have hT:ZW c.ev.length (Kk c.ev.length) sn q.it=0:=Lo.1 hj;have g3:=(yT hT).al_le;have kz:q.p.a.al.length<=32:=g3;refine Qh ?_;have ht:O5 [bm] w6 g0:=V.any.Q h5;have g4:=hz.st ht;have k0:=ht.size;refine Qv<|Qa<|Zc U<|Qs U (hs.J h5 (by simp;omega)) U U<|QN<|(QcZ g4 (S.st ht |>.co.each q O |>.al) oa).mono ?_;rintro g5 k4 ⟨hU,g6⟩;refine Qb ?_;have k5:=QaQ (· || ·) u q.p.a.al;refine Qv<|QP U U<|Qa<|xe ?_;exact⟨(k+1,g5,sn++[q.nm],mrg (· || ·) u q.p.a.al),oh,oA,G,(hf.Q ht).D hU,(g2 hT).I hU,Qu.ints g6 (by show(mrg _ _ _).length<=_;omega) (by simp;omega),oh,H⟩
 have G:k<c.ev.length:=by have he:(k:Int)<(c.ev.length:Int):=hy;omega
 refine Qh<|Qd<|Qg<|Qm<|Qb<|Qv<|Qa<|Qa<|Qe<|QA (us:=[[oF oG k]]) U U og oe ⟨rfl,rfl,Z⟩ λk6 k7 hV k8 g7=>?_;have hW:=ha.D hV;have k9:=hW.size;have g8:=Qi ho;refine Qe<|Q8 (news:=[oF oG k]) (L:=[]) (Qn ho hV) U U U (g7.at oe) (by simp[Value.oneCell']) oa oa λg9 ma ka kb mf =>
  Qb<|Qv<|QP U U<|Qa<|xe ?_
 refine⟨(k+1,g9),oh,oA,G,hW.then kb (λb hb=>.inr (g8 b hb).1),?_⟩;simp only[];rw[Qbz];exact Qu.snoc (n:=(k:Int)) ka
end Go.Lg
