/- Merged out of 58 texts. -/
import Derived.Test.YtnlnkchlcpfehaaGreatDoorNja
import Derived.RangeFuncNested
import Derived.RangeFuncLeaves
import Derived.RangeFuncCalls
import Derived.OrdersIn
import Derived.TacticsIn
import Derived.Laws.Strings
set_option maxHeartbeats 40000000
set_option maxRecDepth 100000
set_option linter.all false
open Go Go.Lg
open Go.Value renaming int->oG
open Go.IntKind renaming i64->oH
open _root_.List renaming mem_singleton->oJ,replicate->oK,not_mem_nil->oL,mem_cons->oM,length_append->oN,length_singleton->oP,getD->oQ,length->oR,range'->oS,range->oT,mem_append->oU,length_cons->oV,map_cons->oX,append_assoc->oY,getElem?_toArray->o0,length_map->o6,size_toArray->Oc,flatMap_cons->Od,getElem?_eq_getElem->Of,all_cons->Ok,append_nil->Ol,headD_cons->Om,cons_append->On,tail_cons->Oo,all_eq_true->Ow,singleton_append->Ox,mem_map->OB,mem_range'_1->OC,map_nil->OD,getElem?_set_ne->OE,range'_succ->OF,mem_filter->OL,take_zero->ON,take_append->OR,flatMap_nil->OS
open _root_.Bool renaming and_eq_true->oO,or_eq_false_iff->Og,not_eq_true'->OA,true_and->OU
open _root_.Array renaming replicate->oW
open _root_.Nat renaming add_mul->Ot,add_assoc->OT,zero_mul->OV,beq->OZ
open _root_.Int renaming toNat_natCast->Ov
open _root_.Option renaming map_some->Oz
open Go renaming World->O8,Value->O9,Operand->xd,Program->xh
open Go.Proofs Go.Proofs.Tryz
open Go.Proofs.Tryz renaming prog->sV
variable {w w' W':O8}{L L' ds ns av:LN}{n t i sz b T j N E g ty id cap b1 B kt lo hi b2 et M gp gf:Nat}{a:QU}{cs us news capt:LV}{α β:Type}{y:xd}{z va ve vm vt v' vl vs vx vk vu:O9}{l ul u al fb out rs:LI}{f:Fr}{P:xh}{fn:Func}{aa:List QU}{s:Int}{o:Oper}{d:xL}{af:xJ}{gd:xC}{K:xG}{D:xE}{k':IntKind}{at_:Array Nat}{ops:xK}
namespace Go.Lg
def gget:List ((Int×Int)×Int)->Int×Int->Option Int
 | [],_=>none
 | (k',v)::m,k=>if k'=k then some v else gget m k
def gput:List ((Int×Int)×Int)->Int×Int->Int->List ((Int×Int)×Int)
 | [],k,v=>[(k,v)]
 | (k',v')::m,k,v=>if k'=k then(k',v)::m else(k',v')::gput m k v
def QtQ (s:QU)(cls:LI)(x:Nat)(m:List ((Int×Int)×Int))(v:Int):List ((Int×Int)×Int):=gput m (xo cls x,v) (xo cls (to0 s x v).toNat)
def QtN (s:QU)(l:List UL)(cls:LI)(z:LI×List ((Int×Int)×Int))(x:Nat):LI×List ((Int×Int)×Int):=
 if xo cls x<0 then z else(if((lget l x).mk' && (lget l x).ps)=true then Qqg z.1 (xo cls x)else z.1,(lget l x).en.foldl (QtQ s cls x) z.2)
def Qsr (s:QU)(l:List UL)(cls:LI):LI×List ((Int×Int)×Int):=(oS 0 cls.length).foldl (QtN s l cls) ([],[])
def QtP (m:List ((Int×Int)×Int))(c:Nat)(v:Int):Option Ed:=(gget m ((c:Int),v)).map λt=>((c:Int),v,t)
def QtO (m:List ((Int×Int)×Int))(al:LI)(n:Nat):List Ed:=(oS 0 n).flatMap λc=>al.filterMap (QtP m c)
def QtR (s:QU)(l:List UL)(cls:LI):QU:=⟨s.al,QsF cls+1,(Qsr s l cls).1,QtO (Qsr s l cls).2 s.al (QsF cls+1).toNat⟩
def red (p s:QU):QU:=QtR s (ctls p s (opQ p s)) (Qs7 p s (opQ p s))
def xQ (p s:QU):Int:=if opE p s≠0 then opE p s else if opQ p s=[]then 0 else Jt (red p s)
theorem KW (h:i<l.length):xo l i∈l:=by rw[<-Zx h];exact Lm h
theorem Zd (a:α){Q:Prop}(h:∀b,a=b->Q):Q:=h a U
theorem exN {a:Int}(E:0<=a){Q:Prop}(h:∀u:Nat,a=u->Q):Q:=h a.toNat (Int.toNat_of_nonneg E).symm
theorem Qbm {H:xI}{O n1 I J:Nat}(T:QP H b1 3 (a.al.map (.int .i64)))(V:QP H b2 3 (a.mr.map (.int .i64)))(Y:QP H O 159 (a.ed.flatMap Qz))(g1:N<=b1)(g2:N<=b2)(g3:N<=O)
  (Z:a.al.length=n1) (l2:a.mr.length=I) (l3:a.ed.length=J) (m1:n1<=1000) (m2:I<=1000) (m3:J<=1000):
  Xi N H (.agg #[sL b1 n1 n1,sS a.st,sL b2 I I,sL O J J]) a:=by
 subst Z l2 l3;refine⟨_,_,_,U,λL S=>⟨?_,?_,?_⟩⟩
 .exact T.arr (λE=>ov (S _ E)) oe oa (Lu _)
 .exact V.arr (λE=>ov (S _ E)) oe oa (Lu _)
 exact Y.arr (λE=>ov (S _ E)) (by rw[YC _ 3 Ks]) oa (Lu _)
section
variable {pS:String}
class Ay (P:xh)(t:Nat)(m e sz:outParam Nat):Prop where
 u:P.underlying t=some (.array m e)
 i:(P.info? e).map (·.size)=some sz
theorem Yf {x:xd}{m e:Nat}[h:Ay P t m e sz]{o:Nat}{k:IntKind}(hx:ev f x=.pointer (some ⟨b,o,none⟩))(H:ev f y=.int k i)(I:i<m):
  sR P f w d (.indexAddr t x y) ty pS af gd (.pointer (some ⟨b,o+i*sz,none⟩)):=by
 unfold sR
 have hi:=h.i;cases E:P.info? e with
 | none=>simp[E]at hi
 | some ii =>
  simp[E]at hi;simp[execOp,hx,H,Instr.indexAt,asIntOf,run_underlying h.u,Instr.sureAddr,sizeOf,typeInfo,E,hi,KP];intro J;omega
theorem Qps {a:Nat}(E:a<256):inK .u8 ((a &&& b:Nat):Int):=by
 have:a &&& b<=a:=Nat.and_le_left;exact⟨oa,oa⟩
theorem yN {H:Nat}{x:xd}{a:Nat}(hx:ev f x=.int .u8 a)(I:ev f y=.int .u8 b)(E:a<256)(J:b<256):
  sR P f w d (.binOp .and t x y H) ty pS af gd (.int .u8 ((a &&& b:Nat):Int)):=by
 unfold sR
 refine Jk hx I ?_;simp only[binOp,Op.intBits,BitVec.ofInt_natCast,ne_eq,not_true_eq_false,if_false,Sem.run_pure];rw[BitVec.toNat_and,BitVec.toNat_ofNat,BitVec.toNat_ofNat,MO (show a<2 ^ IntKind.u8.bits from E),MO (show b<2 ^ IntKind.u8.bits from J),YM (Qps E)]
theorem Qby (m i:Nat):((m:Int) / 2 ^ i)=((m / 2 ^ i:Nat):Int):=by rw[Int.natCast_ediv,Int.natCast_pow];rfl
end
inductive Pt where
 | pl (l:xD)
 | fk (pre:xD) (i j:Nat) (t1 t2:Pt)
def Pt.len:Pt->Nat
 | .pl l=>l.length
 | .fk pre _ _ t1 _=>pre.length+(1+t1.len)
def K6 (all:Array Oper):xD->Array Bool->Bool
 | [],_=>true
 | (k,q)::pl,ls=>q && (Region.ready .any all ls).contains k && Region.free .any all ls k && K6 all pl (ls.setIfInBounds k true)
def Yv:xD->Array Bool->Array Bool
 | [],ls=>ls
 | (k,_)::pl,ls=>Yv pl (ls.setIfInBounds k true)
def XT (P:xh)(all:xK)(C:xH)(K:xG):Pt->Fr->O8->Prop
 | .pl l=>XP P all C K l
 | .fk pre i j t1 t2=>XP P all C (λf w=>(Z4 all f (Za all i)=true/\XO P (Za all i) f w λE w'=>C w'/\XT P all C K t1 E w') /\
   (Z4 all f (Za all j)=true/\XO P (Za all j) f w λE w'=>C w'/\XT P all C K t2 E w')) pre
section
variable {all:xK}{C:xH}{B:xG}
theorem XJ:∀(pl:xD) (ls:Array Bool),(Yv pl ls).size=ls.size
 | [],_=>rfl
 | (k,q)::pl,ls=>by rw[Yv,XJ];simp
theorem XB {m:Nat}(O:Region.noSelect all.toArray=true):∀(pl:xD) (ls:Array Bool) (f:Fr) (w:O8),C w->K6 all.toArray pl ls=true ->
  (∀f,B f w->XA P all C K m (Yv pl ls) f w)->XP P all C B pl f w->XA P all C K (pl.length+m) ls f w
 | [],ls,f,w,hC,S,H,h=>by
  simp only[XP]at h;rw[ND,LS];exact H f h
 | (I,q)::pl,ls,f,w,hC,S,H,h=>by
  simp only[K6,oO]at S;obtain⟨⟨⟨rfl,hr⟩,hf⟩,Y⟩:=S;simp only[XP]at h;have T:I∈Region.ready .any all.toArray ls:=by simpa using hr
  have e:(oR ((I,true)::pl))+m=(pl.length+m)+1:=by simp;omega
  rw[e];cases E:all[I]? with
  | none =>
   exfalso;obtain⟨_,o,hb,_⟩:=mem_ready.1 T;simp[E]at hb
  | some o =>
   rw[ZQ E]at h;have Z:∀(j:Nat) (o:Oper) cs b,all[j]?=some o->o.op≠.select cs b:=λj o cs b V=>Region.noSelect_spec O j o cs b (oA V);have ha:=λj oj V=>Region.free_spec (ops:=all.toArray) (md:=.any) (i:=I) (oi:=o) (listed:=ls) (oA E) hf j oj (oA V);cases J:Z4 all f o with
   | false =>
    rw[J]at h;exact K0 (v:=undef) (D:=λw=>jR o=true->C w) E (λ_ h=>h) Z _ ls f w (λ_=>hC) ha T (.inr ⟨J,U⟩) (XB O pl _ _ _ hC Y H h)
   | true =>
    rw[J]at h;simp only[cond_true]at h;obtain⟨v,hv,hx⟩:=h;exact K0 (v:=v) (D:=λw=>jR o=true->C w) E (λ_ h=>h) Z _ ls f w (λ_=>hC) ha T (.inl ⟨J,hv⟩) (XB O pl _ _ _ hC Y H hx)
end
theorem Yp.lt_of {a:Int}(h:Yp (a::l)){x:Int}(hx:x∈l):a<x:=(L6.1 h).1 x hx
theorem Yp.tail {a:Int}(h:Yp (a::l)):Yp l:=(L6.1 h).2
theorem QnV (keep:Bool->Bool->Bool):∀(n:Nat) (a b:LI),a.length+b.length<=n->Yp a->Yp b->∀x,x∈mrg keep a b↔(x∈a\/x∈b)/\keep (decide (x∈a)) (decide (x∈b))=true:=by
 intro n;induction n with
 | zero =>
  intro a b h _ _ x;have O:a=[]:=LA oa;have S:b=[]:=LA oa;subst O S;simp[Va]
 | succ n ih =>
  intro a b H ia ib x;cases a with
  | nil =>
   cases b with
   | nil=>simp[Va]
   | cons y b =>
    rw[KO keep oe];have:=ih [] b (by simp at H ⊢;omega) ia ib.tail x;have E:y∉b:=λh=>ov (ib.lt_of h)
    simp only[JF,tl,hx,cond_true,cond_false,Oo,Om,oU];rw[this];by_cases e:x=y
    .subst e;cases hk:keep false true <;> simp[hk,E]
    cases keep false true <;> simp[e]
  | cons u a =>
   cases b with
   | nil =>
    rw[KO keep oe];have:=ih a [] (by simp at H ⊢;omega) ia.tail ib x;have E:u∉a:=λh=>ov (ia.lt_of h)
    simp only[JF,tl,hx,cond_true,cond_false,Oo,Om,oU];rw[this];by_cases e:x=u
    .subst e;cases hk:keep true false <;> simp[hk,E]
    cases keep true false <;> simp[e]
   | cons y b =>
    rw[KO keep oe];have hu:u∉a:=λh=>ov (ia.lt_of h)
    have E:y∉b:=λh=>ov (ib.lt_of h)
    rcases Int.lt_trichotomy u y with I|I|I
    .have J:u∉y::b:=λh=>by
      rcases Lk.1 h with h|h
      .omega
      have:=ib.lt_of h;omega
     have:=ih a (y::b) (by simp at H ⊢;omega) ia.tail ib x;have e1:decide (u<=y)=true:=O4 oa;have e2:decide (y<=u)=false:=O6 oa;simp only[JF,tl,hx,e1,e2,cond_true,cond_false,Oo,Om,oU];rw[this];by_cases e:x=u
     .subst e;cases hk:keep true false <;> simp[hk,hu,J]
     cases keep true false <;> simp[e]
    .subst I;have:=ih a b (by simp at H ⊢;omega) ia.tail ib.tail x;have e1:decide (u<=u)=true:=O4 oa;simp only[JF,tl,hx,e1,cond_true,Oo,Om,oU];rw[this];by_cases e:x=u
     .subst e;cases hk:keep true true <;> simp[hk,hu,E]
     cases keep true true <;> simp[e]
    have J:y∉u::a:=λh=>by
     rcases Lk.1 h with h|h
     .omega
     have:=ia.lt_of h;omega
    have:=ih (u::a) b (by simp at H ⊢;omega) ia ib.tail x;have e1:decide (u<=y)=false:=O6 oa;have e2:decide (y<=u)=true:=O4 oa;simp only[JF,tl,hx,e1,e2,cond_true,cond_false,Oo,Om,oU];rw[this];by_cases e:x=y
    .subst e;cases hk:keep false true <;> simp[hk,E,J]
    cases keep false true <;> simp[e]
theorem ye {keep:Bool->Bool->Bool}{a b:LI}(ia:Yp a)(ib:Yp b)(x:Int):x∈mrg keep a b↔(x∈a\/x∈b)/\keep (decide (x∈a)) (decide (x∈b))=true :=
 QnV keep _ a b (Lu _) ia ib x
def setK (m k:Nat):LI:=((oS 0 k).filter λi=>decide (((m / 2 ^ i) &&& 1)=1)).map λi:Nat=>(i:Int)
theorem qD (m k:Nat):setK m (k+1)=if(m / 2 ^ k) &&& 1=1 then setK m k++[(k:Int)]else setK m k:=by
 unfold setK;rw[MI,Mc,Ls,LS];by_cases h:(m / 2 ^ k) &&& 1=1
 .rw[O1 h,Mg,O1 (O4 h)];rfl
 rw[O0 h,Mg,O0 (by rw[O6 h];simp),Nv,M7,LT]
theorem XH (m:Nat):∀k,(setK m k).length<=k
 | 0=>by simp[setK]
 | k+1=>by
  have:=XH m k;rw[qD];split
  .simp;omega
  omega
theorem Qc5 (m k:Nat):Yp (setK m k):=by
 unfold setK Yp;rw[MC];refine List.Pairwise.sublist Na ?_;exact(Nt (s:=0) (n:=k)).imp (λh=>oa)
instance ayCx1:Ay sV 102 4 5 1:=⟨od,od⟩
section
variable {pS:String}
theorem zK {e bys:Nat}[h:Sl P t e sz bys z]{base:Nat}{v:O9}(E:w.ownsRow base e sz v n cs):
  (Builtin.append_ #[t,t] ty #[v,nS]).run P w=.ok v w:=by
 obtain⟨i,hi,_,I,_⟩:=Sl.info h;rcases E.2 with⟨rfl,rfl⟩|⟨g,cap,cur,rfl,J,O,H,S,T,V⟩
 .simp[Builtin.append_,run_underlying h.u,sizeOf,typeInfo,hi,Builtin.lenOf,Builtin.firstCells]
 simp[Builtin.append_,run_underlying h.u,sizeOf,typeInfo,hi,Builtin.lenOf,Builtin.firstCells,H,storeCells]
theorem QbQ {e bys:Nat}[h:Sl P t e sz bys z]{s:xd}{base:Nat}{v:O9}(E:w.ownsRow base e sz v n cs)(I:ev f s=v)
  {v2:O9} {m:Nat}   (hA:Zk L ↑w v2 m sz news) (J:ev f y=v2) (O:∀u∈news,u.oneCell'=true)
  (H:n+m<=1099511627776) (S:base<=↑w)
  (hK:∀v' w',w'.ownsRow base e sz v' (n+m) (cs++news)->xj (ob v) w w'->(∀b∈ob v',b∈ob v\/↑w<=b)->K (QT f d v') w') (T:bys<=128:=by decide):
  XO P ⟨d,.call ⟨.builtin .append,#[s,y],#[t,t]⟩,ty,pS,af,gd⟩ f w K:=by
 rcases hA.2.2 with⟨e1,e2⟩|⟨a,c,e1,_,e3⟩
 .subst e2;have V:news=[]:=LA (by have:=hA.1;simpa using this);subst V;have Y:sR P f w d (.call ⟨.builtin .append,#[s,y],#[t,t]⟩) ty pS af gd v:=by
   simp[sR,execOp,resolve,invoke,builtin,I,J,e1,zK (ty:=ty) E]
  exact xv Y (hK v w (oA E) (xj.Y _ _) (λb H=>.inl H))
 exact Q9 E I (J.I e1) hA.1 e3 O H S hK T
end
theorem QgW {v:O9}(h:QG L ↑w v l)(x:Int):
  QZ sV 211 [v,sS x] w λr w'=>r=.bool (decide (x∈l))/\w'=w:=by
 have T:=h.le;refine Zt func211 ?_;refine Qc<|Lg.Qb<|Qd<|Qc<|Lg.Qb<|Q2 (α:=Nat) [(4,17)] (λk=>[(5,sS k)]) (λk w'=>w'=w/\k<=l.length/\(x∈l↔x∈l.drop k)) (λk=>l.length - k) 0 Lb ⟨U,Lp _,oe⟩ ?_;rintro k g w' ⟨rfl,hk,H⟩;refine Qd<|Qc<|Lg.Qa<|Lg.Qa<|Lg.x (Xr h U)<|Lg.Ye U U<|xe<|ZI rfl (λO=>?_) (λO=>?_)
 .refine Qt<|Qc<|Lg.Qb<|Qi ⟨[.bool false],Lb,?_,U⟩;rw[Lx oa]at H;simp[tup,H]
 have J:k<l.length:=oa
 have hd:=Zz J;refine Qe<|Qd<|Qn<|Qc<|Lg.Qa<|Lg.Qa<|xii h U U J λV S=>Lg.x (Qy S U)<|Lg.Qa<|Lg.x (QW U U)<|xe<|QY rfl (λI=>?_) (λI=>?_)
 .refine Qc<|Lg.Qb<|Qi ⟨[.bool true],Lb,?_,U⟩;have:x∈l:=by rw[H,hd,I];exact Lr
  simp[tup,this]
 refine Qe<|Qq<|Lg.Qa<|Lg.QH U U<|Lg.Qb<|⟨k+1,oa,Lb,U,oa,?_⟩;rw[H,hd,Lk];exact⟨λh=>h.resolve_left (λe=>I e.symm),.inr⟩
theorem QcV (h:zW L ↑w ve a.ed)(s e:Int)(st:Int):
  QZ sV 212 [.agg #[va,sS st,vm,ve],sS s,sS e] w λr w'=>r=sS (xw a.ed s e)/\sW w w':=by
 have he:=h.le;refine Zt func212 ?_;refine Qc<|Zg [va,sS st,vm,ve] λb3 V O hg H=>Lg.Qb ?_
 replace h:=h.J O;refine Qd<|Qc<|Lg.Qb<|Q2 (α:=Nat) [(6,38)] (λk=>[(7,sS k)]) (λk w'=>w'=V/\k<=a.ed.length/\xw (a.ed.drop k) s e=xw a.ed s e) (λk=>a.ed.length - k) 0 Lb ⟨U,Lp _,U⟩ ?_;rintro k g Y ⟨rfl,hk,I⟩;refine Qd<|Qc<|Lg.Qa<|Lg.QN U<|Lg.x (Qk H U U)<|Lg.x (Xr h U)<|Lg.Ye U U<|xe<|ZI rfl (λZ=>?_) (λZ=>?_)
 .refine Qt<|Qc<|Lg.Qb<|Qi ⟨[sS (-1)],Lb,?_,O⟩;rw[Lx oa]at I;rw[<-I];rfl
 have J:k<a.ed.length:=oa
 have hd:=Zz J;refine Qe<|Qd<|Qn<|QX (α:=Bool) [(15,32)] (λz=>[(32,.bool z)]) (λz w'=>w'=Y/\z=decide (a.ed[k].1=s/\a.ed[k].2.1=e)) om ?_ ?_
 .refine Qq<|Lg.QN U<|Lg.x (Qk H U U)<|Lg.Qa<|xie h U U J λhh ha=>Lg.x (Zp U)<|Lg.x (Qy (ha.fld 0 _ U) U) <|
   Lg.Qa<|xb (QW U U) (λS=>?_) (λS=>?_)
  .refine Lg.Qa<|Lg.QN U<|Lg.x (Qk H U U)<|Lg.Qa<|xie h U U J λhi hb=>Lg.x (Zp U)<|Lg.x (Qy (hb.fld 1 _ U) U) <|
    Lg.Qa<|Lg.x (QW U U)<|Lg.QB U<|xe ?_
   exact⟨_,Lb,U,by simp[S]⟩
  refine Lg.Qa<|Zm<|Zm<|Z6<|Lg.QB U<|xe ?_;exact⟨_,Lb,U,by simp[S]⟩
 rintro z g w3 ⟨rfl,rfl⟩;refine QY rfl (λT=>?_) (λT=>?_)
 .refine Qc<|Lg.QN U<|Lg.x (Qk H U U)<|Lg.Qa<|xie h U U J λhj hc=>Lg.x (Zp U)<|Lg.x (Qy (hc.fld 2 _ U) U) <|
   Lg.Qb<|Qi ⟨[sS a.ed[k].2.2],Lb,?_,O⟩
  rw[<-I,hd,xw,O1 T];rfl
 refine Qe<|Qq<|Lg.Qa<|Lg.QH U U<|Lg.Qb<|⟨k+1,oa,Lb,U,oa,?_⟩;rw[<-I,hd,xw,O0 T]
def jb (l:LI)(n:Int):Int:=if n∈l then(l.idxOf n:Int)else -1
theorem QkU {n:Int}{k:Nat}(h:n∉l.take k)(hk:k<l.length)(H:xo l k=n):jb l n=k:=by
 have I:n∈l:=by rw[<-H,<-Zx hk];exact Lm hk
 unfold jb;rw[O1 I];have J:l=l.take k++l.drop k:=(MT k l).symm;have:l.idxOf n=k:=by
  rw[J,MJ,O0 h,LH hk,List.idxOf_cons,show l[k]=n by rw[Zx hk];exact H];simp;omega
 rw[this]
theorem Qin {v:O9}(h:QG L ↑w v l)(n:Int):
  QZ sV 213 [v,sS n] w λr w'=>r=sS (jb l n)/\w'=w:=by
 have T:=h.le;refine Zt func213 ?_;refine Qc<|Qb<|Qd<|Qc<|Qb<|Q2 (α:=Nat) [(4,18)] (λz=>[(5,sS z)]) (λz w'=>w'=w/\z<=l.length/\n∉l.take z) (λz=>l.length - z) 0 Lb ⟨U,Lp _,oe⟩ ?_;rintro k g V ⟨rfl,hk,I⟩;refine Qd<|Qj<|Qa<|QE h U<|Ye U U<|xe<|ZI rfl (λO=>?_) (λO=>?_)
 .refine Qt<|Qc<|Qb ?_;rw[Lt oa]at I;exact Qi ⟨[sS (-1)],Lb,by unfold jb;rw[O0 I];rfl,U⟩
 have H:k<l.length:=oa
 refine Qe<|Qd<|Qn<|Qj<|Qa<|xic (i:=k) h U U H λY S=>x (Qy S U)<|Qa<|x (QW U U)<|xe<|QY rfl (λJ=>?_) (λJ=>?_)
 .refine Qj<|Qb<|Qi ⟨[sS k],Lb,by rw[QkU I H J];rfl,U⟩
 refine Qe<|Qq<|Qa<|QH U U<|Qb<|⟨k+1,oa,Lb,U,H,?_⟩;rw[Lo H,Zx H];simp only[oU,oJ,not_or];exact⟨I,λe=>J e.symm⟩
theorem qZ {v:O9}(h:QG L ↑w v l)(hl:l.length<=1000000):
  QZ sV 124 [v] w λr w'=>sW w w'/\∃va,r=.agg #[va,sS 0,nS,nS]/\Qp 3 ↑w w' va l:=by
 refine Zt func124 ?_;refine Qc<|QL [nS,sS 0,nS,nS] λb2 H V he Y=>xe ?_;have hg:=V.size;have hh:=Y.lt;refine Qc<|Qo<|QbP λb3 w2 I hi hj=>Qa<|?_;have Z:=V.I I;have hr:=I.size;have J:w2.ownsRow ↑H 3 1 (sL b3 0 0) 0 []:=hj.own (n:=0) (sz:=1) U oa hi;refine Qo<|QbQ J U (h.J Z) U (UW l) oa oa λva O hm ha hs=>?_;have S:Qp 3 ↑H O va l:=by
  have:O.ownsRow ↑H 3 1 va (0+l.length) ([]++l.map (.int .i64)):=hm;rw[LS,Md]at this;exact this
 have hA:=Qp.ints (L:=[]) S oa oe;have hn:=(Y.J I).O ha (QR J hh);have ho:sW w O:=Z.G ha (λb T=>.inr (ov (Qg J b T).1));refine x (Qv ⟨hA.cells,La⟩)<|QJ [va,sS 0,nS,nS] hn ⟨hA.one,U,U,U,La⟩ λw4 hc hp=>xe ?_;have hq:=Qf S hc (λb T=>by have:=(Qg S b T).1;simp;omega);exact Qi ⟨[.agg #[va,sS 0,nS,nS]],⟨YO hp,La⟩,ho.Q hc he,va,U,Zv hq hg⟩
theorem xO:∀(n:Nat) (l:LI),l.Nodup->(∀x∈l,0<=x/\x<n)->l.length<=n
 | 0,l,_,h=>by
  cases l with
  | nil=>simp
  | cons a l=>have:=h a Lr;omega
 | n+1,l,hd,h=>by
  by_cases H:(n:Int)∈l
  .have J:=xO n (l.erase (n:Int)) (hd.erase _) (λx hx=>by
    have I:=(List.Nodup.mem_erase_iff hd).1 hx;have O:=h x I.2;have S:x≠(n:Int):=I.1;omega)
   rw[List.length_erase_of_mem H]at J;omega
  have:=xO n l hd (λx hx=>by
   have O:=h x hx;have S:x≠(n:Int):=λe=>H (by rw[<-e];exact hx);omega)
  omega
def UJ (a:QU)(s:Int)(out:LI)(v:Int):LI:=if 0<=xw a.ed s v/\xw a.ed s v∉out then out++[xw a.ed s v]else out
def fdR (a:QU)(out:LI)(s:Int):LI:=a.al.foldl (UJ a s) out
def fdL (a:QU):Nat->Nat->LI->LI
 | 0,_,out=>out
 | f+1,i,out=>if i<out.length then fdL a f (i+1) (fdR a out (xo out i))else out
def fd0 (a:QU):LI:=if 0<a.st then[0]else[]
def xA (a:QU):LI:=fdL a a.st.toNat 0 (fd0 a)
structure zU (a:QU)(out:LI):Prop where
 b:∀x∈out,0<=x/\x<a.st
 d:out.Nodup
theorem zU.len (h:zU a out)(H:0<=a.st):out.length<=a.st.toNat:=xO _ _ h.d (λx hx=>ov (h.b x hx))
theorem QbR {es:List Ed}{v:Int}(h:0<=xw es s v):(s,v,xw es s v)∈es:=by
 induction es with
 | nil=>simp[xw]at h
 | cons e es ih =>
  rw[xw]at h ⊢;split at h
  .rename_i H;rw[O1 H];obtain⟨p,q,r⟩:=e;obtain⟨I,J⟩:=H;subst I J;exact Lr
  rename_i H;rw[O0 H];exact Ll _ (ih h)
theorem Qlj (J:Zo a)(h:zU a out)(s v:Int):zU a (UJ a s out v):=by
 unfold UJ;split
 .rename_i H;have O:=J.ed _ (QbR H.1);refine⟨λx hx=>?_,?_⟩
  .rcases Lh.1 hx with hx|hx
   .exact h.b x hx
   simp only[oJ]at hx;subst hx;exact⟨H.1,O.2.2.2.2⟩
  rw[Mi];refine⟨h.d,oe,λx hx y I=>?_⟩;simp only[oJ]at I;subst I;exact λe=>H.2 (by rw[<-e];exact hx)
 exact h
theorem QoC {v:Int}:∀x∈out,x∈UJ a s out v:=λx hx=>by unfold UJ;split;exact L7 _ hx;exact hx
theorem Qri {v:Int}(h:0<=xw a.ed s v):xw a.ed s v∈UJ a s out v:=by
 unfold UJ;by_cases H:xw a.ed s v∈out
 .rw[O0 (λe=>e.2 H)];exact H
 rw[O1 ⟨h,H⟩];simp
theorem Qlh {a:QU}(H:Zo a)(s:Int):∀(vs:LI) (out:LI),zU a out->zU a (vs.foldl (UJ a s) out)
 | [],_,h=>h
 | v::vs,_,h=>Qlh H s vs _ (Qlj H h s v)
theorem Qcg {a:QU}{s:Int}:∀(vs:LI) (out:LI),∀x∈out,x∈vs.foldl (UJ a s) out
 | [],_,_,hx=>hx
 | _::vs,_,x,hx=>Qcg vs _ x (QoC x hx)
theorem Qli {a:QU}{s:Int}:∀(vs:LI) (out:LI),∀v∈vs,0<=xw a.ed s v->xw a.ed s v∈vs.foldl (UJ a s) out
 | v::vs,out,u,hu,h=>by
  rcases Lk.1 hu with rfl|hu
  .exact Qcg vs _ _ (Qri h)
  exact Qli vs _ u hu h
theorem Qg1 {a:QU}{s:Int}:∀(vs:LI) (out:LI),∃r,vs.foldl (UJ a s) out=out++r
 | [],out=>⟨[],oe⟩
 | v::vs,out=>by
  obtain⟨r,H⟩:=Qg1 (a:=a) (s:=s) vs (UJ a s out v);rw[LZ,H];unfold UJ;split
  .exact⟨[xw a.ed s v]++r,oe⟩
  exact⟨r,U⟩
theorem jx {r:LI}(h:i<l.length):xo (l++r) i=xo l i:=by
 rw[<-Zx h,<-Zx (by simp;omega),Ml h]
def Cl (a:QU)(out:LI)(i:Nat):Prop:=∀j,j<i->j<out.length->∀v∈a.al,0<=xw a.ed (xo out j) v->xw a.ed (xo out j) v∈out
theorem Cl.next (h:Cl a out i)(hi:i<out.length):Cl a (fdR a out (xo out i)) (i+1):=by
 intro j T V v I H;obtain⟨r,S⟩:=Qg1 (a:=a) (s:=xo out i) a.al out;have J:fdR a out (xo out i)=out++r:=S;have O:j<out.length:=oa
 rw[J,jx O]at H ⊢;by_cases e:j=i
 .subst e;have:=Qli a.al out v I H;rw[<-J];exact this
 exact L7 _ (h j oa O v I H)
theorem Qlg {a:QU}(I:Zo a):∀(f i:Nat) (out:LI),zU a out->Cl a out i->i+f=a.st.toNat->zU a (fdL a f i out)/\Cl a (fdL a f i out) (fdL a f i out).length
 | 0,i,out,h,H,hf=>by
  have:=h.len I.st0;exact⟨h,λj O J=>H j (by rw[fdL]at O;omega) J⟩
 | f+1,i,out,h,H,hf=>by
  rw[fdL];split
  .rename_i hi;exact Qlg I f (i+1) _ (Qlh I _ _ _ h) (H.next hi) oa
  rename_i hi;exact⟨h,λj O J=>H j oa J⟩
theorem Qlk (a:QU):zU a (fd0 a):=by
 unfold fd0;split
 .rename_i h;exact⟨λx hx=>by simp only[oJ]at hx;subst hx;exact⟨oa,h⟩,oe⟩
 exact⟨oe,oe⟩
theorem ji (J:Zo a):zU a (xA a)/\∀s∈xA a,∀v∈a.al,0<=xw a.ed s v->xw a.ed s v∈xA a:=by
 obtain⟨O,S⟩:=Qlg J a.st.toNat 0 (fd0 a) (Qlk a) (λj H=>oa) oa;refine⟨O,λs T v V I=>?_⟩;obtain⟨j,H,rfl⟩:=LM T;have:=S j H H v V;unfold xA at H I ⊢;rw[Zx H]at I ⊢;exact this I
def Vi (a:QU)(fd:LI)(i:Nat)(v:Int):Option Ed:=if 0<=xw a.ed (xo fd i) v then some ((i:Int),v,jb fd (xw a.ed (xo fd i) v))else none
def Xc (a:QU)(fd:LI)(n:Nat):LI:=((oS 0 n).filter λi=>decide (xo fd i∈a.mr)).map λi:Nat=>(i:Int)
def Xt (a:QU)(fd:LI)(n:Nat):List Ed:=(oS 0 n).flatMap λi=>a.al.filterMap (Vi a fd i)
def Xg (a:QU):QU:=⟨a.al,(xA a).length,Xc a (xA a) (xA a).length,Xt a (xA a) (xA a).length⟩
theorem JB {β:Type}{r:Int->Int->Prop}{q:β->β->Prop}{g:Int->Option β}(H:∀x y u v,r x y->g x=some u->g y=some v->q u v):∀{l:LI},l.Pairwise r->(l.filterMap g).Pairwise q
 | [],_=>oe
 | x::l,h=>by
  obtain⟨J,I⟩:=L6.1 h;rw[Mz];split
  .exact JB H I
  rename_i u hu;refine L6.2 ⟨λv O=>?_,JB H I⟩;obtain⟨y,S,T⟩:=M6.1 O;exact H x y u v (J y S) hu T
theorem Qcv (H:Zo a):Zo (Xg a)/\(Xg a).al=a.al/\(Xg a).st<=a.st:=by
 obtain⟨V,Y⟩:=ji H;have hl:=V.len H.st0;have h0:=H.st0;have h4:=H.st1;refine⟨⟨H.al,H.ali,by simp[Xg],by simp only[Xg];omega,λs O=>?_,?_,λe J=>?_,?_⟩,U,by simp only[Xg];omega⟩
 .simp only[Xg,Xc,OB,OL,OC]at O;obtain⟨i,⟨hi,_⟩,rfl⟩:=O;simp only[Xg];omega
 .simp only[Xg,Xc];unfold Yp;rw[MC];refine List.Pairwise.sublist Na ?_;exact(Nt (s:=0) (n:=(xA a).length)).imp (λh=>oa)
 .simp only[Xg,Xt,List.mem_flatMap,List.mem_filterMap,OC]at J;obtain⟨i,⟨_,hi⟩,v,I,hf⟩:=J;unfold Vi at hf;split at hf
  .rename_i Z;cases hf
   have S:i<(xA a).length:=oa
   have T:=Y (xo (xA a) i) (by rw[<-Zx S];exact Lm S) v I Z;have hx:=MR T;simp only[Xg];unfold jb;rw[O1 T];exact⟨oa,oa,I,oa,oa⟩
  cases hf
 simp only[Xg,Xt];have key:∀(is:LN),is.Pairwise (·<·)->(is.flatMap λi=>a.al.filterMap (Vi a (xA a) i)).Pairwise λx y:Ed=>x.1<y.1\/(x.1=y.1/\x.2.1<y.2.1):=by
  intro is;induction is with
  | nil=>intro _;simp
  | cons i is ih =>
   intro hp;obtain⟨p1,p2⟩:=L6.1 hp;rw[LQ,Mj];have from_i:∀(i:Nat) (e:Ed),e∈a.al.filterMap (Vi a (xA a) i)->e.1=i:=by
    intro i e J;obtain⟨v,_,hf⟩:=M6.1 J;unfold Vi at hf;split at hf
    .cases hf;rfl
    cases hf
   refine⟨?_,ih p2,λe J e' ha=>?_⟩
   .refine JB (r:=(·<·)) (λx y u v hb hu I=>?_) H.ali;unfold Vi at hu I;split at hu
    .cases hu;split at I
     .cases I;exact .inr ⟨U,hb⟩
     cases I
    cases hu
   obtain⟨j,hj,hc⟩:=Mr.1 ha;have e1:=from_i i e J;have e2:=from_i j e' hc;have:=p1 j hj;left;omega
 exact key _ (Nt (s:=0) (n:=(xA a).length))
theorem Qip (h:ZE L ↑w va vm ve a)(ho:Zo a):
  QZ sV 210 [.agg #[va,sS a.st,vm,ve]] w λr w'=>sW w w'/\Qp 3 ↑w w' r (xA a):=by
 have h0:=ho.st0;have h1:=ho.st1;have hV:=ho.al_le;refine Zt func210 ?_;refine Qc<|Zg [va,sS a.st,vm,ve] λb1 S hj hW hv=>Qb<|Qc<|Qb ?_;have hA:=hj.size;refine QX (α:=O9) [(3,3),(7,12)] (λz=>[(3,z)]) (λz w'=>sW S w'/\Qp 3 ↑S w' z (fd0 a)) om ?_ ?_
 .refine Qc<|Qm U hv U U<|x (ZX U U)<|xe<|ZI U (λh9=>?_) (λh9=>?_)
  .refine Qe ?_;exact⟨nS,Lb,xj.Y _ _,by unfold fd0;rw[O0 h9];exact QI _ _ _ _⟩
  refine Qq<|Qa<|Qo<|Zb [[sS 0]] λhX w2 hw hY hB=>?_;have hn:w2.ownsRow ↑S 3 1 (nS) 0 []:=QI _ _ _ _;have hZ:=hw.size;refine Qo<|Q9 (news:=[sS 0]) (L:=[]) hn U U U (hB.at oe) oq oa oa λv3 w3 hC hD ga =>
   Qb<|⟨v3,Lb,hw.G hD (λb hb=>by simp[ob]at hb),?_⟩
  unfold fd0;rw[O1 h9];exact hC
 rintro v0 g4 w4 ⟨hE,hF⟩;refine Zd (xA a) λT hT=>?_;have hG:fdL a a.st.toNat 0 (fd0 a)=T:=hT;refine Qd<|Qc<|Qb<|Q2 (α:=Nat×LI×O9) [(3,6),(13,48)] (λz=>[(3,z.2.2),(4,sS z.1)])
  (λz w'=>sW S w'/\Qp 3 ↑S w' z.2.2 z.2.1/\zU a z.2.1/\z.1<=z.2.1.length/\fdL a (a.st.toNat - z.1) z.1 z.2.1=T) (λz=>a.st.toNat - z.1) (0,fd0 a,v0) oB
  ⟨hE,hF,Qlk a,Lp _,hG⟩ ?_
 rintro⟨i,out,v⟩ g5 w5 ⟨hl,Y,H,hi,Z⟩;simp only[]at Y H hi Z;have hy:=H.len h0;have hz:=Qp.ints (L:=[]) Y oa oe;refine Qd<|Qj<|Qa<|QE hz U<|Ye U U<|xe<|ZI rfl (λh2=>?_) (λh2=>?_)
 .have e:out=T:=by
   rw[<-Z];generalize a.st.toNat - i=f;cases f with
   | zero=>rfl
   | succ f=>rw[fdL,O0 oa]
  refine Qt<|Qj<|Qb ?_;rw[e]at Y;exact Qi ⟨[v],Lb,hj.I hl,by rw[hT];exact Zv Y hA⟩
 have J:i<out.length:=oa
 have hH:a.st.toNat - i=(a.st.toNat - (i+1))+1:=oa
 rw[hH,fdL,O1 J]at Z;refine Zd (xo out i) λs O=>?_;rw[O]at Z;refine Zd (fdR a out s) λR hR=>?_;rw[hR]at Z;unfold fdR at hR;refine Qe<|Qd<|Qn<|Qc<|Qb<|Q2 (α:=Nat×LI×O9) [(3,3),(5,6),(19,48)] (λz=>[(3,z.2.2),(5,sS z.1)])
  (λz w'=>sW S w'/\Qp 3 ↑S w' z.2.2 z.2.1/\zU a z.2.1/\z.1<=a.al.length/\i<z.2.1.length/\xo z.2.1 i=s/\(a.al.drop z.1).foldl (UJ a s) z.2.1=R) (λz=>a.al.length - z.1) (0,out,v) oB
  ⟨hl,Y,H,Lp _,J,O,hR⟩ ?_
 clear hl Y H hi hy hz J O hR h2;rintro⟨k,out,v⟩ g6 w6 ⟨ha,he,H,hk,J,O,I⟩;simp only[]at he H hk J O I;have hy:=H.len h0;have h3:=(h.al.J hj).J ha;have hm:=hv.J ha;have h4:=Qp.ints (L:=[]) he oa oe;refine Qd<|Qj<|Qm U hm U U<|QE h3 U<|Ye U U<|xe<|ZI rfl (λhI=>?_) (λhI=>?_)
 .refine Qt<|Qq<|Qa<|QH U U<|Qb ?_;rw[Lx oa]at I;have hJ:out=R:=I;exact⟨(i+1,out,v),og,oB,ha,he,H,J,by simp only[];rw[hJ];exact Z⟩
 have hg:k<a.al.length:=oa
 rw[LH hg,LZ,Zx hg]at I;refine Zd (xo a.al k) λu hu=>?_;rw[hu]at I;have hK:=(h.ed.J hj).J ha;refine Zd (xw a.ed s u) λt ht=>?_;have hL:UJ a s out u=if 0<=t/\t∉out then out++[t]else out:=by unfold UJ;rw[ht]
 have hp:=Qlj ho H s u;rw[hL]at I hp;refine Qe<|Qd<|Qn<|Qd<|ZH [] (Xf 0 12 [10])<|pq (λ_ V=>ZN (hm.J V) U U)<|p QA<|p QA<|pic (i:=i) U h4 U U J λgb h5=>?_;rw[O]at h5;refine pq (λ_ V=>Qy (h5.J V) U)<|p (QF U)<|pq (λ_ V=>Qk (hm.J V) U U)<|p QA <|
  pic (i:=k) U h3 U U hg λgc h6=>?_
 rw[hu]at h6;have hsr:=QcV (va:=va) (vm:=vm) (a:=a) (hK.J (xj.X [] w6)) s u a.st;rw[ht]at hsr;refine pq (λ_ V=>Qy (h6.J V) U)<|pk<|xg<|hsr.S ?_;rintro r7 w7 ⟨rfl,hM⟩;have hh:=(xj.X [] w6).I hM;refine⟨hh,p ZL<|pe ?_⟩;have h7:=Ql he hh;have hN:=h4.J hh;refine QX (α:=Unit) [(37,44)] (λz=>[(44,.bool (decide (0<=t/\t∉out)))]) (λz w'=>w'=w7) om ?_ ?_
 .refine Qq<|Qa<|xb (YI U U) (λhq=>?_) (λhq=>?_)
  .refine Qa<|Qa<|Qa<|Qx<|(QgW hN t).S ?_;rintro r8 w8 ⟨rfl,rfl⟩;refine x (Zr U)<|QB U<|xe<|⟨(),⟨O2 Value.bool ?_,La⟩,U⟩;show(!decide (t∈out))=_;rw[NU];simp[hq]
  refine Qa<|Zm<|K4<|QB U<|xe ?_;exact⟨(),⟨O2 Value.bool (O6 (λe=>hq e.1)).symm,La⟩,U⟩
 rintro _ g9 w9 rfl;refine ZI rfl (λhr=>?_) (λhr=>?_)
 .rw[O0 hr]at I;refine Qe<|Qq<|Qa<|QH U U<|Qb<|⟨(k+1,out,v),og,oB,ha.I hh,h7,H,hg,J,O,I⟩
 rw[O1 hr]at I hp;have h8:=ha.I hh;have gg:=h8.size;refine Qq<|Qa<|Qa<|Qo<|Zb [[sS t]] λgh gi hs gj hO=>?_;have hP:=Ql h7 hs;have gk:=hs.size;refine Qo<|Q9 (news:=[sS t]) (L:=[]) hP U U U (hO.at oe) oq oa oa λhQ gl hS hU gm =>
  Qb ?_
 have hge:=Qg he;refine Qq<|Qa<|QH U U<|Qb<|⟨(k+1,out++[t],hQ),og,oB,(h8.I hs).G hU (λb hb=>.inr (hge b hb).1),Qp.snoc hS,hp,hg,by simp;omega,?_,I⟩;simp only[];rw[jx J];exact O
structure CrI (w7:O8)(b4:Nat)(vcl:O9)(n:Int)(vm vd:O9)(M:LI)(E:List Ed)(w:O8):Prop where
 st:xj [b4] w7 w
 B:QP ↑w b4 66 [vcl,sS n,vm,vd]
 m:Qp 3 ↑w7 w vm M
 e:YR 159 ↑w7 w vd E
 dj:Dj vm vd
section
variable {w7 w'':O8}{b4:Nat}{vcl:O9}{n:Int}{vd:O9}{M:LI}{E:List Ed}
theorem CrI.J (h:CrI w7 b4 vcl n vm vd M E w)(H:sW w w'):CrI w7 b4 vcl n vm vd M E w':=⟨h.st.I H,h.B.J H,Ql h.m H,Ql h.e H,h.dj⟩
theorem CrI.setM (h:CrI w7 b4 vcl n vm vd M E w)(O:b4<w7.heap.size){H:O9}{M':LI}(S:xj (ob vm) w w')(T:Qp 3 ↑w7 w' H M')(V:∀b∈ob H,b∈ob vm\/↑w<=b)(I:xj [b4] w' w'')
  (Y:QP ↑w'' b4 66 [vcl,sS n,H,vd]):CrI w7 b4 vcl n H vd M' E w'' :=
 ⟨(h.st.G S (λb O=>.inr (Qg h.m b O).1)).V I,Y,Qf T I (λb J=>by have:=(Qg T b J).1;simp;omega),
  Qf (Qf h.e S h.dj.symm) I (λb J=>by have:=(Qg h.e b J).1;simp;omega),(h.dj.symm.grow V (Q3 h.e)).symm⟩
theorem CrI.setE (h:CrI w7 b4 vcl n vm vd M E w)(O:b4<w7.heap.size){H:O9}{E':List Ed}(S:xj (ob vd) w w')(T:YR 159 ↑w7 w' H E')(V:∀b∈ob H,b∈ob vd\/↑w<=b)(I:xj [b4] w' w'')
  (Y:QP ↑w'' b4 66 [vcl,sS n,vm,H]):CrI w7 b4 vcl n vm H M E' w'' :=
 ⟨(h.st.G S (λb O=>.inr (Qg h.e b O).1)).V I,Y,Qf (Qf h.m S h.dj) I (λb J=>by have:=(Qg h.m b J).1;simp;omega),
  Qf T I (λb J=>by have:=(Qg T b J).1;simp;omega),h.dj.grow V (Q3 h.m)⟩
end
theorem Qa9 (a:QU)(fd:LI)(k:Nat):Xc a fd (k+1)=if xo fd k∈a.mr then Xc a fd k++[(k:Int)]else Xc a fd k:=by
 unfold Xc;rw[MI,Mc,Ls,LS];by_cases h:xo fd k∈a.mr
 .rw[O1 h,Mg,O1 (O4 h)];rfl
 rw[O0 h,Mg,O0 (by rw[O6 h];simp),Nv,M7,LT]
theorem Qek (a:QU)(fd:LI):∀k,(Xc a fd k).length<=k
 | 0=>by simp[Xc]
 | k+1=>by
  have:=Qek a fd k;rw[Qa9];split
  .simp;omega
  omega
theorem QiM (a:QU)(fd:LI)(k:Nat):Xt a fd (k+1)=Xt a fd k++a.al.filterMap (Vi a fd k):=by
 unfold Xt;rw[MI,LC,LS];simp
theorem j7 (h:ZE L ↑w va vm ve a)(Y:Zo a):
  QZ sV 125 [.agg #[va,sS a.st,vm,ve]] w λr w'=>sW w w'/\Xi ↑w ↑w' r (Xg a):=by
 have h1:=Y.st1;have kr:=Y.al_le;have ga:=((ji Y).1).len Y.st0;refine Zt func125 ?_;refine Zd (xA a) λfd hv=>?_;rw[hv]at ga;have gb:Xg a=⟨a.al,fd.length,Xc a fd fd.length,Xt a fd fd.length⟩:=by unfold Xg;rw[hv]
 refine Qc<|Zg [va,sS a.st,vm,ve] λb1 w1 gc kt hw=>QL [nS,sS 0,nS,nS] λb2 w2 hz ku hD=>xe ?_;have Z:=gc.I hz;have hfr:=Qip (h.J Z) Y;rw[hv]at hfr;refine Qc<|QV (hw.J hz) U U<|Qx<|hfr.S ?_;rintro vf w3 ⟨hp,gg⟩;refine Qb ?_;have hE:=Z.I hp;have hF:=(hw.J hz).J hp;refine Qc<|Qm U hF U U<|Qx<|(qZ (h.al.J hE) oa).S ?_;rintro r4 w4 ⟨hG,vcl,rfl,ha⟩;have hH:=Qp.ints (L:=[]) ha oa oe;refine QL [nS,sS 0,nS,nS] λb4 w5 gh gi gj =>
  QJ [vcl,sS 0,nS,nS] gj ⟨hH.one,U,U,U,La⟩ λw6 gk hJ=>xe ?_
 have h0:sW w4 w6:=gh.Q gk gi;have he:=hG.I h0;have hK:=Qp.ints (L:=[]) gg oa oe;have kv:=hp.size;have kw:=hG.size;have kx:=h0.size;have kz:=hw.lt;have k0:=hD.lt;have k4:=hJ.lt;refine Qj<|QE hK U<|QN U<|Qo<|Qw (u:=sS fd.length) hJ U U oe rfl λw7 T gl=>xe ?_;have k5:=T.size;have k6:xj [b4] w3 w7:=(he.any (L:=[b4])).V T;have hL:sW w w7:=(hE.I he).Q T oa;have hM:QG [b4] ↑w7 vf fd:=((hK.up (L':=[b4]) (λb H=>.inr (by simp at H;omega))).J he).st T;have h2:ZE [b4] ↑w7 va vm ve a:=(h.up (λb H=>.inr (by simp at H;omega))).J hL;have gm:Qp 3 ↑w3 w7 vcl a.al:=Qf (Ql ha h0) T (λb H=>by have:=Q3 ha b H;simp;omega);have hN:=(hF.J he).O T (by simp;omega);have hg:b4<w7.heap.size:=oa
 have n1:b1∉[b4]:=by simp;omega
 have n2:b2∉[b4]:=by simp;omega
 refine Qd<|Qc<|Qb<|Q2 (α:=Nat×O9×O9) [(5,7),(16,69)] (λz=>[(5,sS z.1)])
  (λz w'=>z.1<=fd.length/\CrI w7 b4 vcl fd.length z.2.1 z.2.2 (Xc a fd z.1) (Xt a fd z.1) w'/\(Xt a fd z.1).length<=z.1*32) (λz=>fd.length - z.1) (0,nS,nS) Lb
  ⟨Lp _,⟨xj.Y _ _,gl,QI _ _ _ _,QI _ _ _ _,Dj.nil' _⟩,Lp _⟩ ?_
 rintro⟨i,v1,v2⟩ g8 w8 ⟨hi,J,h3⟩;simp only[]at hi J h3;have gn:=Qek a fd i;have hO:=hM.st J.st;refine Qd<|Qj<|Qa<|QE hO U<|Ye U U<|xe<|ZI rfl (λgo=>?_) (λgo=>?_)
 .have gp:i=fd.length:=oa
  rw[gp]at J h3 gn;refine Qt ?_;have gq:=Qp.ints (L:=[]) J.m oa oe;have gr:=YR.eds (L:=[]) J.e oa oe;refine Qc<|QV J.B U U<|QJ [vcl,sS fd.length,v1,v2] ((((hD.J hp).J he).O T (by simp;omega)).O J.st n2) ⟨hH.one,U,gq.one,gr.one,La⟩ λw9 hq gs=>xe ?_;refine Qi ⟨[.agg #[vcl,sS fd.length,v1,v2]],⟨YO gs,La⟩,(hL.Q J.st oa).Q hq oa,?_⟩;rw[gb];have k1:=Qf (Qf gm J.st (λb H=>by have:=Q3 ha b H;simp;omega)) hq (λb H=>by have:=(Qg ha b H).1;simp;omega);have k2:=Qf J.m hq (λb H=>by have:=(Qg J.m b H).1;simp;omega);have k3:=Qf J.e hq (λb H=>by have:=(Qg J.e b H).1;simp;omega);refine⟨vcl,v1,v2,U,λL' h4=>⟨?_,?_,?_⟩⟩
  .exact Qp.ints k1 (by show a.al.length<=_;omega) (λb H=>ov (h4 b H))
  .exact Qp.ints k2 (by show(Xc a fd fd.length).length<=_;omega) (λb H=>ov (h4 b H))
  exact YR.eds k3 (by show(Xt a fd fd.length).length<=_;omega) (λb H=>ov (h4 b H))
 have h5:i<fd.length:=oa
 refine Zd (xo fd i) λs hr=>?_;have hh:=Qa9 a fd i;rw[hr]at hh;refine Qe<|Qd<|Qn<|QX (α:=O9) [(22,34)] (λz=>[]) (λz w'=>CrI w7 b4 vcl fd.length z v2 (Xc a fd (i+1)) (Xt a fd i) w') om ?_ ?_
 .have gt:=h2.st J.st;have gu:=hN.O J.st n1;refine Qd<|ZH [] (Xf 0 7 [6])<|p (QF U)<|pq (λ_ I=>Qk (gu.J I) U U)<|p QA<|p QA<|pic (i:=i) U hO U U h5 λk7 hP=>?_;rw[hr]at hP;refine pq (λ_ I=>Qy (hP.J I) U)<|pk<|xg<|(QgW (gt.mr.J (xj.X [] w8)) s).S ?_;rintro k8 k9 ⟨rfl,rfl⟩;have h6:=J.J (xj.X [] w8);refine⟨xj.X _ _,pe ?_⟩;refine ZI U (λh7=>?_) (λh7=>?_)
  .rw[O0 h7]at hh;refine Qe ?_;exact⟨v1,La,by rw[hh];exact h6⟩
  rw[O1 h7]at hh;refine Qq<|Qm U h6.B U U<|Qa<|Qo<|Zb [[sS i]] λma mf gv mg gw=>?_;have hj:=h6.J gv;refine Qo<|Q9 (news:=[sS i]) (L:=[]) hj.m U U U (gw.at oe) oq oa hj.st.size λhQ gx gy Z gz=>?_;have hR:Qp 3 ↑w7 gx hQ (Xc a fd i++[(i:Int)]):=Qp.snoc gy;refine QN U<|Qo<|Qw (hj.B.O Z (QR hj.m hg)) U U oe (Qp.ints (L:=[]) hR (by simp;omega) oe).one λmh g0 g2 =>
   xe ?_
  exact⟨hQ,La,by rw[hh];exact hj.setM hg Z hR gz g0 g2⟩
 rintro v3 mj mo g3;refine Zd (Xt a fd (i+1)) λE1 hE1=>?_;have hS:=QiM a fd i;rw[hE1]at hS;refine Qc<|Qb<|Q2 (α:=Nat×List Ed×O9) [(6,7),(35,69)] (λz=>[(6,sS z.1)])
  (λz w'=>z.1<=a.al.length/\CrI w7 b4 vcl fd.length v3 z.2.2 (Xc a fd (i+1)) z.2.1 w'/\z.2.1.length<=i*32+z.1/\z.2.1++(a.al.drop z.1).filterMap (Vi a fd i)=E1) (λz=>a.al.length - z.1) (0,Xt a fd i,v2) Lb
  ⟨Lp _,g3,h3,hS.symm⟩ ?_
 rintro⟨k,E,vd⟩ mq hT ⟨hk,S,g4,O⟩;simp only[]at hk S g4 O;have h8:=h2.st S.st;have hs:=hN.O S.st n1;have hU:=hM.st S.st;refine Qd<|Qj<|Qm U hs U U<|QE h8.al U<|Ye U U<|xe<|ZI rfl (λg5=>?_) (λg5=>?_)
 .refine Qt<|Qq<|Qa<|QH U U<|Qb ?_;rw[Lx oa,List.filterMap_nil,LT]at O;refine⟨(i+1,v3,vd),og,Lb,h5,?_,?_⟩
  .simp only[];rw[hE1,<-O];exact S
  simp only[];rw[hE1,<-O];omega
 have V:k<a.al.length:=oa
 refine Zd (xo a.al k) λu hu=>?_;rw[LH V,Zx V,hu,Mz]at O;refine Zd (xw a.ed s u) λt ht=>?_;have g6:Vi a fd i u=if 0<=t then some ((i:Int),u,jb fd t)else none:=by unfold Vi;rw[hr,ht]
 rw[g6]at O;have hsr:=QcV (va:=va) (vm:=vm) (a:=a) (h8.ed.J (xj.X [] hT)) s u a.st;rw[ht]at hsr;refine Qe<|Qd<|Qn<|Qd<|ZH [] (Xf 0 12 [10])<|pq (λ_ I=>ZN (hs.J I) U U)<|p QA<|p QA<|pic (i:=i) U hU U U h5 λms hV=>?_;rw[hr]at hV;refine pq (λ_ I=>Qy (hV.J I) U)<|p (QF U)<|pq (λ_ I=>Qk (hs.J I) U U)<|p QA <|
  pic (i:=k) U h8.al U U V λmt hW=>?_
 rw[hu]at hW;refine pq (λ_ I=>Qy (hW.J I) U)<|pk<|xg<|hsr.S ?_;rintro mu h9 ⟨rfl,g7⟩;have hl:=(xj.X [] hT).I g7;refine⟨hl,p ZL<|pe ?_⟩;have hm:=S.J hl;have g9:=hs.J hl;have ka:=hU.J hl;refine Qj<|x (YI U U)<|xe<|ZI rfl (λhA=>?_) (λhA=>?_)
 .rw[O0 hA]at O;refine Qe<|Qq<|Qa<|QH U U<|Qb<|⟨(k+1,E,vd),og,Lb,V,hm,og,O⟩
 rw[O1 hA]at O;have kb:=Qg S.e;have kc:QG (b4::ob vd) ↑h9 va a.al:=(((h2.al.up (L':=b4::ob vd) (λb H=>by
  rcases Lk.1 H with rfl|H
  .exact .inl oe
  exact .inr (kb b H).1)).O S.st oe).J hl)
 have ke:=QR hm.e hg;have kf:b1∉ob vd:=QR hm.e oa;refine ZH (ob vd) (Xf 0 16 [10,12,13,15])<|p (QF U)<|pq (λ_ I=>Qk (hm.B.O I ke) U U)<|p QA<|p (QF U)<|pq (λ_ I=>Qk (g9.O I kf) U U) <|
  p QA<|pic (i:=k) U kc U U V λmv hX=>?_
 rw[hu]at hX;refine pq (λ_ I=>Qy (hX.O I (λb H=>Ll _ H)) U)<|p QA<|p QA <|
  pk<|xg<|(Qin (ka.J (xj.X [] h9)) t).S ?_
 rintro mw my ⟨rfl,rfl⟩;refine⟨xj.X _ _,p (λ_=>Qv ⟨U,U,U,La⟩)<|pk<|Zb [Qz ((i:Int),u,jb fd t)] λmz m2 kg m3 kh=>?_⟩;have hB:=(xj.X [] h9).I kg;have hn:=hm.J hB;refine⟨hB.any,?_⟩;refine pk<|Q9 (news:=Qz ((i:Int),u,jb fd t)) (L:=[]) hn.e U U U (kh.at oe) (λy hy=>by simp only[Qz,oM,oL,or_false]at hy;rcases hy with rfl|rfl|rfl <;> rfl) oa hn.st.size λhY ki kj hC kk=>⟨(hB.any (L:=ob vd)).V hC,?_⟩
 have hZ:YR 159 ↑w7 ki hY (E++[((i:Int),u,jb fd t)]):=YR.snoc kj;refine p (QF U)<|pkk<|Qw (hn.B.O hC (QR hn.e hg)) U U oe (YR.eds (L:=[]) hZ (by simp;omega) oe).one λm4 kn ko =>
  pe ?_
 have kq:=hn.setE hg hC hZ kk kn ko;refine Qq<|Qa<|QH U U<|Qb<|⟨(k+1,E++[((i:Int),u,jb fd t)],hY),og,Lb,V,kq,by simp;omega,?_⟩;simp only[oY,Ox];exact O
section
variable {pS:String}
theorem JV {H:Nat}{x:xd}{k:IntKind}{a b:Int}(hx:ev f x=.int k a)(I:ev f y=.int k b)(J:0<=a)(S:0<b):
  sR P f w d (.binOp .rem t x y H) ty pS af gd (.int k (a % b)):=by
 unfold sR
 refine Jk hx I ?_;have O:¬b=0:=oa
 simp[binOp,Op.intDiv,O,Int.tmod_eq_emod_of_nonneg J]
end
instance ayMa1:Ay sV 26 5 22 5:=⟨od,od⟩
instance ayMa2:Ay sV 22 5 5 1:=⟨od,od⟩
abbrev bys (ns:LN):LV:=ns.map λn:Nat=>.int .u8 (n:Int)
theorem zf (h:j<ns.length):(bys ns)[j]?=some (.int .u8 ((ns.getD j 0:Nat):Int)):=by simp[bys,oQ,h]
theorem Qem:∀(ns:LN),Zj (bys ns)
 | []=>trivial
 | _::ns=>⟨rfl,Qem ns⟩
theorem JG (h:∀n∈ns,n<256)(j:Nat):ns.getD j 0<256:=by
 by_cases H:j<ns.length
 .simp only[oQ,Of H,Option.getD_some];exact h _ (Lm H)
 simp[oQ,H]
structure GrI (al:LI)(S i k:Nat)(M:LI)(E:List Ed):Prop where
 mb:∀x∈M,0<=x/\x<S
 mi:Yp M
 ml:∀x∈M,x<(i:Int)+1
 mn:M.length<=S
 eb:∀e∈E,0<=e.1/\e.1<S/\e.2.1∈al/\0<=e.2.2/\e.2.2<S
 ei:E.Pairwise λx y=>x.1<y.1\/(x.1=y.1/\x.2.1<y.2.1)
 el:∀e∈E,e.1<i\/(e.1=i/\e.2.1∈al.take k)
 en:E.length<=i*5+k
theorem Qos {S:Nat}{M:LI}(H:∀x∈M,0<=x/\x<S)(hi:Yp M):M.length<=S:=xO S M (hi.imp (λh=>oa)) H
theorem GrI.mark {S:Nat}{M:LI}{E:List Ed}(h:GrI al S i 0 M E)(H:∀x∈M,x<(i:Int))(hi:i<S):GrI al S i 0 (M++[(i:Int)]) E:=by
 have I:∀x∈M++[(i:Int)],0<=x/\x<S:=λx hx=>by
  rcases Lh.1 hx with hx|hx
  .exact h.mb x hx
  simp only[oJ]at hx;omega
 have J:Yp (M++[(i:Int)]):=by
  refine Mj.2 ⟨h.mi,oe,λx hx y O=>?_⟩;simp only[oJ]at O;subst O;exact H x hx
 refine⟨I,J,λx hx=>?_,Qos I J,h.eb,h.ei,h.el,h.en⟩;rcases Lh.1 hx with hx|hx
 .have:=H x hx;omega
 simp only[oJ]at hx;omega
theorem GrI.skip {S k:Nat}{M:LI}{E:List Ed}(h:GrI al S i k M E)(hk:k<al.length):GrI al S i (k+1) M E :=
 ⟨h.mb,h.mi,h.ml,h.mn,h.eb,h.ei,λe H=>(h.el e H).imp id (λx=>⟨x.1,by rw[Lo hk];exact L7 _ x.2⟩),ov h.en⟩
theorem GrI.edge {S k:Nat}{M:LI}{E:List Ed}(h:GrI al S i k M E)(hk:k<al.length)(O:Yp al)(hi:i<S){t:Int}(T:0<=t)(V:t<S):GrI al S i (k+1) M (E++[((i:Int),xo al k,t)]):=by
 have Y:xo al k∈al:=KW hk;refine⟨h.mb,h.mi,h.ml,h.mn,λe H=>?_,?_,λe H=>?_,by have:=h.en;simp;omega⟩
 .rcases Lh.1 H with H|H
  .exact h.eb e H
  simp only[oJ]at H;subst H;exact⟨og,og,Y,T,V⟩
 .refine Mj.2 ⟨h.ei,oe,λx hx y J=>?_⟩;simp only[oJ]at J;subst J;rcases h.el x hx with I|⟨I,Z⟩
  .left;exact I
  right;refine⟨I,?_⟩;simp only[];have hp:Yp (al.take k++al.drop k):=by rw[MT];exact O
  refine(Mj.1 hp).2.2 _ Z _ ?_;rw[LH hk,Zx hk];exact Lr
 rw[Lo hk,Zx hk];rcases Lh.1 H with H|H
 .exact(h.el e H).imp id (λx=>⟨x.1,L7 _ x.2⟩)
 simp only[oJ]at H;subst H;exact .inr ⟨U,MM _ oe⟩
theorem GrI.next {S k:Nat}{M:LI}{E:List Ed}(h:GrI al S i k M E)(hk:k<=5):GrI al S (i+1) 0 M E :=
 ⟨h.mb,h.mi,λx hx=>ov (h.ml x hx),h.mn,h.eb,h.ei,λe H=>by rcases h.el e H with I|I <;> (left;omega),ov h.en⟩
theorem Qid {v:O9}(h:QG L ↑w v al)(H:∀e∈al,0<=e/\e<32)(hi:Yp al)(hn:ns.length=27)(hr:∀n∈ns,n<256):
  QZ sV 65 [v,sT (bys ns)] w λr w'=>sW w w'/\∃a:QU,Xi ↑w ↑w' r a/\Zo a/\a.st<=5/\a.al=al /\
   (ns.getD 0 0<250->∃a0:QU,Zo a0/\0<a0.st/\a0.st<=((1+ns.getD 0 0 % 5:Nat):Int)/\a=Xg a0):=by
 have k0:al.length<=32:=xO 32 al (hi.imp (λh=>oa)) (λx hx=>ov (H x hx));refine Zt func65 ?_;have g0:=zf (ns:=ns) (j:=0) oa;have g1:=zf (ns:=ns) (j:=1) oa;have l0:=JG hr 0;have l1:=JG hr 1;refine Zd (ns.getD 0 0) λs0 hZ=>?_;refine Zd (ns.getD 1 0) λm1 ga=>?_;rw[hZ]at g0 l0;rw[ga]at g1 l1;refine Qc<|Zg (bys ns) λb3 w1 gb k4 h6=>QL [nS,sS 0,nS,nS] λb4 w2 h7 k5 hs=>xe ?_;have hp:=gb.I h7;have hv:=h6.J h7;have k6:=h6.lt;have k7:=hs.lt;refine Qd<|Qc<|Qm U hv U g0<|x (YI U U)<|xe<|QY rfl (λgc=>?_) (λgc=>?_)
 .refine Qj<|Qx<|(qZ (h.J hp) oa).S ?_;rintro r3 w3 ⟨h8,vcl,rfl,V⟩;have hw:=Qp.ints (L:=[]) V oa oe;refine QJ [vcl,sS 0,nS,nS] (hs.J h8) ⟨hw.one,U,U,U,La⟩ λw4 h9 gg=>xe ?_;have gh:=Qf V h9 (λb H=>by have:=(Qg V b H).1;simp;omega);refine Qi ⟨[.agg #[vcl,sS 0,nS,nS]],⟨YO gg,La⟩,(hp.I h8).Q h9 oa,⟨al,0,[],[]⟩,?_,?_,(by decide:(0:Int)<=5),U,λh=>O3 h oa⟩
  .exact⟨vcl,_,_,U,λL' gi=>⟨Qp.ints gh (by show al.length<=_;omega) (λb H=>ov (gi b H)),Zk.nil _ _ _,Zk.nil _ _ _⟩⟩
  exact⟨H,hi,(by decide:(0:Int)<=0),(by decide:(0:Int)<=4096),oe,oe,oe,oe⟩
 refine Qe<|Qj<|Qx<|(qZ (h.J hp) oa).S ?_;rintro r5 w5 ⟨hA,vcl,rfl,V⟩;have hw:=Qp.ints (L:=[]) V oa oe;refine QL [nS,sS 0,nS,nS] λJ w6 gk gl gm =>
  QJ [vcl,sS 0,nS,nS] gm ⟨hw.one,U,U,U,La⟩ λw7 gn hB=>xe ?_
 have hC:sW w5 w7:=gk.Q gn gl;have hj:=hA.I hC;have k8:=hA.size;have k9:=hB.lt;refine Zd (1+s0 % 5) λS hS=>?_;have go:(1:Int)+(s0:Int) % 5=(S:Int):=oa
 refine Qc<|Qm U (hv.J hj) U g0<|x (JV (a:=(s0:Int)) (b:=5) U U oa oa)<|x (Z8 (k':=.i64) U ⟨oa,oa⟩)<|QH U U<|x (VD U) <|
  Qo<|Qw (u:=sS S) hB U (O2 sS go) oe rfl λO he gp=>xe ?_
 have ma:=he.size;have mf:xj [J] w2 O:=(hj.any (L:=[J])).V he;have hD:sW w O:=(hp.I hj).Q he oa;have hE:QG [J] ↑O v al:=(h.up (L':=[J]) (λb H=>.inr (by simp at H;omega))).J hD;have gq:Qp 3 ↑w2 O vcl al:=Qf (Ql V hC) he (λb H=>by have:=Q3 V b H;simp;omega);have hH:=(hv.J hj).O he (by simp;omega);have gr:=(hs.J hj).O he (by simp;omega);have hl:J<O.heap.size:=oa
 have n3:b3∉[J]:=by simp;omega
 have n4:b4∉[J]:=by simp;omega
 refine Qd<|Qc<|Qb<|Q2 (α:=Nat×O9×O9×LI×List Ed) [(6,8),(22,76)] (λz=>[(6,sS z.1)])
  (λz w'=>z.1<=S/\CrI O J vcl S z.2.1 z.2.2.1 z.2.2.2.1 z.2.2.2.2 w'/\GrI al S z.1 0 z.2.2.2.1 z.2.2.2.2/\∀x∈z.2.2.2.1,x<(z.1:Int)) (λz=>S - z.1) (0,nS,nS,[],[]) Lb
  ⟨Lp _,⟨xj.Y _ _,gp,QI _ _ _ _,QI _ _ _ _,Dj.nil' _⟩,⟨oe,oe,oe,oe,oe,oe,oe,oe⟩,oe⟩ ?_
 rintro⟨i,v1,v2,M,E⟩ g9 w9 ⟨gs,I,T,hM⟩;simp only[]at gs I T hM;have mg:=T.mn;have mh:=T.en;refine Qd<|Qj<|Qm U I.B U U<|Ye U U<|xe<|ZI rfl (λgt=>?_) (λgt=>?_)
 .have mj:i=S:=oa
  refine Qt ?_;have gu:=Qp.ints (L:=[]) I.m oa oe;have gv:=YR.eds (L:=[]) I.e oa oe;have gw:Qp 3 ↑w2 w9 vcl al:=Qf gq I.st (λb H=>by have:=Q3 V b H;simp;omega);have gx:ZE [] ↑w9 vcl v1 v2 ⟨al,(S:Int),M,E⟩:=⟨Qp.ints gw (by show al.length<=_;omega) oe,gu,gv⟩;have hz:Zo ⟨al,(S:Int),M,E⟩:=⟨H,hi,og,og,T.mb,T.mi,T.eb,T.ei⟩;have h0:=Qcv hz;have hJ:sW w w9:=hD.Q I.st oa;have gy:=gr.O I.st n4;have mo:=I.st.size;refine Qc<|QV I.B U U<|Qx<|(j7 (a:=⟨al,(S:Int),M,E⟩) gx hz).S ?_;rintro vr mq ⟨hK,hF⟩;obtain⟨us,hL,hN,gz⟩:=Xw hF;refine Qo<|ZA (us:=us) (gy.J hK) U hL hN U gz λms hO g2=>xe ?_;have g3:=hJ.size;refine Qi ⟨[sT us],⟨⟨_,U,ZR hN (g2.at (L:=[]) oe).cells⟩,La⟩,(hJ.I hK).Q hO oa,Xg ⟨al,(S:Int),M,E⟩,?_,h0.1,?_,h0.2.1,λ_=>⟨⟨al,(S:Int),M,E⟩,hz,og,og,U⟩⟩
  .show Xi _ _ (sT us) _;rw[<-hL];exact(XY hF oa hO).S g3
  have:=h0.2.2;simp only[]at this;omega
 have h1:i<S:=oa
 refine Qe<|Qd<|Qn<|QX (α:=O9×LI) [(28,39)] (λz=>[]) (λz w'=>CrI O J vcl S z.1 v2 z.2 E w'/\GrI al S i 0 z.2 E) om ?_ ?_
 .have g4:m1 / 2 ^ i<256:=Nat.lt_of_le_of_lt (Nat.div_le_self _ _) l1;refine Qc<|Qm U (hH.O I.st n3) U g1<|Qa<|x (Qdg (n:=i) U U (by show i<=8;omega))<|x (yN (a:=m1 / 2 ^ i) (b:=1) (O2 (Value.int .u8) (Qby m1 i)) U g4 oh)<|x (QW U U)<|xe<|ZI U (λg5=>?_) (λg5=>?_)
  .refine Qe ?_;exact⟨(v1,M),La,I,T⟩
  refine Qq<|Qm U I.B U U<|Qa<|Qo<|Zb [[sS i]] λmt mu g6 mv g7=>?_;have hm:=I.J g6;refine Qo<|Q9 (news:=[sS i]) (L:=[]) hm.m U U U (g7.at oe) oq oa hm.st.size λhP g8 ka hQ kb=>?_;have hR:Qp 3 ↑O g8 hP (M++[(i:Int)]):=Qp.snoc ka;refine QN U<|Qo<|Qw (hm.B.O hQ (QR hm.m hl)) U U oe (Qp.ints (L:=[]) hR (by simp;omega) oe).one λmw kc ke =>
   xe ?_
  exact⟨(hP,M++[(i:Int)]),La,hm.setM hl hQ hR kb kc ke,T.mark hM h1⟩
 rintro⟨v3,M3⟩ my mz ⟨hT,hU⟩;simp only[]at hT hU;refine Qc<|Qb<|Q2 (α:=Nat×O9×List Ed) [(7,8),(40,76)] (λz=>[(7,sS z.1)])
  (λz w'=>z.1<=al.length/\z.1<=5/\CrI O J vcl S v3 z.2.1 M3 z.2.2 w'/\GrI al S i z.1 M3 z.2.2) (λz=>5 - z.1) (0,v2,E) Lb
  ⟨Lp _,Lp _,hT,hU⟩ ?_
 rintro⟨k,vd,F⟩ m2 kf ⟨hk,hV,hg,hh⟩;simp only[]at hk hV hg hh;have kg:=hE.st hg.st;have m3:=hh.en;refine Qd<|QX (α:=Unit) [(40,47)] (λz=>[(47,.bool (decide (k<al.length/\k<5)))]) (λz w'=>w'=kf) om ?_ ?_
 .refine Qq<|Qa<|Qa<|QE kg U<|xb (YA U U) (λhW=>?_) (λhW=>?_)
  .refine Qa<|Qa<|Ye U U<|QB U<|xe<|⟨(),⟨O2 Value.bool ?_,La⟩,U⟩;exact decide_eq_decide.2 ⟨λe=>⟨oa,oa⟩,λe=>oa⟩
  refine Qa<|Z6<|QB U<|xe ?_;exact⟨(),⟨O2 Value.bool (O6 (λe=>hW oa)).symm,La⟩,U⟩
 rintro _ m4 Y rfl;refine ZI rfl (λh2=>?_) (λh2=>?_)
 .refine Qt<|Qq<|Qa<|QH U U<|Qb<|⟨(i+1,v3,vd,M3,F),og,Lb,h1,hg,hh.next hV,λx hx=>by have:=hh.ml x hx;simp only[];omega⟩
 have hk1:k<al.length:=h2.1;have h3:k<5:=h2.2;have gj:=zf (ns:=ns) (j:=0+2+i*5+k*1) oa;have lj:=JG hr (0+2+i*5+k*1);refine Zd (ns.getD (0+2+i*5+k*1) 0) λq hq=>?_;rw[hq]at gj lj;have kh:=hH.O hg.st n3;have ki:0<=(q:Int) % ((S:Int)+2):=Int.emod_nonneg _ oa;refine Qe<|Qd<|Qn<|Qd<|ZH [] (Xf 0 12 [])<|p QA<|p QA<|p (QF U)<|p (λ_=>Yf (i:=i) U U oa)<|p (λ_=>Yf (i:=k) U U h3)<|pq (λ_ Z=>Qk (kh.J Z) U gj) <|
  p (λ_=>Z8 (k':=.i64) U ⟨oa,oa⟩)<|p (QF U)<|pq (λ_ Z=>Qk (hg.B.J Z) U U)<|p (λ_=>X2 U U ⟨oa,oa⟩) <|
  p (λ_=>JV (a:=(q:Int)) (b:=(S:Int)+2) U U oa oa)<|p ZL<|pe ?_
 have ha:=hg.J (xj.X [] Y);refine Zd ((q:Int) % ((S:Int)+2)) λt ht=>?_;refine Qj<|Qm U ha.B U U<|Ye U U<|xe<|ZI rfl (λkj=>?_) (λkj=>?_)
 .refine Qe<|Qq<|Qa<|QH U U<|Qb<|⟨(k+1,vd,F),og,Lb,hk1,h3,ha,hh.skip hk1⟩
 have kk:=Qg ha.e;have kn:QG (J::ob vd) { Y with drawn:=Y.drawn+1 }.heap v al:=((hE.up (L':=J::ob vd) (λb H=>by
  rcases Lk.1 H with rfl|H
  .exact .inl oe
  exact .inr (kk b H).1)).O ha.st oe)
 have ko:=QR ha.e hl;refine UF (xj (ob vd) { Y with drawn:=Y.drawn+1 }) [oE 0,oE 1,oE 2,oE 3,oE 4,oE 5,oE 6,oE 7,oE 8,oF 9,oF 10,oE 11,oF 12] mixed om od (xj.X _ _) ?_
 refine p (QF U)<|pq (λ_ Z=>Qk (ha.B.O Z ko) U U)<|p QA<|p QA<|p QA <|
  pic (i:=k) U kn U U hk1 λm5 kq=>pq (λ_ Z=>Qy (kq.O Z (λb H=>Ll _ H)) U)<|p QA<|p (λ_=>Qv ⟨U,U,U,La⟩) <|
  pk<|Zb [Qz ((i:Int),xo al k,(q:Int) % ((S:Int)+2))] λm6 m7 kr m8 kt=>?_
 have h4:=(xj.X [] { Y with drawn:=Y.drawn+1 }).I kr
 have ho:=ha.J h4;refine⟨h4.any,?_⟩;refine pk<|Q9 (news:=Qz ((i:Int),xo al k,(q:Int) % ((S:Int)+2))) (L:=[]) ho.e U U U (kt.at oe) (λy hy=>by simp only[Qz,oM,oL,or_false]at hy;rcases hy with rfl|rfl|rfl <;> rfl) oa ho.st.size λhX ku kv h5 kw=>⟨(h4.any (L:=ob vd)).V h5,?_⟩
 have hY:YR 159 ↑O ku hX (F++[((i:Int),xo al k,(q:Int) % ((S:Int)+2))]):=YR.snoc kv;refine p (QF U)<|pkk<|Qw (ho.B.O h5 (QR ho.e hl)) U U oe (YR.eds (L:=[]) hY (by simp;omega) oe).one λm9 kx kz=>pe ?_;refine Qq<|Qa<|QH U U<|Qb<|⟨(k+1,hX,F++[((i:Int),xo al k,(q:Int) % ((S:Int)+2))]),og,Lb,hk1,h3,(ho.setE hl h5 hY kw kx kz),hh.edge hk1 hi h1 ki oa⟩
section
variable {pS:String}
theorem qK [Ag P t sz]{x:xd}{o:Nat}(h:QP ↑w b T cs)(hx:ev f x=.pointer (some ⟨b,o,none⟩))(H:us.length=sz)(I:∀j u,us[j]?=some u->cs[o+j]?=some u):
  sR P f w d (.load t x) ty pS af gd (sT us):=by
 unfold sR
 refine z7 hx H λj u hu=>?_;rw[JT,KP,h.cell];exact I j u hu
end
theorem Qpi {o:Nat}:∀j u,(bys ((ns.drop o).take n))[j]?=some u->(bys ns)[o+j]?=some u:=by
 intro j u h;simp only[bys,List.getElem?_map,List.getElem?_take,List.getElem?_drop]at h ⊢;split at h
 .exact h
 cases h
theorem Qpj (h:∀n∈ns,n<256)(o n:Nat):∀m∈(ns.drop o).take n,m<256:=λm H=>h m (Mf (L8 H))
theorem Qgf (m k:Nat):∀e∈setK m k,0<=e/\e<k:=by
 intro e H;simp only[setK,OB,OL,OC]at H;obtain⟨i,⟨hi,_⟩,rfl⟩:=H;omega
theorem QgG (keep:Bool->Bool->Bool):∀(n:Nat) (a b:LI),a.length+b.length<=n->Yp a->Yp b->Yp (mrg keep a b):=by
 intro n;induction n with
 | zero =>
  intro a b h _ _;have T:a=[]:=LA oa;have V:b=[]:=LA oa;subst T V;rw[Va];exact List.Pairwise.nil
 | succ n ih =>
  intro a b Y ia ib;by_cases h:a=[]/\b=[]
  .obtain⟨rfl,rfl⟩:=h;rw[Va];exact List.Pairwise.nil
  have Z:=jd h;have itl:∀(c:Bool) (l:LI),Yp l->Yp (tl c l):=λc l J=>by
   cases c
   .exact J
   cases l with
   | nil=>exact J
   | cons y l=>exact J.tail
  have O:=ih (tl (JF a b) a) (tl (JF b a) b) oa (itl _ _ ia) (itl _ _ ib);rw[KO keep h];cases keep (JF a b) (JF b a)with
  | false=>simpa using O
  | true =>
   simp only[cond_true,Ox];refine L6.2 ⟨λx hx=>?_,O⟩;have I:=(ye (itl _ _ ia) (itl _ _ ib) x).1 hx;cases a with
   | nil =>
    cases b with
    | nil=>exact O3 ⟨U,U⟩ h
    | cons y b =>
     simp only[JF,tl,cond_true,cond_false,Oo,oL,false_or,Lg.hx,Om]at I ⊢;exact ib.lt_of I.1
   | cons u a =>
    cases b with
    | nil =>
     simp only[JF,tl,cond_true,cond_false,Oo,oL,or_false,Lg.hx,Om]at I ⊢;exact ia.lt_of I.1
    | cons y b =>
     rcases Int.lt_trichotomy u y with S|S|S
     .have e1:decide (u<=y)=true:=O4 oa;have e2:decide (y<=u)=false:=O6 oa;simp only[JF,tl,e1,e2,cond_true,cond_false,Oo,Lg.hx,Om]at I ⊢;rcases I.1 with H|H
      .exact ia.lt_of H
      rcases Lk.1 H with H|H
      .omega
      have:=ib.lt_of H;omega
     .have e1:decide (u<=y)=true:=O4 oa;have e2:decide (y<=u)=true:=O4 oa;simp only[JF,tl,e1,e2,cond_true,Oo,Lg.hx,Om]at I ⊢;rcases I.1 with H|H
      .have:=ia.lt_of H;omega
      have:=ib.lt_of H;omega
     have e1:decide (u<=y)=false:=O6 oa;have e2:decide (y<=u)=true:=O4 oa;simp only[JF,tl,e1,e2,cond_true,cond_false,Oo,Lg.hx,Om]at I ⊢;rcases I.1 with H|H
     .rcases Lk.1 H with H|H
      .omega
      have:=ia.lt_of H;omega
     exact ib.lt_of H
section
variable {pS:String}{all:xK}{C:xH}
theorem tp {l:xD}(h:XP P all C K l f w):XT P all C K (.pl l) f w:=h
end
theorem Yp.J:∀{a b:LI},Yp a->Yp b->(∀x,x∈a↔x∈b)->a=b
 | [],[],_,_,_=>rfl
 | [],y::b,_,_,h=>by have:=(h y).2 Lr;cases this
 | x::a,[],_,_,h=>by have:=(h x).1 Lr;cases this
 | x::a,y::b,ia,ib,h=>by
  have e:x=y:=by
   have H:=(h x).1 Lr;have I:=(h y).2 Lr;rcases Lk.1 H with H|H
   .exact H
   rcases Lk.1 I with I|I
   .exact I.symm
   have:=ib.lt_of H;have:=ia.lt_of I;omega
  subst e;congr 1;refine Yp.J ia.tail ib.tail λz=>?_;have O:=h z;constructor
  .intro J;have:=O.1 (Ll _ J);rcases Lk.1 this with H|H
   .have:=ia.lt_of J;omega
   exact H
  intro J;have:=O.2 (Ll _ J);rcases Lk.1 this with H|H
  .have:=ib.lt_of J;omega
  exact H
theorem jO {O S T:O9}(h:ZE L ↑w va vm ve a)(V:ZE L' ↑w O S T a):
  QZ sV 16 [.agg #[va,sS a.st,vm,ve],.agg #[O,sS a.st,S,T]] w λr w'=>r=.bool true/\sW w w':=by
 refine Zt func16 ?_;refine Qc<|Zg [va,sS a.st,vm,ve] λb2 w1 hj hn hl=>Zg [O,sS a.st,S,T] λb3 w2 hb ho H=>Qb ?_;have Y:=hj.I hb;have I:=hl.J hb;refine Qc<|Qm U I U U<|Qm U H U U<|xb (QW U U) (λ_=>?_) (λh9=>O3 U h9);refine Qa<|Qm U I U U<|Qm U H U U<|Qx<|(JR (h.al.J Y) (V.al.J Y)).S ?_;rintro r3 w3 ⟨hc,J⟩;rw[O4 rfl]at hc;subst hc;have Z:=Y.I J;refine x (qJ U) <|
  Qa<|Qm rfl (I.J J) U U<|QN U<|x (Qk (H.J J) U U) <|
  Qx<|(JR (h.mr.J Z) (V.mr.J Z)).S ?_
 rintro r4 w4 ⟨he,hg⟩;rw[O4 rfl]at he;subst he;have ha:=Z.I hg;have hh:=J.I hg;refine QB rfl<|Qa<|QN U<|x (Qk (I.J hh) U U) <|
  Qm rfl (H.J hh) U U<|Qx<|(QaX (h.ed.J ha) (V.ed.J ha)).S ?_
 rintro r5 w5 ⟨hi,hm⟩;rw[O4 rfl]at hi;subst hi;refine QB rfl<|Qb<|Qi ⟨[.bool true],Lb,U,ha.I hm⟩
section
variable {pS:String}
end
section
variable {w4 w'':O8}{m q:Bool}{vd:O9}{E D:LI}
end
section
variable {pS:String}
end
def grid (g:Nat->Int->Option Ed)(vs:LI)(n:Nat):List Ed:=(oS 0 n).flatMap λj=>vs.filterMap (g j)
theorem qW (g:Nat->Int->Option Ed)(vs:LI)(n:Nat):grid g vs (n+1)=grid g vs n++vs.filterMap (g n):=by
 unfold grid;rw[MI,LC];simp
theorem QdS (l m:List Ed)(s v:Int):xx (l++m) s v=match xx l s v with|some u=>some u|none=>xx m s v:=by
 induction l with
 | nil=>rfl
 | cons e l ih =>
  rw[MN,xx,xx];split
  .rfl
  exact ih
def jL (g:Nat->Int->Option Ed):Prop:=∀j v e,g j v=some e->e.1=(j:Int)/\e.2.1=v
theorem QdQ {g:Nat->Int->Option Ed}(E:jL g)(j:Nat)(v:Int):∀(vs:LI),xx (vs.filterMap (g j)) j v=if v∈vs then(g j v).map (·.2.2)else none
 | []=>by simp[xx]
 | u::vs=>by
  have ih:=QdQ E j v vs;rw[Mz];cases hu:g j u with
  | none =>
   simp only[];rw[ih];by_cases e:v=u
   .subst e;simp[hu]
   simp[e]
  | some e =>
   have H:=E j u e hu;simp only[];rw[xx];by_cases e2:u=v
   .subst e2;rw[O1 H,O1 Lr,hu];rfl
   rw[O0 (λh=>e2 (H.2.symm.I h.2)),ih];simp[Ne.symm e2]
theorem QdP {g:Nat->Int->Option Ed}(E:jL g)(h:j≠i)(v:Int)(vs:LI):xx (vs.filterMap (g j)) i v=none:=by
 refine QaY λe H I=>?_;obtain⟨u,_,hu⟩:=M6.1 H;have:=E j u e hu;omega
theorem Qiz {g:Nat->Int->Option Ed}(E:jL g)(vs:LI)(j:Nat)(v:Int):∀n,xx (grid g vs n) j v=if j<n/\v∈vs then(g j v).map (·.2.2)else none
 | 0=>by simp[grid,xx]
 | n+1=>by
  rw[qW,QdS,Qiz E vs j v n];by_cases e:j=n
  .subst e;rw[O0 oa,QdQ E];simp
  rw[QdP E (Ne.symm e)];by_cases h:j<n/\v∈vs
  .rw[O1 h,O1 ⟨oa,h.2⟩];cases(g j v).map (·.2.2) <;> rfl
  rw[O0 h,O0 (λH=>h ⟨oa,H.2⟩)]
theorem QdF {g:Nat->Int->Option Ed}{vs:LI}{e:Ed}(h:e∈grid g vs n):∃j v,j<n/\v∈vs/\g j v=some e:=by
 unfold grid at h;obtain⟨j,E,H⟩:=Mr.1 h;obtain⟨v,I,J⟩:=M6.1 H;rw[ML]at E;exact⟨j,v,oa,I,J⟩
theorem QgX {g:Nat->Int->Option Ed}(E:jL g){vs:LI}(hi:Yp vs):∀n,(grid g vs n).Pairwise λx y:Ed=>x.1<y.1\/(x.1=y.1/\x.2.1<y.2.1)
 | 0=>by simp[grid]
 | n+1=>by
  rw[qW,Mj];refine⟨QgX E hi n,JB (r:=(·<·)) (λx y u v V hu J=>?_) hi,λe O S T=>?_⟩
  .have H:=E n x u hu;have I:=E n y v J;right;omega
  obtain⟨j,v,Y,_,H⟩:=QdF O;obtain⟨v',_,I⟩:=M6.1 T;have Z:=E j v e H;have h4:=E n v' S I;left;omega
theorem QsV (l:List QU):∀(acc:LI),(∀a∈l,Yp a.al)->Yp acc->Yp (l.foldl (λacc a=>mrg (· || ·) acc a.al) acc)/\∀x,x∈l.foldl (λacc a=>mrg (· || ·) acc a.al) acc↔x∈acc\/∃a∈l,x∈a.al:=by
 induction l with
 | nil=>intro acc _ h;exact⟨h,λx=>oe⟩
 | cons a l ih =>
  intro acc H h;have I:=H a Lr;obtain⟨J,O⟩:=ih (mrg (· || ·) acc a.al) (λb S=>H b (Ll _ S)) (QgG _ _ _ _ (Lu _) h I);rw[LZ];refine⟨J,λx=>?_⟩;rw[O x,ye h I];simp only[oM,exists_eq_or_imp];constructor
  .rintro(⟨E|E,_⟩|E)
   .exact .inl E
   .exact .inr (.inl E)
   exact .inr (.inr E)
  rintro(E|E|E)
  .exact .inl ⟨.inl E,by simp[E]⟩
  .exact .inl ⟨.inr E,by simp[E]⟩
  exact .inr E
theorem Qg6 {l:List QU}(h:∀a∈l,Zo a):Yp (evs l):=(QsV l [] (λa E=>(h a E).ali) oe).1
theorem Qg5 {l:List QU}(h:∀a∈l,Zo a)(x:Int):x∈evs l↔∃a∈l,x∈a.al:=by
 have:=(QsV l [] (λa E=>(h a E).ali) oe).2 x;unfold evs;rw[this];simp
def syF (aa:List QU)(tup:List (LI))(j:Nat)(v:Int):Option Ed:=(Y2 v aa (tup.getD j [])).map λu=>((j:Int),v,(tup.idxOf u:Int))
theorem Qqi (aa:List QU)(tup:List (LI)):jL (syF aa tup):=by
 intro j v e h;unfold syF at h;obtain⟨u,_,rfl⟩:=MH.1 h;exact⟨U,U⟩
theorem QdJ {α β:Type}{f g:α->Option β}:∀{l:List α},(∀x∈l,f x=g x)->l.filterMap f=l.filterMap g
 | [],_=>rfl
 | x::l,h=>by rw[Mz,Mz,h x Lr,QdJ (λy E=>h y (Ll _ E))]
theorem Qk9 {f:α->Option β}{v:α}{e:β}(h:f v=some e):[v].filterMap f=[e]:=by rw[Mz,h];rfl
theorem Qoy {f:α->Option β}{v:α}(h:f v=none):[v].filterMap f=[]:=by rw[Mz,h];rfl
theorem Qjt {tup:List (LI)}{v:Int}(h:Y2 v aa (tup.getD j [])=none):syF aa tup j v=none:=by unfold syF;rw[h];rfl
theorem QcT {tup:List (LI)}{v:Int}(h:Y2 v aa (tup.getD j [])=some u):syF aa tup j v=some ((j:Int),v,(tup.idxOf u:Int)):=by unfold syF;rw[h];rfl
def Clo (aa:List QU)(tup:List (LI))(j:Nat)(vs:LI):Prop:=∀v∈vs,∀u,Y2 v aa (tup.getD j [])=some u->u∈tup
theorem VM {tup r:List (LI)}(h:j<tup.length):(tup++r).getD j []=tup.getD j []:=by simp[oQ,List.getElem?_append_left h]
theorem Qf7 {tup r:List (LI)}{vs:LI}(E:j<tup.length)(H:Clo aa tup j vs):vs.filterMap (syF aa (tup++r) j)=vs.filterMap (syF aa tup j):=by
 refine QdJ λv I=>?_;unfold syF;rw[VM E];cases J:Y2 v aa (tup.getD j [])with
 | none=>rfl
 | some u =>
  simp only[Oz,Option.some.injEq,Prod.mk.injEq,true_and];rw[MJ,O1 (H v I u J)]
theorem Clo.pre {tup r:List (LI)}{vs:LI}(E:j<tup.length)(H:Clo aa tup j vs):Clo aa (tup++r) j vs:=by
 intro v I u hu;rw[VM E]at hu;exact L7 _ (H v I u hu)
theorem yV {l:List α}{u:α}(h:l.Nodup)(hu:u∉l):(l++[u]).Nodup:=by
 rw[Mi];exact⟨h,oe,λa H b E=>by simp only[oJ]at E;subst E;exact λe=>hu (by rw[<-e];exact H)⟩
theorem Qak {aa:List QU}{i:Nat}:∀(vs:LI) (s I:Sy),i<s.tup.length->s.tup.Nodup->yx aa i (syT s i) vs s=some I ->
  ∃r,I.tup=s.tup++r/\I.mk'=s.mk'/\I.ed=s.ed++vs.filterMap (syF aa I.tup i)/\Clo aa I.tup i vs/\I.tup.Nodup
 | [],s,I,_,hd,e=>by cases e;exact⟨[],oe,rfl,oe,λv Z=>(by cases Z),hd⟩
 | v::vs,s,I,hi,hd,e=>by
  rw[yx]at e;obtain⟨J,E,V⟩:=MZ.1 e;have key:∃r1,J.tup=s.tup++r1/\J.mk'=s.mk'/\J.ed=s.ed++[v].filterMap (syF aa J.tup i)/\Clo aa J.tup i [v]/\J.tup.Nodup:=by
   unfold syE at E;have eT:syT s i=s.tup.getD i []:=rfl;rw[eT]at E;cases O:Y2 v aa (s.tup.getD i [])with
   | none =>
    rw[O]at E;cases E
    refine⟨[],oe,rfl,by rw[Qoy (Qjt O),Ol],λv' H u hu=>?_,hd⟩;simp only[oJ]at H;subst H;rw[O]at hu;cases hu
   | some u =>
    rw[O]at E;simp only[]at E;by_cases hu:u∈s.tup
    .rw[O1 hu]at E;cases E
     refine⟨[],oe,rfl,by rw[Qk9 (QcT O)],λv' H u' S=>?_,hd⟩;simp only[oJ]at H;subst H;simp only[]at S ⊢;rw[O]at S;cases S;exact hu
    rw[O0 hu]at E;split at E
    .cases E
    cases E
    have e2:(s.tup++[u]).getD i []=s.tup.getD i []:=VM hi;have e3:(s.tup++[u]).idxOf u=s.tup.length:=by rw[MJ,O0 hu];simp
    refine⟨[u],U,U,?_,λv' H u' S=>?_,yV hd hu⟩
    .rw[Qk9 (QcT (tup:=s.tup++[u]) (u:=u) (by rw[e2];exact O)),e3]
    simp only[oJ]at H;subst H;rw[e2,O]at S;cases S;simp
  obtain⟨r1,k1,k2,k3,Y,k5⟩:=key;have T:i<J.tup.length:=by rw[k1];simp;omega
  have eT:syT J i=syT s i:=by unfold syT;rw[k1];exact VM hi
  rw[<-eT]at V;obtain⟨r2,g1,g2,g3,g4,g5⟩:=Qak vs J I T k5 V;refine⟨r1++r2,by rw[g1,k1,LD],g2.I k2,?_,?_,g5⟩
  .rw[g3,k3,LD];congr 1;rw[show v::vs=[v]++vs from rfl,List.filterMap_append];congr 1;rw[g1];exact(Qf7 T Y).symm
  intro v' H u hu;rcases Lk.1 H with rfl|H
  .have:=Y.pre (r:=r2) T;rw[<-g1]at this;exact this v' Lr u hu
  exact g4 v' H u hu
structure SyG (aa:List QU)(i:Nat)(s:Sy):Prop where
 nd:s.tup.Nodup
 le:i<=s.tup.length
 hd:s.tup.getD 0 []=oK aa.length 0/\0<s.tup.length
 mk2:s.mk'=((oS 0 i).filter λj=>J0 aa (s.tup.getD j [])).map λj:Nat=>(j:Int)
 ed:s.ed=grid (syF aa s.tup) (evs aa) i
 cl:∀j,j<i->Clo aa s.tup j (evs aa)
theorem J4 {α β:Type}{f g:α->List β}:∀{l:List α},(∀x∈l,f x=g x)->l.flatMap f=l.flatMap g
 | [],_=>rfl
 | x::l,h=>by rw[LQ,LQ,h x Lr,J4 (λy E=>h y (Ll _ E))]
theorem SyG.next {s E:Sy}(h:SyG aa i s)(hi:i<s.tup.length)(e:yx aa i (syT s i) (evs aa) (Yi aa i (syT s i) s)=some E):SyG aa (i+1) E:=by
 have I:(Yi aa i (syT s i) s).tup=s.tup:=by unfold Yi;split <;> rfl
 have V:(Yi aa i (syT s i) s).ed=s.ed:=by unfold Yi;split <;> rfl
 have S:syT (Yi aa i (syT s i) s) i=syT s i:=by show(Yi aa i (syT s i) s).tup.getD i []=s.tup.getD i [];rw[I]
 rw[<-S]at e;obtain⟨r,g1,Y,T,Z,g5⟩:=Qak (evs aa) _ E (by rw[I];exact hi) (by rw[I];exact h.nd) (by rw[S]at e ⊢;exact e);rw[I]at g1;rw[V]at T;have pre:∀j,j<=i->E.tup.getD j []=s.tup.getD j []:=λj H=>by rw[g1];exact VM oa
 refine⟨g5,by rw[g1];simp;omega,⟨by rw[pre 0 oa];exact h.hd.1,by rw[g1];simp;omega⟩,?_,?_,λj H=>?_⟩
 .rw[Y,MI,Mc,Ls,LS];have e1:((oS 0 i).filter λj=>J0 aa (E.tup.getD j []))=(oS 0 i).filter λj=>J0 aa (s.tup.getD j []):=by
   refine List.filter_congr λj H=>?_;rw[ML]at H;rw[pre j oa]
  rw[e1];unfold Yi;by_cases J:J0 aa (syT s i)=true
  .rw[O1 J];have O:J0 aa (E.tup.getD i [])=true:=by rw[pre i (Lu _)];exact J
   simp only[List.filter_cons,O,if_true,List.filter_nil,oX,OD];rw[h.mk2]
  rw[O0 J];have O:J0 aa (E.tup.getD i [])=false:=by rw[pre i (Lu _)];exact eq_false_of_ne_true J
  rw[Mg,O0 (by rw[O];simp),Nv,h.mk2];simp
 .rw[T,qW,h.ed];congr 1;unfold grid;refine J4 λj H=>?_;rw[ML]at H;rw[g1];exact(Qf7 oa (h.cl j oa)).symm
 by_cases e2:j=i
 .subst e2;exact Z
 have:=(h.cl j oa).pre (r:=r) oa;rw[<-g1]at this;exact this
theorem QcS {aa:List QU}:∀(f i:Nat) (s E:Sy),SyG aa i s->syL aa f i s=some E->∃H,SyG aa H E/\(E.tup.length=H\/H=i+f)
 | 0,i,s,E,h,e=>by cases e;exact⟨i,h,.inr U⟩
 | f+1,i,s,E,h,e=>by
  rw[syL]at e;split at e
  .rename_i hi;obtain⟨I,J,O⟩:=MZ.1 e;obtain⟨H,S,T⟩:=QcS f (i+1) I E (h.next hi J) O;exact⟨H,S,oa⟩
  cases e;exact⟨i,h,.inl (ov h.le)⟩
structure SyP (aa:List QU)(A:QU)(Q:List (LI)):Prop where
 al:A.al=evs aa
 st:A.st=(Q.length:Int)
 nd:Q.Nodup
 v:∀t∈Q,Vt aa t
 le:Q.length<=4096
 hd:0<Q.length->Q.getD 0 []=oK aa.length 0
 mk2:A.mr=((oS 0 Q.length).filter λj=>J0 aa (Q.getD j [])).map λj:Nat=>(j:Int)
 ed:A.ed=grid (syF aa Q) (evs aa) Q.length
 cl:∀j,j<Q.length->Clo aa Q j (evs aa)
theorem JM (O:∀a∈aa,Zo a){A:QU}{Q:List (LI)}(h:xz aa=some (A,Q)):SyP aa A Q/\(Q.length=0↔∃a∈aa,a.st=0):=by
 have H:=zZ O h;unfold xz at h;split at h
 .rename_i I;cases h
  exact⟨⟨U,U,oe,oe,oe,λh=>by simp at h,oe,by simp[grid],λj J=>by simp at J⟩,oA I⟩
 rename_i I;obtain⟨s,S,T⟩:=MH.1 h;have V:SyG aa 0 (sy0 aa):=⟨by simp[sy0],oe,⟨by simp[sy0],by simp[sy0]⟩,by simp[sy0],by simp[sy0,grid],λj J=>oa⟩;obtain⟨Y,E,h4⟩:=QcS 4096 0 (sy0 aa) s V S;cases T
 have Z:Y=s.tup.length:=by
  have h5:=E.le;have h6:=H.2;simp only[]at h6;omega
 subst Z;refine⟨⟨rfl,U,E.nd,H.1,H.2,λ_=>E.hd.1,E.mk2,E.ed,E.cl⟩,?_⟩;have:=E.hd.2;constructor
 .intro h;have h7:s.tup.length=0:=h;omega
 intro h;exact O3 h I
theorem SyP.to {A:QU}{Q:List (LI)}(h:SyP aa A Q)(H:j<Q.length){v:Int}(I:v∈evs aa)(hu:Y2 v aa (Q.getD j [])=some u):Q.idxOf u<Q.length/\Q.getD (Q.idxOf u) []=u:=by
 have E:=MR (h.cl j H v I u hu);refine⟨E,?_⟩;simp[oQ,E]
theorem SyP.okay (H:∀a∈aa,Zo a){A:QU}{Q:List (LI)}(h:SyP aa A Q):Zo A:=by
 have V:=h.le;refine⟨λe E=>?_,by rw[h.al];exact Qg6 H,by rw[h.st];omega,by rw[h.st];omega,λs I=>?_,?_,λe E=>?_,by rw[h.ed];exact QgX (Qqi aa Q) (Qg6 H) _⟩
 .rw[h.al]at E;obtain⟨a,S,hx⟩:=(Qg5 H e).1 E;exact(H a S).al e hx
 .rw[h.mk2]at I;simp only[OB,OL,OC]at I;obtain⟨i,⟨hi,_⟩,rfl⟩:=I;rw[h.st];omega
 .rw[h.mk2];unfold Yp;rw[MC];refine List.Pairwise.sublist Na ?_;exact(Nt (s:=0) (n:=Q.length)).imp (λh=>oa)
 rw[h.ed]at E;obtain⟨j,v,T,J,O⟩:=QdF E;unfold syF at O;obtain⟨u,hu,rfl⟩:=MH.1 O;have:=(h.to T J hu).1;rw[h.st,h.al];exact⟨og,og,J,og,og⟩
theorem Qol [Fu sV g fn]{cap:LV}{q:Ed->Bool}{v:O9}{es:List Ed}(h:zW L ↑w v es)
  (hk:∀(e:Ed) (E:O8),sW w E->QZ sV g ([sT (Qz e)]++cap) E λr w'=>r=.bool (q e)/\sW E w'):
  QZ sV 331 [v,.func (.func g) #[] cap.toArray] w λr w'=>sW w w'/\IxQ q es r :=
 (ixG (c:=Qz) ⟨_,U,func331⟩ (λ_=>U) (ldA λ_=>U) h λe _=>hk e).S λ_ _ ⟨H,I⟩=>⟨I,H ▸ Qon q es⟩
theorem QkV [Fu sV gp fn]{cap:LV}{q:Int->Bool}{v:O9}(h:Zk L ↑w v l.length 1 (l.flatMap U5))
  (hk:∀e∈l,∀(E:O8),sW w E->QZ sV gp ([sS e]++cap) E λr w'=>r=.bool (q e)/\sW E w'):
  QZ sV 66 [v,.func (.func gp) #[] cap.toArray] w λr w'=>r=sS (fix q 0 l)/\sW w w' :=
 ixG ⟨_,U,func66⟩ Qk4 (ld1 λ_=>U) h hk
theorem Ql6 [Fu sV gp fn]{cap:LV}{q:Int->Bool}{v:O9}(h:Zk L ↑w v l.length 1 (l.flatMap U5))
  (hk:∀e∈l,∀(E:O8),sW w E->QZ sV gp ([sS e]++cap) E λr w'=>r=.bool (q e)/\sW E w'):
  QZ sV 133 [v,.func (.func gp) #[] cap.toArray] w λr w'=>r=.bool (l.any q)/\sW w w':=by
 refine Zt func133 ?_;refine Qc<|Qb<|Qj<|Qa<|Qbo<|(QkV h hk).S ?_;rintro r1 E ⟨rfl,H⟩;refine x (YI U U)<|Qb<|Qi ⟨[_],Lb,O2 Value.bool (yj q l 0),H⟩
theorem Qhj [Fu sV g fn]{cap:LV}{q:Int->Bool}{v:O9}{es:LI}(h:QG L ↑w v es)
  (hk:∀(e:Int) (E:O8),sW w E->QZ sV g ([sS e]++cap) E λr w'=>r=.bool (q e)/\sW E w'):
  QZ sV 133 [v,.func (.func g) #[] cap.toArray] w λr w'=>r=.bool (es.any q)/\sW w w' :=
 Ql6 (QG.fl h) λe _=>hk e
theorem Qgy (es:List Ed)(s v:Int):xw es s v=xw (Z2 es s) s v:=by
 induction es with
 | nil=>rfl
 | cons e es ih =>
  unfold Z2 at *;rw[Mg];by_cases h:e.1=s
  .rw[O1 (oA h),xw,xw,ih]
  rw[O0 (oA h),xw,O0 (λc=>h c.1),ih]
theorem Qe8:∀(l:List Ed) (s v:Int) (i:Nat) (hi:i<l.length),(∀e∈l,e.1=s)->(l[i]'hi).2.1=v->(∀m (E:m<i),(l[m]'oa).2.1≠v)->xw l s v=(l[i]'hi).2.2
 | e::l,s,v,0,_,H,I,_=>by rw[xw,O1 ⟨H e Lr,I⟩];rfl
 | e::l,s,v,i+1,hi,H,I,E=>by
  rw[xw,O0 (λc=>E 0 oa c.2)];exact Qe8 l s v i (oA hi) (λe J=>H e (Ll _ J)) I (λm O=>E (m+1) oa)
theorem Qkj:∀(l:List Ed) (s v:Int),(∀e∈l,e.2.1≠v)->xw l s v=-1
 | [],_,_,_=>rfl
 | e::l,s,v,h=>by rw[xw,O0 (λc=>h e Lr c.2)];exact Qkj l s v (λe E=>h e (Ll _ E))
theorem Qko {n:Int}(e:Ed)(w:O8)(H:QP ↑w b T [sS n]):
  QZ sV 332 ([sT (Qz e)]++[sP b]) w λr w'=>r=.bool (decide (e.2.1=n))/\sW w w':=by
 refine Zt func332 ?_;refine Qc<|Zg (Qz e) λb2 J E O I=>Qb<|Qc<|Qm U I U U<|Xe (H.J E) U U<|x (QW U U)<|Qb<|Qi ⟨[_],Lb,U,E⟩
theorem Qeo {st:Int}(h:zW L ↑w ve a.ed)(I:Zo a)(s v:Int)(ha:0<=s)(O:s<a.st):
  QZ sV 298 [.agg #[va,sS st,vm,ve],sS s,sS v] w λr w'=>r=sS (xw a.ed s v)/\sW w w':=by
 have hj:=I.st1;refine Zt func298 ?_;refine Qc<|Zg [va,sS st,vm,ve] λb3 w1 O hl hb=>Zg [sS v] λb5 w2 S hn hc=>Qb<|Qc<|QV (hb.J S) U U<|Qa<|Qx<|(QbN ((h.J O).J S) I.eds (λe E=>⟨(I.ed e E).1,ov (I.ed e E).2.1⟩) s ha oa).S ?_;rintro vo w3 ⟨T,hE⟩;refine Qb ?_;have hg:∀e∈Z2 a.ed s,e.1=s:=λe E=>(ZY E).2;rw[Qgy];refine Qj<|x (ZC (l:=[]) (l':=[.tmp 5]))<|Qx<|(Qol (q:=λe=>decide (e.2.1=v)) (cap:=[sP b5]) hE (λe V J=>Qko e V ((hc.J T).J J))).S ?_;rintro r4 V ⟨J,H⟩;have Y:=((O.I S).I T).I J;refine Or.elim H (λH=>?_) (λH=>?_)
 .obtain⟨rfl,hq⟩:=H;have e1:xw (Z2 a.ed s) s v=-1:=Qkj _ _ _ λe E=>by
   obtain⟨i,hi,rfl⟩:=LM E;simpa using hq i hi
  rw[e1];refine Qb<|Qd<|Qj<|Ye U U<|xe<|jE U ?_;refine Qc<|Qb<|Qi ⟨[sS (-1)],Lb,U,Y⟩
 obtain⟨i,hi,rfl,h1,h2⟩:=H;have e1:xw (Z2 a.ed s) s v=((Z2 a.ed s)[i]'hi).2.2:=Qe8 _ s v i hi hg (oA h1) (λm hm=>oA (h2 m hm));rw[e1];refine Qb<|Qd<|Qj<|Ye U U<|xe<|QY U (λZ=>O3 Z oa) (λZ=>?_);refine Qe<|Qj<|Qa<|xie (hE.J J) U U hi λhp hh=>x (Zp U)<|x (Qy (hh.fld 2 _ U) U)<|Qb<|Qi ⟨[_],Lb,U,Y⟩
def flw (a:QU):Int->LI->Int×Nat
 | s,[]=>(s,0)
 | s,v::u=>if xw a.ed s v<0 then(s,0)else((flw a (xw a.ed s v) u).1,(flw a (xw a.ed s v) u).2+1)
theorem QqJ (E:Zo a){v:Int}(h:¬xw a.ed s v<0):xw a.ed s v<a.st:=(E.ed _ (QbR oa)).2.2.2.2
theorem Qiq {vw:O9}{st:Int}(h:zW L ↑w ve a.ed)(H:QG L' ↑w vw u)(S:Zo a)(s:Int)(Z:0<=s)(T:s<a.st):
  QZ sV 260 [.agg #[va,sS st,vm,ve],sS s,vw] w λr w'=>r=.tuple #[sS (flw a s u).1,sS (flw a s u).2]/\sW w w':=by
 have hh:=H.le;refine Zt func260 ?_;refine Qc<|Zg [va,sS st,vm,ve] λb3 w1 T hi ha=>x Qh<|Qb<|Qd<|Qj<|QE H U<|Qa<|xe<|Q2 (α:=Nat×Int) [(1,1),(6,10),(13,27)] (λz=>[(1,sS z.2),(13,sS z.1)]) (λz w'=>z.1<=u.length/\0<=z.2/\z.2<a.st/\sW w1 w'/\flw a s u=((flw a z.2 (u.drop z.1)).1,(flw a z.2 (u.drop z.1)).2+z.1)) (λz=>u.length - z.1) (0,s) oB ⟨Lp _,Z,by assumption,xj.Y _ _,oe⟩ ?_;rintro⟨k,t⟩ g w2 ⟨hk,hb,hc,O,hf⟩;have I:=T.I O;refine Zi rfl U (λV=>?_) (λV=>?_)
 .refine Qt<|Qj<|Qa<|QE H U<|x Qh<|Qb ?_;rw[Lx oa]at hf;have he:k=u.length:=by have hj:¬(k:Int)<(u.length:Int):=V;omega
  refine Qi ⟨[sS t,sS u.length],oB,?_,I⟩;rw[hf,he];simp[flw,tup]
 have E:k<u.length:=oa
 rw[Zz E,flw]at hf;refine Qe<|Qd<|Qn<|Qj<|xii (H.J I) U U E λhl hg=>x (Qy hg U)<|x Qh<|Qb<|Qc<|QV (ha.J O) U U<|Qa<|Qa<|Qx<|(Qeo (h.J I) S t (u[k]'E) hb hc).S ?_;rintro r3 w3 ⟨rfl,Y⟩;refine Qb<|Qd<|Qj<|Ye U U<|xe<|QY rfl (λJ=>?_) (λJ=>?_)
 .rw[O1 J]at hf;refine Qj<|Qa<|x Qh<|Qb<|Qi ⟨[sS t,sS k],oB,?_,I.I Y⟩;rw[hf];simp[tup]
 rw[O0 J]at hf;refine Qe<|Qq<|Qa<|Qb<|Qq<|QH U U<|Qa<|xe<|⟨(k+1,xw a.ed t (u[k]'E)),og,oB,E,og,(QqJ S J),O.I Y,?_⟩;simp only[];rw[hf];simp;omega
def cks (a:QU)(s:Int):Int:=if Jt a≠0 then Jt a else if s<0\/a.st<=s then 2 else 0
theorem KH (h:ZE L ↑w va vm ve a)(s:Int):
  QZ sV 256 [.agg #[va,sS a.st,vm,ve],sS s] w λr w'=>r=sS (cks a s)/\sW w w':=by
 refine Zt func256 ?_;refine Qc<|Zg [va,sS a.st,vm,ve] λb2 Y O Z S=>Qb<|Qd<|Qc<|QV S U U<|Qx<|(XS (h.J O)).S ?_;rintro r2 V ⟨rfl,T⟩;refine Qb ?_;unfold cks;have E:=O.I T;refine Qj<|Zu U U<|xe<|QY rfl (λH=>?_) (λH=>?_)
 .refine Qj<|Qb<|Qi ⟨[_],Lb,by rw[O1 H];rfl,E⟩
 rw[O0 H];refine Qe<|Qd<|QX (α:=Unit) [(11,18)] (λz=>[(18,.bool (decide (s<0\/a.st<=s)))]) (λz w'=>w'=V) om ?_ ?_
 .refine Qq<|Qa<|xb (YA U U) (λI=>?_) (λI=>?_)
  .refine Qa<|Zm<|K4<|QB U<|xe ?_;exact⟨(),⟨by rw[O4 (Or.inl I)];rfl,La⟩,U⟩
  refine Qa<|Qa<|Qm U (S.J T) U U<|x (YI U U)<|QB U<|xe ?_;exact⟨(),⟨by show Value.bool (decide (a.st<=s))=_;simp[I],La⟩,rfl⟩
 rintro z g w3 rfl;refine QY rfl (λJ=>?_) (λJ=>?_)
 .refine Qc<|Qb<|Qi ⟨[_],Lb,by rw[O1 J];rfl,E⟩
 refine Qe<|Qc<|Qb<|Qi ⟨[_],Lb,by rw[O0 J];rfl,E⟩
theorem Qd6 (h:cks a s=0):Zo a/\0<=s/\s<a.st:=by
 unfold cks at h;split at h
 .rename_i E;exact O3 h E
 rename_i E;split at h
 .cases h
 rename_i H;exact⟨(Z0 a).1 (Lq.1 E),oa,oa⟩
theorem Qnv (e:Int)(w:O8)(E:QP ↑w b T (va::us))(hA:QG L ↑w va al):
  QZ sV 259 ([sS e]++[sP b]) w λr w'=>r=.bool (decide (e∉al))/\sW w w':=by
 refine Zt func259 ?_;refine Qc<|Qb<|Qc<|Qm U E U U<|Qa<|Qx<|(Yn hA e).S ?_;rintro r1 H ⟨rfl,rfl⟩;refine x (Zr U)<|Qb<|Qi ⟨[_],Lb,?_,xj.Y _ _⟩;show Value.bool (!decide (e∈al))=_;rw[decide_not]
def Qnu (a:QU)(s:Int)(u:LI):Int:=if cks a s≠0 then cks a s else if(u.any λe=>decide (e∉a.al))=true then 9 else 0
theorem QrV {vw:O9}(h:ZE L ↑w va vm ve a)(V:QG L' ↑w vw u)(s:Int):
  QZ sV 194 [.agg #[va,sS a.st,vm,ve],sS s,vw] w λr w'=>sW w w'/\r=if Qnu a s u≠0 then .tuple #[sS 0,sS 0,sS (Qnu a s u)]else .tuple #[sS (flw a s u).1,sS (flw a s u).2,sS 0]:=by
 refine Zt func194 ?_;refine Qc<|Zg [va,sS a.st,vm,ve] λb3 w1 Y hb O=>x Qh<|x Qh<|Qb<|Qd<|Qc<|QV O U U<|Qa<|Qx<|(KH (h.J Y) s).S ?_;rintro r2 w2 ⟨rfl,S⟩;refine Qb ?_;have H:=Y.I S;unfold Qnu;refine Qj<|Zu U U<|xe<|QY rfl (λE=>?_) (λE=>?_)
 .refine Qj<|x Qh<|x Qh<|Qb<|Qi ⟨[_,_,_],oC,H,by rw[O1 E,O1 E];rfl⟩
 have hc:cks a s=0:=Lq.1 E;obtain⟨ho,h0,h1⟩:=Qd6 hc;rw[O0 E];refine Qe<|Qd<|Qj<|x (ZC (l:=[]) (l':=[.tmp 3]))<|Qx<|(Qhj (q:=λe=>decide (e∉a.al)) (cap:=[sP b3]) (V.J H) (λe Z I=>Qnv e Z ((O.J S).J I) ((h.al.J H).J I))).S ?_;rintro r3 w3 ⟨rfl,ha⟩;refine xe ?_;have J:=H.I ha;refine Q6 rfl (λT=>?_) (λT=>?_)
 .rw[O1 T];refine Qc<|x Qh<|x Qh<|Qb<|Qi ⟨[_,_,_],oC,J,by rw[O1 oh];rfl⟩
 rw[O0 (by rw[T];simp)];refine Qe<|Qc<|QV ((O.J S).J ha) U U<|Qa<|Qa<|Qx<|(Qiq (h.ed.J J) (V.J J) ho s h0 h1).S ?_;rintro r4 Z ⟨rfl,I⟩;refine Qa<|x (Zw U U) <|
  QS rfl rfl<|x Qh<|Qb<|Qj<|Qa<|x Qh<|x Qh<|Qb<|Qi ⟨[_,_,_],oC,J.I I,U⟩
def enb (a:QU)(s:Int):LI:=(Z2 a.ed s).map (·.2.1)
theorem Qlv {l:List Ed}{k:Nat}(h:k<l.length):(l.take (k+1)).map (·.2.1)=(l.take k).map (·.2.1)++[(l[k]'h).2.1]:=by
 rw[List.take_add_one,LE h,Ls];rfl
theorem Qf1 (h:ZE L ↑w va vm ve a)(s:Int):
  QZ sV 186 [.agg #[va,sS a.st,vm,ve],sS s] w λr w'=>sW w w'/\∃v,r=.tuple #[v,sS (cks a s)]/\(cks a s≠0->v=ZD)/\(cks a s=0->Qp 3 ↑w w' v (enb a s)):=by
 refine Zt func186 ?_;refine Qc<|Zg [va,sS a.st,vm,ve] λb2 w1 ha h3 hg=>x Qh<|Qb<|Qd<|Qc<|QV hg U U<|Qa<|Qx<|(KH (h.J ha) s).S ?_;rintro r2 w2 ⟨rfl,hh⟩;refine Qb ?_;have S:=ha.I hh;refine Qj<|Zu U U<|xe<|QY rfl (λT=>?_) (λT=>?_)
 .refine Qj<|x Qh<|Qb<|Qi ⟨[ZD,_],oB,S,ZD,U,λ_=>U,λe=>O3 e T⟩
 have hc:cks a s=0:=Lq.1 T;obtain⟨H,h0,h1⟩:=Qd6 hc;have h4:=H.st1;rw[hc];refine Qe<|Qc<|Qb<|Qd<|Qc<|QV (hg.J hh) U U<|Qa<|Qx<|(QbN (h.ed.J S) H.eds (λe he=>⟨(H.ed e he).1,ov (H.ed e he).2.1⟩) s h0 oa).S ?_;rintro vo w3 ⟨hj,hE⟩;refine QE hE U<|Qa<|xe ?_;have hi:=S.I hj;have hl:=hi.size;have hm:=VE a.ed s;have h5:=H.ed_le;refine Zd (Z2 a.ed s) λos I=>?_;rw[I]at hE hm;refine Q2 (α:=Nat×O9) [(7,7),(9,9),(20,29)] (λz=>[(7,z.2),(20,sS z.1)]) (λz w'=>z.1<=os.length/\sW w3 w'/\Qp 3 ↑w3 w' z.2 ((os.take z.1).map (·.2.1))) (λz=>os.length - z.1) (0,nS) ⟨U,by rw[I];rfl,La⟩ ⟨Lp _,xj.Y _ _,QI _ _ _ _⟩ ?_;rintro⟨k,v⟩ g w4 ⟨hk,O,J⟩;simp only[]at hk J;have h6:=O.size;refine Zi rfl U (λV=>?_) (λV=>?_)
 .refine Qt<|Qj<|x Qh<|Qb ?_;rw[Lt (by rw[I]at V;omega)]at J;refine Qi ⟨[v,_],oB,hi.I O,v,U,λe=>O3 U e,λ_=>?_⟩;unfold enb;rw[I];exact Zv J hl
 have E:k<os.length:=by rw[I]at V;omega
 refine Qe<|Qd<|Qn<|Qc<|xie (hE.J O) U U E λh7 hn=>x (Qu hn U U)<|QL [sS 0,sS 0,sS 0] λb9 w5 hp hq hr=>QJ (Qz (os[k]'E)) hr oC λw6 hs ht =>
  xe ?_
 have Y:sW w4 w6:=hp.Q hs hq;have hv:=Ql J Y;refine Qq<|Qa<|Qm U ht U U<|Qo<|XQ (us:=[[sS (os[k]'E).2.1]]) U U oh oe ⟨rfl,rfl,La⟩ λh8 w7 Z h9 hw=>?_;have hy:=Ql hv Z;have hA:=(Y.I Z).size;have hB:((os.take k).map (·.2.1)).length<=131072:=by simp;omega
 refine Qo<|Q9 (news:=[sS (os[k]'E).2.1]) (L:=[]) hy U U U (hw.at oe) oq oa oa λv8 w8 hz h2 hC=>Qb<|Qq<|QH rfl rfl<|Qa<|xe<|⟨(k+1,v8),og,oB,E,((O.I Y).I Z).G h2 (λb hb=>.inr ((Qg J) b hb).1),?_⟩;simp only[];rw[Qlv E];exact Qp.snoc hz
section
variable {pS:String}
end
inductive Pu where
 | pl (l:xD)
 | f2 (pre:xD) (i j:Nat) (t1 t2:Pu)
 | f3 (pre:xD) (i j k:Nat) (t1 t2 t3:Pu)
def Pu.len:Pu->Nat
 | .pl l=>l.length
 | .f2 pre _ _ t1 _=>pre.length+(1+t1.len)
 | .f3 pre _ _ _ t1 _ _=>pre.length+(1+t1.len)
def QbL (all:Array Oper):Pu->Array Bool->Bool
 | .pl l,ls=>XK all l ls
 | .f2 pre i j t1 t2,ls=>K6 all pre ls && Region.ready .any all (Yv pre ls) == [i,j] && t1.len == t2.len && QbL all t1 ((Yv pre ls).setIfInBounds i true) && QbL all t2 ((Yv pre ls).setIfInBounds j true)
 | .f3 pre i j k t1 t2 t3,ls=>K6 all pre ls && Region.ready .any all (Yv pre ls) == [i,j,k] && t1.len == t2.len && t1.len == t3.len && QbL all t1 ((Yv pre ls).setIfInBounds i true) && QbL all t2 ((Yv pre ls).setIfInBounds j true) && QbL all t3 ((Yv pre ls).setIfInBounds k true)
def Qsv (all:xK)(t:Pu):Bool:=Region.noSelect all.toArray && t.len == all.length && QbL all.toArray t (oW all.length false)
def XE (P:xh)(all:xK)(C:xH)(i:Nat)(N:xG)(f:Fr)(w:O8):Prop:=Z4 all f (Za all i)=true/\XO P (Za all i) f w λE w'=>C w'/\N E w'
def XU (P:xh)(all:xK)(C:xH)(K:xG):Pu->Fr->O8->Prop
 | .pl l=>XP P all C K l
 | .f2 pre i j t1 t2=>XP P all C (λf w=>XE P all C i (XU P all C K t1) f w/\XE P all C j (XU P all C K t2) f w) pre
 | .f3 pre i j k t1 t2 t3=>XP P all C (λf w=>XE P all C i (XU P all C K t1) f w/\XE P all C j (XU P all C K t2) f w/\XE P all C k (XU P all C K t3) f w) pre
section
variable {all:xK}{C:xH}{B:xG}
theorem KZ (E:Region.noSelect all.toArray=true):∀(t:Pu) (ls:Array Bool) (f:Fr) (w:O8),ls.size=all.length->C w->QbL all.toArray t ls=true->XU P all C K t f w->XA P all C K t.len ls f w
 | .pl l,ls,f,w,T,hC,H,h=>YG E l ls f w T (.inl hC) H h
 | .f2 pre i j t1 t2,ls,f,w,T,hC,H,h=>by
  simp only[QbL,oO,beq_iff_eq]at H;obtain⟨⟨⟨⟨V,I⟩,Y⟩,Z⟩,h2⟩:=H;rw[Pu.len];refine XB (B:=λf w=>XE P all C i (XU P all C K t1) f w/\XE P all C j (XU P all C K t2) f w) E pre ls f w hC V (λf J=>?_) h;have O:∀k,((Yv pre ls).setIfInBounds k true).size=all.length:=λk=>by simp[XJ,T]
  rw[Ny 1];refine V9 (λh0=>(by rw[h0]at I;cases I)) ?_;rw[I];intro k hk o S;simp only[oM,oL,or_false]at hk;rcases hk with rfl|rfl
  .have:=J.1;unfold XE at this;rw[ZQ S]at this;rw[this.1,cond_true];exact this.2.S λv w' hx=>⟨.inr (.inr hx.1),KZ E t1 _ _ _ (O _) hx.1 Z hx.2⟩
  have:=J.2;unfold XE at this;rw[ZQ S]at this;rw[this.1,cond_true,Y];exact this.2.S λv w' hx=>⟨.inr (.inr hx.1),KZ E t2 _ _ _ (O _) hx.1 h2 hx.2⟩
 | .f3 pre i j k t1 t2 t3,ls,f,w,T,hC,H,h=>by
  simp only[QbL,oO,beq_iff_eq]at H;obtain⟨⟨⟨⟨⟨⟨V,I⟩,Y⟩,ha⟩,Z⟩,h2⟩,h3⟩:=H;rw[Pu.len];refine XB (B:=λf w=>XE P all C i (XU P all C K t1) f w/\XE P all C j (XU P all C K t2) f w/\XE P all C k (XU P all C K t3) f w) E pre ls f w hC V (λf J=>?_) h;have O:∀k,((Yv pre ls).setIfInBounds k true).size=all.length:=λk=>by simp[XJ,T]
  rw[Ny 1];refine V9 (λh0=>(by rw[h0]at I;cases I)) ?_;rw[I];intro q hk o S;simp only[oM,oL,or_false]at hk;rcases hk with rfl|rfl|rfl
  .have:=J.1;unfold XE at this;rw[ZQ S]at this;rw[this.1,cond_true];exact this.2.S λv w' hx=>⟨.inr (.inr hx.1),KZ E t1 _ _ _ (O _) hx.1 Z hx.2⟩
  .have:=J.2.1;unfold XE at this;rw[ZQ S]at this;rw[this.1,cond_true,Y];exact this.2.S λv w' hx=>⟨.inr (.inr hx.1),KZ E t2 _ _ _ (O _) hx.1 h2 hx.2⟩
  have:=J.2.2;unfold XE at this;rw[ZQ S]at this;rw[this.1,cond_true,ha];exact this.2.S λv w' hx=>⟨.inr (.inr hx.1),KZ E t3 _ _ _ (O _) hx.1 h3 hx.2⟩
theorem Qpv {Q:Exit->Fr->O8->Prop}(C:xH)(t:Pu)(I:P.follows .mixedOrders=true)(J:J6 n all=true)(E:Qsv all t=true)
  (hC:C { w with drawn:=w.drawn+1 }) (h:XU P all C (λf w=>Q .normal f w) t f { w with drawn:=w.drawn+1 }):W P n (.region id all.toArray true) Q f w:=by
 simp only[Qsv,oO,beq_iff_eq]at E;obtain⟨⟨O,S⟩,E⟩:=E;refine Xv C I J ?_;have H:=KZ O t _ _ _ oe hC E h;rw[S]at H;exact H
theorem uP {l:xD}(h:XP P all C K l f w):XU P all C K (.pl l) f w:=h
theorem u2 {pre:xD}{E H:Pu}(h:XP P all C (λf w=>XE P all C i (XU P all C K E) f w/\XE P all C j (XU P all C K H) f w) pre f w):XU P all C K (.f2 pre i j E H) f w:=h
theorem u3 {pre:xD}{k:Nat}{E H I:Pu}(h:XP P all C (λf w=>XE P all C i (XU P all C K E) f w/\XE P all C j (XU P all C K H) f w/\XE P all C k (XU P all C K I) f w) pre f w):XU P all C K (.f3 pre i j k E H I) f w:=h
theorem ue {N:xG}(h:XO P (Za all i) f w λE w'=>C w'/\N E w')(H:Z4 all f (Za all i)=true:=by rfl):XE P all C i N f w:=⟨H,h⟩
end
attribute [irreducible] XU XE
def cnF (ord:LI)(j:Nat)(e:Ed):Ed:=((j:Int),e.2.1,(ord.idxOf e.2.2:Int))
def cnR (a:QU)(ord:LI)(j:Nat):List Ed:=(Z2 a.ed (Yb ord j)).map (cnF ord j)
theorem QdH {r:LI}(h:j<l.length):Yb (l++r) j=Yb l j:=by unfold Yb;rw[MK];exact jx h
structure NuI (st:Int)(ord num:LI):Prop where
 nd:ord.Nodup
 bd:∀s∈ord,0<=s/\s<st
 nl:num.length=st.toNat
 nu:∀k,0<=k->k<st->Yb num k=if k∈ord then(ord.idxOf k:Int)else -1
theorem QeO {st:Int}{c:Cs}(h:NuI st c.ord c.num){e:Ed}(O:0<=e.2.2)(S:e.2.2<st):NuI st (ZB i c e).ord (ZB i c e).num/\(∃r,(ZB i c e).ord=c.ord++r)/\(ZB i c e).mk'=c.mk'/\(ZB i c e).ed=c.ed++[cnF (ZB i c e).ord i e]/\e.2.2∈(ZB i c e).ord:=by
 have H:=h.nu e.2.2 O S;have V:e.2.2.toNat<c.num.length:=by rw[h.nl];omega
 unfold ZB;by_cases I:e.2.2∈c.ord
 .rw[O1 I]at H;rw[O0 (by rw[H];omega)];refine⟨h,⟨[],oe⟩,rfl,?_,I⟩;simp only[cnF];rw[H]
 rw[O0 I]at H;rw[O1 (by rw[H];decide)];have T:(c.ord++[e.2.2]).idxOf e.2.2=c.ord.length:=by rw[MJ,O0 I];simp
 refine⟨⟨yV h.nd I,λs E=>?_,by simp[h.nl],λk Y k1=>?_⟩,⟨[e.2.2],rfl⟩,rfl,?_,oe⟩
 .rcases Lh.1 E with E|E
  .exact h.bd s E
  simp only[oJ]at E;subst E;exact⟨O,S⟩
 .simp only[];by_cases ek:k=e.2.2
  .subst ek;rw[O1 oe,T];unfold Yb;simp[oQ,List.getElem?_set_self V]
  have Z:e.2.2.toNat≠k.toNat:=oa
  have e1:Yb (c.num.set e.2.2.toNat c.ord.length) k=Yb c.num k:=by unfold Yb;simp[oQ,OE Z]
  rw[e1,h.nu k Y k1];by_cases hk:k∈c.ord
  .rw[O1 hk,O1 (L7 _ hk),MJ,O1 hk]
  rw[O0 hk,O0 (λha=>by
   rcases Lh.1 ha with J|J
   .exact hk J
   simp only[oJ]at J;exact ek J)]
 simp only[cnF];rw[T]
theorem yz {st:Int}{i:Nat}:∀(es:List Ed) (c:Cs),NuI st c.ord c.num->(∀e∈es,0<=e.2.2/\e.2.2<st)->NuI st (es.foldl (ZB i) c).ord (es.foldl (ZB i) c).num/\(∃r,(es.foldl (ZB i) c).ord=c.ord++r)/\(es.foldl (ZB i) c).mk'=c.mk' /\
  (es.foldl (ZB i) c).ed=c.ed++es.map (cnF (es.foldl (ZB i) c).ord i)/\∀e∈es,e.2.2∈(es.foldl (ZB i) c).ord
 | [],c,h,_=>⟨h,⟨[],oe⟩,rfl,oe,λe I=>by cases I⟩
 | e::es,c,h,E=>by
  obtain⟨J,b1⟩:=E e Lr;obtain⟨O,⟨r1,S⟩,T,V,H⟩:=QeO (i:=i) h J b1;obtain⟨k1,⟨r2,k2⟩,k3,Y,Z⟩:=yz (i:=i) es (ZB i c e) O (λd hd=>E d (Ll _ hd));rw[LZ];refine⟨k1,⟨r1++r2,by rw[k2,S,LD]⟩,k3.I T,?_,λd hd=>?_⟩
  .rw[Y,V,LD,LO];have:cnF (ZB i c e).ord i e=cnF (es.foldl (ZB i) (ZB i c e)).ord i e:=by
    unfold cnF;rw[k2,MJ,O1 H]
   rw[this];rfl
  rcases Lk.1 hd with rfl|hd
  .rw[k2];exact L7 _ H
  exact Z d hd
structure CnG (a:QU)(i:Nat)(c:Cs):Prop where
 nu:NuI a.st c.ord c.num
 le:i<=c.ord.length
 hd:Yb c.ord 0=0/\0<c.ord.length
 mk2:c.mk'=((oS 0 i).filter λj:Nat=>decide (Yb c.ord j∈a.mr)).map λj:Nat=>(j:Int)
 ed:c.ed=(oS 0 i).flatMap (cnR a c.ord)
 cl:∀j,j<i->∀e∈Z2 a.ed (Yb c.ord j),e.2.2∈c.ord
theorem Qpb {ord r:LI}(E:j<ord.length)(H:∀e∈Z2 a.ed (Yb ord j),e.2.2∈ord):cnR a (ord++r) j=cnR a ord j:=by
 unfold cnR;rw[QdH E];refine MU λe I=>?_;unfold cnF;rw[MJ,O1 (H e I)]
theorem CnG.next (T:Zo a){c:Cs}(h:CnG a i c)(hi:i<c.ord.length):CnG a (i+1) (zM a i c):=by
 unfold zM;have J:(Ym a i c).ord=c.ord:=by unfold Ym;split <;> rfl
 have V:(Ym a i c).num=c.num:=by unfold Ym;split <;> rfl
 have Y:(Ym a i c).ed=c.ed:=by unfold Ym;split <;> rfl
 obtain⟨k1,⟨r,k2⟩,k3,I,O⟩:=yz (st:=a.st) (i:=i) (Z2 a.ed (Yb c.ord i)) (Ym a i c) (by rw[J,V];exact h.nu) (λe Z=>(T.ed e (ZY Z).1).2.2.2);generalize (Z2 a.ed (Yb c.ord i)).foldl (ZB i) (Ym a i c)=d at k1 k2 k3 I O;rw[J]at k2;rw[Y]at I;have pre:∀j:Nat,j<=i->Yb d.ord j=Yb c.ord j:=λj E=>by rw[k2];exact QdH oa
 refine⟨k1,by rw[k2];simp;omega,⟨by have:=pre 0 oa;rw[show((0:Nat):Int)=0 from rfl]at this;rw[this];exact h.hd.1,by rw[k2];simp;omega⟩,?_,?_,λj E=>?_⟩
 .rw[k3,MI,Mc,Ls,LS];have e1:((oS 0 i).filter λj:Nat=>decide (Yb d.ord j∈a.mr))=(oS 0 i).filter λj:Nat=>decide (Yb c.ord j∈a.mr):=by
   refine List.filter_congr λj E=>?_;rw[ML]at E;rw[pre j oa]
  rw[e1];unfold Ym;by_cases H:Yb c.ord i∈a.mr
  .rw[O1 H];simp only[];rw[Mg,O1 (by rw[pre i (Lu _)];exact O4 H),Nv,h.mk2];rfl
  rw[O0 H];rw[Mg,O0 (by rw[pre i (Lu _),O6 H];simp),Nv,h.mk2];simp
 .rw[I,MI,LC,LS,h.ed];congr 1
  .refine J4 λj E=>?_;rw[ML]at E;rw[k2];exact(Qpb oa (h.cl j oa)).symm
  simp only[Od,OS,Ol];unfold cnR;rw[pre i (Lu _)]
 by_cases e:j=i
 .subst e;rw[pre j (Lu _)];exact O
 intro d' S;rw[pre j oa]at S;rw[k2];exact L7 _ (h.cl j oa d' S)
theorem Qba {a:QU}(H:Zo a):∀(f i:Nat) (c:Cs),CnG a i c->∃E,CnG a E (Jd a f i c)/\((Jd a f i c).ord.length=E\/E=i+f)
 | 0,i,c,h=>⟨i,h,.inr U⟩
 | f+1,i,c,h=>by
  rw[Jd];split
  .rename_i hi;obtain⟨E,I,J⟩:=Qba H f (i+1) _ (h.next H hi);exact⟨E,I,oa⟩
  exact⟨i,h,.inl (ov h.le)⟩
structure CnP (a:QU)(ord:LI):Prop where
 nd:ord.Nodup
 bd:∀s∈ord,0<=s/\s<a.st
 hd:Yb ord 0=0/\0<ord.length
 al:(Yg a).al=a.al
 st:(Yg a).st=(ord.length:Int)
 mk2:(Yg a).mr=((oS 0 ord.length).filter λj:Nat=>decide (Yb ord j∈a.mr)).map λj:Nat=>(j:Int)
 ed:(Yg a).ed=(oS 0 ord.length).flatMap (cnR a ord)
 cl:∀j,j<ord.length->∀e∈Z2 a.ed (Yb ord j),e.2.2∈ord
theorem QiN (J:Zo a)(h0:0<a.st):∃ord,CnP a ord:=by
 have O:0<a.st.toNat:=oa
 have S:CnG a 0 (YX a):=by
  refine⟨⟨by simp[YX],λs I=>by simp[YX]at I;subst I;omega,by simp[YX],λk k0 k1=>?_⟩,Lp _,⟨by simp[YX,Yb],by simp[YX]⟩,by simp[YX],by simp[YX],λj hj=>oa⟩;by_cases ek:k=0
  .subst ek;rw[O1 (by simp[YX])];unfold Yb YX;simp[oQ,O]
  rw[O0 (by simpa[YX]using ek)];unfold YX;have T:0≠k.toNat:=oa
  have V:k.toNat<a.st.toNat:=oa
  unfold Yb;rw[LR,MP T];simp[V]
 obtain⟨Y,E,h2⟩:=Qba J a.st.toNat 0 (YX a) S;have ha:(Jd a a.st.toNat 0 (YX a)).ord.length<=a.st.toNat:=xO _ _ E.nu.nd (λx hx=>ov (E.nu.bd x hx));have Z:Y=(Jd a a.st.toNat 0 (YX a)).ord.length:=by have:=E.le;omega
 subst Z;have H:Yg a=⟨a.al,((Jd a a.st.toNat 0 (YX a)).ord.length:Int),(Jd a a.st.toNat 0 (YX a)).mk',(Jd a a.st.toNat 0 (YX a)).ed⟩:=by unfold Yg;rw[O0 oa]
 refine⟨(Jd a a.st.toNat 0 (YX a)).ord,E.nu.nd,E.nu.bd,E.hd,by rw[H],by rw[H],?_,?_,E.cl⟩
 .rw[H];exact E.mk2
 rw[H];exact E.ed
section
variable {p s:QU}{pn xn v:Int}
end
open Go.RowKit
abbrev fen (ro:xL):Fence:={ Fence.wide with round:=ro }
def coll (ds:LN):List Deferred:=ds.map λD=>{ target:=.collected D,args:=#[] }
structure Xh (n:Nat)(ds:LN)(a:Act)(f:Fr):Prop where
 size:a.tmps.size=n
 defers:a.defers=coll ds
 get:∀t,a.tmps.getD t undef=f t
theorem Xh.rel {a:Act}(h:Xh n ds a f):Rel n { a with defers:=[] } f:=⟨h.size,U,h.get⟩
theorem Xh.eval {n:Nat}{ds:LN}{a:Act}{f:Fr}(h:Xh n ds a f):a.eval=ev f:=by
 have:=h.rel.eval;rw[<-this];funext x;cases x <;> rfl
theorem Xh.put {n:Nat}{ds:LN}{a:Act}{f:Fr}(h:Xh n ds a f){dst:xL}(hd:∀d,dst=some d->d<n)(v:O9):Xh n ds (a.put dst v) (QT f dst v):=by
 have:=h.rel.put hd v;cases dst with
 | none=>exact h
 | some d=>exact⟨this.size,h.defers,this.get⟩
def Jy:Code->Nat->Bool
 | .region _ ops _,t=>Yq ops.toList t
 | .seq a b,t=>Jy a t || Jy b t
 | .cond _ a b,t=>Jy a t || Jy b t
 | .block _ a,t=>Jy a t
 | .loop a,t=>Jy a t
 | .skip,_| .exit _,_| .label _,_| .goto _,_| .ret,_| .rangeFunc ..,_=>false
 | _,_=>true
def wrG (D:xE):Code->Bool
 | .region _ ops _=>Qf4 D ops.toList
 | .seq a b=>wrG D a && wrG D b
 | .cond _ a b=>wrG D a && wrG D b
 | .block _ a=>wrG D a
 | .loop a=>wrG D a
 | .skip| .exit _| .label _| .goto _| .ret| .rangeFunc ..=>true
 | _=>false
theorem Kl {D:xE}{t:Nat}(E:KD D t=false):∀c:Code,wrG D c=true->Jy c t=false
 | .region _ ops _,h=>Qah h E
 | .seq a b,h=>by simp only[wrG,oO]at h;simp[Jy,Kl E a h.1,Kl E b h.2]
 | .cond _ a b,h=>by simp only[wrG,oO]at h;simp[Jy,Kl E a h.1,Kl E b h.2]
 | .block _ a,h=>Kl E a (by simpa[wrG]using h)
 | .loop a,h=>Kl E a (by simpa[wrG]using h)
 | .skip,_=>rfl
 | .exit _,_=>rfl
 | .label _,_=>rfl
 | .goto _,_=>rfl
 | .ret,_=>rfl
 | .rangeFunc ..,_=>rfl
 | .scope _,h=>by simp[wrG]at h
 | .refuse _,h=>by simp[wrG]at h
def WG (ro:xL)(m:Nat)(P:xh)(n:Nat)(c:Code)(Q:Exit->LN->Fr->O8->Prop)(ds:LN)(f:Fr)(w:O8):Prop :=
 ∀a,Xh n ds a f->c.wpIn (fen ro) m P (λe E w'=>∃ds' f',Xh n ds' E f'/\(∀t,Jy c t=false->f' t=f t)/\Q e ds' f' w') a w
def QeK (K:LN->Fr->O8->Prop)(Q:Exit->LN->Fr->O8->Prop):Exit->LN->Fr->O8->Prop
 | .normal,ds,f,w=>K ds f w
 | e,ds,f,w=>Q e ds f w
def Qs9 (id:Nat)(Q:Exit->LN->Fr->O8->Prop):Exit->LN->Fr->O8->Prop
 | .exit i,ds,f,w=>bif OZ i id then Q .normal ds f w else Q (.exit i) ds f w
 | e,ds,f,w=>Q e ds f w
section
variable {ro:xL}{m:Nat}{Q:Exit->LN->Fr->O8->Prop}
theorem WG.S {c:Code}{Q':Exit->LN->Fr->O8->Prop}(h:WG ro m P n c Q ds f w)(E:∀e ds f w,Q e ds f w->Q' e ds f w):WG ro m P n c Q' ds f w :=
 λa H=>wpIn_mono (h a H) λ_ _ _ ⟨I,J,O,S,T⟩=>⟨I,J,O,S,E _ _ _ _ T⟩
theorem WG.keeps {c:Code}(h:WG ro m P n c Q ds f w):WG ro m P n c (λe H E w'=>(∀t,Jy c t=false->E t=f t)/\Q e H E w') ds f w :=
 λa J=>wpIn_mono (h a J) λ_ _ _ ⟨H,E,O,I,S⟩=>⟨H,E,O,I,I,S⟩
theorem YV (h:Q .normal ds f w):WG ro m P n .skip Q ds f w:=λ_ E=>wpIn_skip ⟨ds,f,E,λ_ _=>U,h⟩
theorem VU (h:Q (.exit i) ds f w):WG ro m P n (.exit i) Q ds f w:=λ_ E=>wpIn_exit ⟨ds,f,E,λ_ _=>U,h⟩
theorem VT (h:Q .ret ds f w):WG ro m P n .ret Q ds f w:=λ_ E=>wpIn_ret ⟨ds,f,E,λ_ _=>U,h⟩
theorem Zh {x y:Code}(h:WG ro m P n x (QeK (λds f w=>WG ro m P n y Q ds f w) Q) ds f w):WG ro m P n (.seq x y) Q ds f w:=by
 intro a S;refine wpIn_seq (wpIn_mono (h a S) ?_);rintro e T w' ⟨O,E,H,V,I⟩;have k1:∀t,Jy (.seq x y) t=false->E t=f t:=λt J=>V t (by simp only[Jy,Og]at J;exact J.1);cases e with
 | normal =>
  refine wpIn_mono (I T H) λ_ _ _ ⟨Y,Z,g1,g2,g3⟩=>⟨Y,Z,g1,λt J=>(g2 t ?_).I (k1 t J),g3⟩;simp only[Jy,Og]at J;exact J.2
 | exit id=>exact⟨O,E,H,k1,I⟩
 | goto l=>exact⟨O,E,H,k1,I⟩
 | ret=>exact⟨O,E,H,k1,I⟩
 | panic ch=>exact⟨O,E,H,k1,I⟩
 | outgrown=>exact⟨O,E,H,k1,I⟩
theorem QhF {x y:Code}(D:xE)(S:α->List (Nat×O9))(I:α->LN->O8->Prop)(hD:wrG D x=true)
  (T:WG ro m P n x (QeK (λE J w'=>∃z,XC J (S z)/\I z E w') Q) ds f w)
  (V:∀z g E w',I z E w'->WG ro m P n y Q E (zD (S z) (mix D f g)) w'):WG ro m P n (.seq x y) Q ds f w:=by
 refine Zh (T.keeps.S ?_);rintro e E J w' ⟨hk,H⟩;cases e with
 | normal =>
  obtain⟨z,Y,hi⟩:=H;have O:=V z J E w' hi;rw[VF (λt Z=>hk t (Kl Z x hD)),X4 Y]at O;exact O
 | exit id=>exact H
 | goto l=>exact H
 | ret=>exact H
 | panic ch=>exact H
 | outgrown=>exact H
theorem UH {c:xd}{x y:Code}{t:Bool}(I:ev f c=.bool t)(E:t=true->WG ro m P n x Q ds f w)(hf:t=false->WG ro m P n y Q ds f w):
  WG ro m P n (.cond c x y) Q ds f w:=by
 intro a H;have J:a.eval c=.bool t:=by rw[H.eval];exact I
 refine wpIn_cond_split J (λe=>wpIn_mono (E e a H) ?_) (λe=>wpIn_mono (hf e a H) ?_) <;>
  (rintro e Z w' ⟨O,S,T,V,Y⟩
   refine⟨O,S,T,λt E=>V t ?_,Y⟩;simp only[Jy,Og]at E
   first|exact E.1|exact E.2)
theorem QpA {c:xd}{x y:Code}{p:Prop}[Decidable p](E:ev f c=.bool (decide p))(H:p->WG ro m P n x Q ds f w)(hf:¬p->WG ro m P n y Q ds f w):
  WG ro m P n (.cond c x y) Q ds f w :=
 UH E (λe=>H (O5 e)) (λe=>hf (O7 e))
theorem Qbl {c:xd}{x y:Code}{p:Prop}[Decidable p](E:ev f c=.bool (decide p))(hf:¬p->WG ro m P n y Q ds f w)(H:p->WG ro m P n x Q ds f w):
  WG ro m P n (.cond c x y) Q ds f w:=QpA E H hf
theorem QcB {c:xd}{x y:Code}(E:ev f c=.bool true)(h:WG ro m P n x Q ds f w):WG ro m P n (.cond c x y) Q ds f w:=UH E (λ_=>h) (λe=>by cases e)
theorem Ue {c:xd}{x y:Code}(E:ev f c=.bool false)(h:WG ro m P n y Q ds f w):WG ro m P n (.cond c x y) Q ds f w:=UH E (λe=>by cases e) (λ_=>h)
theorem Z5 {c:Code}(h:WG ro m P n c (Qs9 id Q) ds f w):WG ro m P n (.block id c) Q ds f w:=by
 intro a O;refine wpIn_block (wpIn_mono (h a O) ?_);rintro e Y w' ⟨I,H,J,S,E⟩;have k1:∀t,Jy (.block id c) t=false->H t=f t:=λt T=>S t (by simpa[Jy]using T);cases e with
 | exit i =>
  simp only[Exit.inBlock];simp only[Qs9]at E;by_cases hi:i=id
  .subst hi;simp only[Nat.beq_refl,cond_true]at E;simp only[if_true];exact⟨I,H,J,k1,E⟩
  have V:OZ i id=false:=by
   cases e:OZ i id with
   | false=>rfl
   | true=>exact O3 (Nat.eq_of_beq_eq_true e) hi
  rw[V]at E;rw[O0 hi];exact⟨I,H,J,k1,E⟩
 | normal=>exact⟨I,H,J,k1,E⟩
 | goto l=>exact⟨I,H,J,k1,E⟩
 | ret=>exact⟨I,H,J,k1,E⟩
 | panic ch=>exact⟨I,H,J,k1,E⟩
 | outgrown=>exact⟨I,H,J,k1,E⟩
end
def QgA (l:xK):Bool:=l.all λo=>match o.op with| .defer _=>false|_=>true
theorem yW {l:xK}(h:QgA l=true):∀o∈l,∀c,o.op≠.defer c:=λo E c e=>by
 have:=My.1 h o E;rw[e]at this;cases this
section
variable {ro:xL}{m:Nat}
theorem QhA {a:Act}{K':Act->O8->Prop}{Q:Exit->Act->O8->Prop}(h:Xh n ds a f)(H:∀c,o.op≠.defer c)
  (hK:∀v w',K (QT f o.dst v) w'->K' (a.put o.dst v) w') (hx:XO P o f w K):o.wpIn (fen ro) m P a w K' Q:=by
 unfold XO at hx;refine⟨λ_ _=>trivial,?_⟩;have e:Oper.semAt (fen ro).round a.eval o=execOp (ev f) o:=by
  rw[h.eval];cases ro with
  | none=>rfl
  | some l=>exact Oper.semAt_some l _ _ H
 rw[e];generalize (execOp (ev f) o).run P w=r at hx;cases r with
 | ok nx w' =>
  cases nx <;> simp only[upF]at hx <;> simp only[Oper.uponIn]
  case value v=>exact hK v w' hx
  case skip=>exact hK _ w' hx
  case enter g args =>
   refine⟨λh=>by simp[Fence.wide]at h,?_⟩;refine(callsIn_wide (n:=m - 1)).2 (Calls.mono hx λe I E=>?_);cases e with
   | returned v=>exact hK v I E
   | panicked c=>exact E.elim
   | outgrown=>exact E.elim
 | halt x w'=>exact hx.elim
theorem Ur {l:xK}{a:Act}(h:Xh n ds a f)(E:∀o∈l,∀d,o.dst=some d->d<n)(o:Oper):Region.wanted o (yielded l.toArray a.tmps)=Z4 l f o:=qy h.rel E o
theorem QhB {Q:Exit->LN->Fr->O8->Prop}{all:xK}(H:∀o∈all,∀d,o.dst=some d->d<n)(hd:∀o∈all,∀c,o.op≠.defer c)(f0:Fr):
  ∀(l:xK) (k:Nat) (a:Act) (f:Fr) (w:O8),(∀j,l[j]?=all[k+j]?)->Xh n ds a f->(∀t,Yq all t=false->f t=f0 t) ->
   XL P all (λf w=>Q .normal ds f w) l f w ->
   wpOpsIn (fen ro) m P all.toArray (λe V w'=>∃ds' f',Xh n ds' V f'/\(∀t,Yq all t=false->f' t=f0 t)/\Q e ds' f' w') (oS k l.length) a w
 | [],_,a,f,w,_,E,hk,h=>⟨ds,f,E,hk,by unfold XL at h;exact h⟩
 | o::l,k,a,f,w,J,E,hk,h=>by
  have O:all[k]?=some o:=by simpa using(J 0).symm
  have I:o∈all:=MA O;have ih:=λa f w=>QhB (Q:=Q) H hd f0 l (k+1) a f w (λj=>by have:=J (j+1);simpa[OT,Nat.add_comm 1 j]using this);have next:∀v,(∀t,Yq all t=false->QT f o.dst v t=f0 t):=λv t S=>(Y9 (JU I S) v).I (hk t S);simp only[oV,OF,wpOpsIn,o0,O];rw[Ur E H o];unfold XL at h;cases T:Z4 all f o with
  | false =>
   rw[T]at h;exact⟨λ_ _=>trivial,ih _ _ _ (E.put (H o I) _) (next _) h⟩
  | true =>
   rw[T]at h;exact QhA E (hd o I) (λv w' hx=>ih _ _ _ (E.put (H o I) v) (next v) hx) h
theorem QM {Q:Exit->LN->Fr->O8->Prop}{l:xK}(E:J6 n l=true)(hd:QgA l=true)(h:XL P l (λf w=>Q .normal ds f w) l f w):WG ro m P n (.region id l.toArray false) Q ds f w:=by
 intro a H;refine wpIn_region ?_;have:=QhB (ro:=ro) (m:=m) (Jc E) (yW hd) f l 0 a f w oe H (λ_ _=>rfl) h;simpa[List.range_eq_range',Jy]using this
attribute [local semireducible] XA in
theorem Qcz {Q:Exit->Act->O8->Prop}{all:xK}{C:xH}{K:xG}(H:∀o∈all,∀d,o.dst=some d->d<n)(hd:∀o∈all,∀c,o.op≠.defer c)(f0:Fr)
  (I:∀a f w,Xh n ds a f->(∀t,Yq all t=false->f t=f0 t)->K f w->Q .normal a w):
  ∀(k:Nat) (ls:Array Bool) (a:Act) (f:Fr) (w:O8),Xh n ds a f->(∀t,Yq all t=false->f t=f0 t)->XA P all C K k ls f w->wpAnyIn (fen ro) m P .any all.toArray Q k ls a w
 | 0,_,a,f,w,E,hk,h=>⟨h.1,I a f w E hk h.2⟩
 | k+1,ls,a,f,w,E,hk,h=>by
  refine⟨λY=>I a f w E hk (h.1 Y),λi hi=>?_⟩;unfold wpOpIn;simp only[o0];cases S:all[i]? with
  | none =>
   exfalso;obtain⟨_,o,Z,_⟩:=mem_ready.1 hi;simp[S]at Z
  | some o =>
   have J:o∈all:=MA S;have O:=h.2 i hi o S;have next:∀v,(∀t,Yq all t=false->QT f o.dst v t=f0 t):=λv t T=>(Y9 (JU J T) v).I (hk t T);simp only[];rw[Ur E H o];cases V:Z4 all f o with
   | false =>
    rw[V]at O;exact⟨λ_ _=>trivial,Qcz H hd f0 I k _ _ _ _ (E.put (H o J) _) (next _) O⟩
   | true =>
    rw[V]at O;exact QhA E (hd o J) (λv w' hx=>Qcz H hd f0 I k _ _ _ _ (E.put (H o J) v) (next v) hx.2) O
theorem jM {Q:Exit->LN->Fr->O8->Prop}{all:xK}(C:xH)(H:P.follows .mixedOrders=true)(I:J6 n all=true)(hd:QgA all=true)
  (h:XA P all C (λf w=>Q .normal ds f w) all.length (oW all.length false) f { w with drawn:=w.drawn+1 }):WG ro m P n (.region id all.toArray true) Q ds f w:=by
 intro a J;refine wpIn_region_any H ?_;have O:=Qcz (ro:=ro) (m:=m) (n:=n) (ds:=ds) (Q:=λe S w'=>∃ds' E,Xh n ds' S E/\(∀t,Yq all t=false->E t=f t)/\Q e ds' E w') (Jc I) (yW hd) f
  (λa E w T hk V=>⟨ds,E,T,hk,V⟩) _ _ a f _ J (λ_ _=>U) h
 simpa[Jy]using O
theorem jN {Q:Exit->LN->Fr->O8->Prop}{all:xK}(C:xH)(pl:xD)(I:P.follows .mixedOrders=true)(J:J6 n all=true)(hd:QgA all=true)(E:yP all pl=true)
  (hC:C { w with drawn:=w.drawn+1 }) (h:XP P all C (λf w=>Q .normal ds f w) pl f { w with drawn:=w.drawn+1 }):WG ro m P n (.region id all.toArray true) Q ds f w:=by
 simp only[yP,oO,beq_iff_eq]at E;obtain⟨⟨O,S⟩,E⟩:=E;have H:=YG O pl _ _ _ oe (.inl hC) E h;rw[S]at H;exact jM C I J hd H
end
section
variable {ro:xL}{m:Nat}{Q:Exit->LN->Fr->O8->Prop}
theorem zC {F:Fence}{c:Code}{Q:Exit->Act->O8->Prop}{a:Act}(J:α->Act->O8->Prop)(μ:α->Nat)(z:α)(h₀:J z a w)
  (round:∀x a w,J x a w->c.wpIn F m P (Exit.then (λI w'=>∃O,μ O<μ x/\J O I w') Q) a w):(Code.loop c).wpIn F m P Q a w:=by
 intro b k cs V S T;have key:∀j x a w,μ x=j->J x a w ->
   ∃e I w',Q e I w'/\ArrivesIn (Machine.fenced P F) P (lone (b.atR a (.code c::.inLoop c::k)) cs w) b k cs e I w':=by
  intro j;induction j using Nat.strongRecOn with
  | _ j ih =>
   intro x a w Y Z;obtain⟨e,a₁,w₁,E,H⟩:=round x a w Z b (.inLoop c::k) cs V S T;cases e with
   | normal =>
    obtain⟨O,ha,hc⟩:=E;obtain⟨e₂,a₂,w₂,hq₂,harr₂⟩:=ih (μ O) (Y ▸ ha) O a₁ w₁ U hc;exact⟨e₂,a₂,w₂,hq₂,.of_steps (StepsIn.trans H (.one (fenced_calm S T U) stepR_inLoop)) harr₂⟩
   | exit id=>exact⟨_,a₁,w₁,E,.pass (x:=.inLoop c) U (λ_ _=>.inl oe) H⟩
   | goto l=>exact⟨_,a₁,w₁,E,.pass (x:=.inLoop c) U (λ_ _=>.inl oe) H⟩
   | ret=>exact⟨_,a₁,w₁,E,.pass (x:=.inLoop c) U (λ_ _=>.inl oe) H⟩
   | panic ch=>exact⟨_,a₁,w₁,E,.pass (x:=.inLoop c) U (λ_ _=>.inl oe) H⟩
   | outgrown=>exact⟨_,a₁,w₁,E,.pass (x:=.inLoop c) U (λ_ _=>.inl oe) H⟩
 obtain⟨e,I,w',E,H⟩:=key _ z a w U h₀;exact⟨e,I,w',E,.of_steps (.one (fenced_calm S T U) stepR_loop) H⟩
theorem zn {c:Code}(D:xE)(S:α->List (Nat×O9))(I:α->LN->O8->Prop)(μ:α->Nat)(hD:wrG D c=true)(z:α)
  (h0:XC f (S z)) (hI:I z ds w)
  (round:∀x g J w',I x J w'->WG ro m P n c (QeK (λE O hb=>∃Y,μ Y<μ x/\XC O (S Y)/\I Y E hb) Q) J (zD (S x) (mix D f g)) w'):WG ro m P n (.loop c) Q ds f w:=by
 intro a ha;refine zC (λ(x:α) Z w'=>∃J O,Xh n J Z O/\(∀t,Jy c t=false->O t=f t)/\XC O (S x)/\I x J w') μ z ⟨ds,f,ha,λ_ _=>U,h0,hI⟩ ?_;rintro x Z w' ⟨J,O,h1,h2,h3,h4⟩;have h5:=round x O J w' h4;rw[VF (λt T=>h2 t (Kl T c hD)),X4 h3]at h5;refine wpIn_mono (h5 Z h1) ?_;rintro e hc hb ⟨E,H,g1,g2,V⟩;have k1:∀t,Jy c t=false->H t=f t:=λt T=>(g2 t T).I (h2 t T);have k2:∀t,Jy (.loop c) t=false->H t=f t:=λt T=>k1 t (by simpa[Jy]using T);cases e with
 | normal=>obtain⟨Y,hm,hs,hi⟩:=V;exact⟨Y,hm,E,H,g1,k1,hs,hi⟩
 | exit id=>exact⟨E,H,g1,k2,V⟩
 | goto l=>exact⟨E,H,g1,k2,V⟩
 | ret=>exact⟨E,H,g1,k2,V⟩
 | panic ch=>exact⟨E,H,g1,k2,V⟩
 | outgrown=>exact⟨E,H,g1,k2,V⟩
end
def rqG (P:xh)(rs:List ResultVar)(R:O9->O8->Prop):Exit->LN->Fr->O8->Prop
 | .normal,ds,f,w=>(∀D∈ds,w.heap[D]?=some (.deferred (some [])))/\ds.Nodup/\∃vs,∀w',xj ds w w'->qt P f w' rs vs/\R (tup vs) w'
 | .ret,ds,f,w=>(∀D∈ds,w.heap[D]?=some (.deferred (some [])))/\ds.Nodup/\∃vs,∀w',xj ds w w'->qt P f w' rs vs/\R (tup vs) w'
 | _,_,_,_=>False
theorem xj.putObj (w:O8)(D:Nat)(o:Obj):xj [D] w (w.putObj D o):=⟨U,U,U,oe,λk _ hk=>World.putObj_heap_other (λe=>hk (by simp[e]))⟩
theorem y8 {F:Fence}{m:Nat}{P:xh}{fn:Func}{tmps:Array O9}{R:Ending->O8->Prop}:∀(ds:LN) (w:O8),(∀D∈ds,w.heap[D]?=some (.deferred (some [])))->ds.Nodup ->
  (∀w',xj ds w w'->∃v,(results fn tmps).run P w'=.ok v w'/\R (.returned v) w')->LeavesInM F m P fn tmps R (coll ds) .returning w
 | [],w,_,_,h=>h w (xj.Y _ _)
 | D::ds,w,hD,J,h=>by
  refine⟨oe,.inl ⟨D,_,rfl,run_takeDeferred (hD D Lr),?_⟩⟩;have I:=Nm.1 J;refine y8 ds _ (λE hE=>?_) I.2 (λw' O=>h w' ?_)
  .rw[World.putObj_heap_other (λe=>I.1 (by rw[<-e];exact hE))];exact hD E (Ll _ hE)
  exact((xj.putObj w D (.deferred none)).S (λb H=>by simp at H;simp[H])).V (O.S (λb H=>Ll _ H))
theorem QZ.of_G {c:Code}{args:LV}{R:O9->O8->Prop}{rs:List ResultVar}(m:Nat)
  (hf:P.funcs[g]?=some fn) (Y:fn.body=some c) (Z:fn.ntmps=n) (ha:fn.results=rs.toArray) (hl:args.length<=n)
  (h:WG none m P n c (rqG P rs R) [] (ent args) w):QZ P g args w R:=by
 unfold QZ;refine(callsIn_wide (n:=m)).1 (callsIn_of_wp_marks hf Y La (wpIn_mono (h _ ?_) ?_))
 .refine⟨by simp[Z];omega,U,λt=>?_⟩;have key:∀(l:LV) (t:Nat),l[t]?.getD undef=ent l t:=by
   intro l;induction l with
   | nil=>intro t;rfl
   | cons v l ih=>intro t;cases t with|zero=>rfl|succ t=>simpa[ent]using ih t
  rw[<-key];simp only[Array.getD_eq_getD_getElem?,Array.getElem?_append,Oc,o0];by_cases O:t<args.length
  .simp[O]
  simp[O,Array.getElem?_replicate];split <;> rfl
 rintro e J w' ⟨I,f',S,_,E⟩;have fin:((∀D∈I,w'.heap[D]?=some (.deferred (some [])))/\I.Nodup/\∃vs,∀H,xj I w' H->qt P f' H rs vs/\R (tup vs) H) ->
   LeavesInM Fence.wide m P fn J.tmps (λe w'=>match e with| .returned v=>R v w'|_=>False) J.defers .returning w':=by
  rintro⟨hd,hc,vs,T⟩;rw[S.defers];refine y8 I w' hd hc λH V=>⟨tup vs,?_,(T H V).2⟩;simp only[results,ha,List.mapM_toArray,Sem.run_bind,Sem.run_map];rw[Kn (a:={ J with defers:=[] }) S.rel _ (λ_=>rfl) (λ_ _=>rfl) rs vs (T H V).1]
  cases vs with
  | nil=>rfl
  | cons v vs=>cases vs with|nil=>rfl|cons u us=>rfl
 cases e with
 | normal=>exact fin E
 | ret=>exact fin E
 | exit id=>exact E.elim
 | goto l=>exact E.elim
 | panic c=>exact E.elim
 | outgrown=>exact E.elim
attribute [irreducible] WG
theorem KA {v:O9}(h:QG L ↑w v l)(n:Int):
  QZ sV 188 [v,sS n] w λr w'=>r=sS (Kv n none l)/\w'=w:=by
 have hc:=h.le;refine Zt func188 ?_;refine Qc<|Qb<|Qd<|Qj<|QE h U<|Qa<|xe<|Q2 (α:=Nat) [(4,6),(9,32)] (λk=>[(9,sS k)]) (λk w'=>w'=w/\k<=l.length/\Kv n (pv l k) (l.drop k)=Kv n none l) (λk=>l.length - k) 0 Lb ⟨U,Lp _,U⟩ ?_;rintro k g T ⟨rfl,hk,E⟩;refine Zi rfl U (λV=>?_) (λV=>?_)
 .refine Qt<|Qc<|Qb<|Qi ⟨[sS 0],Lb,?_,U⟩;rw[<-E,Lx oa];rfl
 have H:k<l.length:=oa
 rw[(Zz H),Kv]at E;refine Qe<|Qd<|Qn<|Qj<|xii h U U H λhe Y=>x (Qy Y U)<|x Qh<|Qb<|Qd<|QX (α:=Bool) [(14,20)] (λz=>[(20,.bool z)]) (λz w'=>w'=T/\z=decide (l[k]<0\/n<=l[k])) om ?_ ?_
 .refine Qq<|Qa<|xb (YA U U) (λI=>?_) (λI=>?_)
  .refine Qa<|Zm<|QB U<|xe ?_;exact⟨true,Lb,U,by simp[I]⟩
  refine Qa<|Qa<|Qa<|x (YI U U)<|QB U<|xe ?_;exact⟨_,Lb,U,by simp[I]⟩
 rintro z g Z ⟨rfl,rfl⟩;refine QY rfl (λJ=>?_) (λJ=>?_)
 .refine Qc<|Qb<|Qi ⟨[sS 2],Lb,?_,U⟩;rw[<-E,O1 J];rfl
 rw[O0 J]at E;refine Qe<|QX (α:=Bool) [(21,31)] (λz=>[(31,.bool z)]) (λz w'=>w'=Z/\z=j0 (pv l k) l[k]) om ?_ ?_
 .refine Qq<|Qa<|xb (ZX U U) (λha=>?_) (λha=>?_)
  .have hk1:((k:Int) - 1)=((k - 1:Nat):Int):=oa
   refine Qa<|Qa<|Qa<|Qa<|x (X1 U U ⟨oa,oa⟩)<|xii (i:=k - 1) h U (by show Value.int _ ((k:Int) - 1)=_;rw[hk1]) oa λhg hb=>x (Qy hb rfl)<|x (KL rfl rfl)<|QB rfl<|xe<|⟨_,Lb,U,?_⟩;have:pv l k=some l[k - 1]:=by
    have O:k≠0:=oa
    simp[pv,O,show k - 1<l.length by omega]
   rw[this];rfl
  refine Qa<|Zm<|Zm<|K4<|QB U<|xe ?_;have O:k=0:=oa
  exact⟨false,Lb,U,by simp[pv,O,j0]⟩
 rintro z g w3 ⟨rfl,rfl⟩;refine Q6 rfl (λS=>?_) (λS=>?_)
 .refine Qc<|Qb<|Qi ⟨[sS 5],Lb,?_,U⟩;rw[<-E,O1 S];rfl
 rw[O0 (by simp[S])]at E;refine Qe<|Qq<|QH U U<|Qa<|xe ?_;exact⟨k+1,oa,Lb,U,oa,by rw[VV H];exact E⟩
def flg (n:Nat)(l:LI):List Bool:=(oT n).map λi:Nat=>decide ((i:Int)∈l)
theorem V0 (n:Nat)(l:LI):(flg n l).length=n:=by simp[flg]
theorem Qce (h:i<(flg n l).length):(flg n l)[i]'h=decide ((i:Int)∈l):=by simp[flg]
theorem Qoz {x:Int}(H:0<=x):(flg n l).set x.toNat true=flg n (l++[x]):=by
 apply Mh
 .simp[flg]
 intro i I E;rw[Nf,Qce E];by_cases e:x.toNat=i
 .have:(i:Int)=x:=oa
  rw[O1 e,this];simp
 have:(i:Int)≠x:=oa
 rw[O0 e,Qce];simp[this]
open Go.RowKit
def upY (P:xh)(m:Nat)(dst:xL)(f:Fr)(K:xG):Result Next->Prop
 | .ok (.value v) w'=>K (QT f dst v) w'
 | .ok .skip w'=>K (QT f dst undef) w'
 | .ok (.enter g args) w'=>Calls P g args w' λe E=>match e with| .returned v=>K (QT f dst v) E|_=>False
 | .ok (.round l fn tmps assign body) w'=>RoundIn (fen none) (m - 1) P l fn tmps assign body w' λe E=>match e with| .returned v=>K (QT f dst v) E|_=>False
 | _=>False
def XOY (P:xh)(m:Nat)(o:Oper)(f:Fr)(w:O8)(K:xG):Prop:=upY P m o.dst f K ((execOp (ev f) o).run P w)
def Ki (P:xh)(m:Nat)(ops:xK)(K:xG):xK->Fr->O8->Prop
 | [],f,w=>K f w
 | o::l,f,w=>bif Z4 ops f o then XOY P m o f w (Ki P m ops K l)else Ki P m ops K l (QT f o.dst undef) w
section
variable {m:Nat}
theorem XOY.of_XO {K':xG}(hK:∀f w,K f w->K' f w)(h:XO P o f w K):XOY P m o f w K':=by
 unfold XO at h;unfold XOY;generalize (execOp (ev f) o).run P w=r at h;cases r with
 | ok nx w' =>
  cases nx <;> simp only[upF]at h <;> simp only[upY]
  case value v=>exact hK _ _ h
  case skip=>exact hK _ _ h
  case enter g args =>
   refine Calls.mono h λe H E=>?_;cases e with
   | returned v=>exact hK _ _ E
   | panicked c=>exact E.elim
   | outgrown=>exact E.elim
 | halt x w'=>exact h.elim
theorem Ki.pre {ops:xK}{K:xG}{l2:xK}:∀(E:xK) (f:Fr) (w:O8),XL P ops (λf w=>Ki P m ops K l2 f w) E f w->Ki P m ops K (E++l2) f w
 | [],f,w,h=>by unfold XL at h;exact h
 | o::E,f,w,h=>by
  unfold XL at h;show(bif Z4 ops f o then XOY P m o f w (Ki P m ops K (E++l2))else Ki P m ops K (E++l2) (QT f o.dst undef) w);cases H:Z4 ops f o with
  | false=>rw[H]at h;exact Ki.pre E _ _ h
  | true=>rw[H]at h;exact XOY.of_XO (λf w h=>Ki.pre E f w h) h
theorem Ki.pre2 {o1 o2:Oper}{l2:xK}(h:XL P ops (λf w=>Ki P m ops K l2 f w) [o1,o2] f w):Ki P m ops K (o1::o2::l2) f w:=Ki.pre [o1,o2] f w h
theorem Ki.of_XL {l:xK}(h:XL P ops K l f w):Ki P m ops K l f w:=by
 have:=Ki.pre (m:=m) (l2:=[]) l f w h
 rwa [LT]at this
theorem Qmp {a:Act}{K':Act->O8->Prop}{Q:Exit->Act->O8->Prop}(h:Xh n ds a f)
  (hK:∀v w',K (QT f o.dst v) w'->K' (a.put o.dst v) w') (hx:XOY P m o f w K):o.wpIn (fen none) m P a w K' Q:=by
 unfold XOY at hx;refine⟨λ_ _=>trivial,?_⟩;have e:Oper.semAt (fen none).round a.eval o=execOp (ev f) o:=by rw[h.eval];rfl
 rw[e];generalize (execOp (ev f) o).run P w=r at hx;cases r with
 | ok nx w' =>
  cases nx <;> simp only[upY]at hx <;> simp only[Oper.uponIn]
  case value v=>exact hK v w' hx
  case skip=>exact hK _ w' hx
  case enter g args =>
   refine⟨λh=>by simp[Fence.wide]at h,?_⟩;refine(callsIn_wide (n:=m - 1)).2 (Calls.mono hx λe H E=>?_);cases e with
   | returned v=>exact hK v H E
   | panicked c=>exact E.elim
   | outgrown=>exact E.elim
  case round l fn tmps assign body =>
   refine⟨λh=>by simp[Fence.wide]at h,?_⟩;refine RoundIn.mono hx λe H E=>?_;cases e with
   | returned v=>exact hK v H E
   | panicked c=>exact E.elim
   | outgrown=>exact E.elim
 | halt x w'=>exact hx.elim
theorem Qeq {Q:Exit->LN->Fr->O8->Prop}{all:xK}(H:∀o∈all,∀d,o.dst=some d->d<n)(f0:Fr):
  ∀(l:xK) (k:Nat) (a:Act) (f:Fr) (w:O8),(∀j,l[j]?=all[k+j]?)->Xh n ds a f->(∀t,Yq all t=false->f t=f0 t) ->
   Ki P m all (λf w=>Q .normal ds f w) l f w ->
   wpOpsIn (fen none) m P all.toArray (λe V w'=>∃ds' f',Xh n ds' V f'/\(∀t,Yq all t=false->f' t=f0 t)/\Q e ds' f' w') (oS k l.length) a w
 | [],_,a,f,w,_,E,hk,h=>⟨ds,f,E,hk,by unfold Ki at h;exact h⟩
 | o::l,k,a,f,w,J,E,hk,h=>by
  have O:all[k]?=some o:=by simpa using(J 0).symm
  have I:o∈all:=MA O;have ih:=λa f w=>Qeq (Q:=Q) H f0 l (k+1) a f w (λj=>by have:=J (j+1);simpa[OT,Nat.add_comm 1 j]using this);have next:∀v,(∀t,Yq all t=false->QT f o.dst v t=f0 t):=λv t S=>(Y9 (JU I S) v).I (hk t S);simp only[oV,OF,wpOpsIn,o0,O];rw[Ur E H o];unfold Ki at h;cases T:Z4 all f o with
  | false =>
   rw[T]at h;exact⟨λ_ _=>trivial,ih _ _ _ (E.put (H o I) _) (next _) h⟩
  | true =>
   rw[T]at h;exact Qmp E (λv w' hx=>ih _ _ _ (E.put (H o I) v) (next v) hx) h
theorem Ud {Q:Exit->LN->Fr->O8->Prop}{l:xK}(E:J6 n l=true)(h:Ki P m l (λf w=>Q .normal ds f w) l f w):WG none m P n (.region id l.toArray false) Q ds f w:=by
 unfold WG;intro a H;refine wpIn_region ?_;have:=Qeq (m:=m) (Jc E) f l 0 a f w oe H (λ_ _=>rfl) h;simpa[List.range_eq_range',Jy]using this
theorem xy {rest:xK}{pS:String}{x:xd}{l:Nat}{R:Ending->O8->Prop}
  (hx:ev f x=.func (.yield l) #[] #[]) (E:YieldAt (fen none) (m - 1) P l #[ev f y] w R) (hK:∀e w',R e w'->∃v,e=.returned v/\Ki P m ops K rest (QT f d v) w')
  (H:Z4 ops f ⟨d,.call ⟨.value x,#[y],at_⟩,ty,pS,af,gd⟩=true:=by rfl):
  Ki P m ops K (⟨d,.call ⟨.value x,#[y],at_⟩,ty,pS,af,gd⟩::rest) f w:=by
 obtain⟨fn,tmps,assign,body,I,J⟩:=E;have O:(execOp (ev f) ⟨d,.call ⟨.value x,#[y],at_⟩,ty,pS,af,gd⟩).run P w=.ok (.round l fn tmps assign body) w:=by
  simp[execOp,resolve,hx,Deferred.ofValue,invoke,I]
 unfold Ki;rw[H];simp only[XOY,O,upY,cond_true];exact J.mono λe w' h=>by obtain⟨v,rfl,hk⟩:=hK e w' h;exact hk
end
attribute [irreducible] Ki
structure Lw (B:Nat)(L:LN)(w w':O8):Prop where
 os:w'.os=w.os
 tape:w'.tape=w.tape
 output:w'.output=w.output
 size:w.heap.size<=↑w'
 low:∀k,k<B->k∉L->w'.heap[k]?=w.heap[k]?
theorem Lw.refl (B:Nat)(L:LN)(w:O8):Lw B L w w:=⟨U,U,U,Lu _,λ_ _ _=>U⟩
theorem Lw.I {B:Nat}{L:LN}{E w w':O8}(h:Lw B L E w)(k:Lw B L w w'):Lw B L E w' :=
 ⟨k.os.I h.os,k.tape.I h.tape,k.output.I h.output,LJ h.size k.size,λi hi H=>(k.low i hi H).I (h.low i hi H)⟩
theorem xj.lw {E:O8}(h:xj L w w')(k:Lw ↑w L w' E):xj L w E :=
 ⟨k.os.I h.os,k.tape.I h.tape,k.output.I h.output,LJ h.size k.size,λi hi H=>(k.low i hi H).I (h.block i hi H)⟩
structure Vl (B:Nat)(L:LN)(W W':O8):Prop where
 lw:Lw B L W W'
 other:∀(k:Nat) (o:Obj),W.heap[k]?=some o->o.isCells=false->W'.heap[k]?=some o
theorem Vl.refl (B:Nat)(L:LN)(w:O8):Vl B L w w:=⟨Lw.refl _ _ _,λ_ _ h _=>h⟩
theorem Vl.I {B:Nat}{L:LN}{E w w':O8}(h:Vl B L E w)(k:Vl B L w w'):Vl B L E w':=⟨h.lw.I k.lw,λi o hi H=>k.other i o (h.other i o hi H) H⟩
theorem Vl.O {X:LN}{W:O8}(h:xj X W W')(S:B<=↑W)(H:∀b∈X,(b∈L\/B<=b)/\∃o:Obj,W.heap[b]?=some o/\o.isCells=true):Vl B L W W':=by
 refine⟨⟨h.os,h.tape,h.output,h.size,λk hk J=>h.block k oa (λhx=>?_)⟩,λk o hk O=>?_⟩
 .rcases(H k hx).1 with E|E
  .exact J E
  omega
 refine(h.block k (LP.1 hk).1 (λhx=>?_)).I hk;obtain⟨T,E,I⟩:=(H k hx).2;rw[hk]at E;cases E;rw[O]at I;cases I
theorem Vl.J {W:O8}(h:sW W W')(E:B<=↑W):Vl B L W W':=Vl.O h E (λ_ H=>by cases H)
theorem QP.cells {H:xI}(h:QP H b T cs):∃o:Obj,H[b]?=some o/\o.isCells=true:=⟨_,h,U⟩
theorem Vl.blk {W:O8}(h:xj [b] W W')(E:B<=↑W)(H:QP ↑W b T cs)(I:b∈L\/B<=b):Vl B L W W' :=
 Vl.O h E (λc J=>by
  have e:c=b:=by simpa using J
  subst e;exact⟨I,H.cells⟩)
def YL (B:Nat)(I:xH):Prop:=∀W W' X,I W->xj X W W'->(∀r∈X,B<=r/\∃o:Obj,W.heap[r]?=some o/\o.isCells=false)->I W'
theorem YL.own {I:β->O8->Prop}(h:∀s,YL B (I s)):OwnFrom B I:=λs W W' row H J O =>
 h s W W' _ H (xj.of_grown J) (λr E=>O r (by cases row <;> simp at E ⊢;exact E.symm))
theorem YL.blk :YL B (λW=>QP ↑W b T cs):=λW W' X h H I=>h.O H (λJ=>by
 obtain⟨_,o,E,O⟩:=I b J;unfold QP at h;rw[h]at E;cases E;cases O)
theorem YL.and {I J:xH}(h:YL B I)(k:YL B J):YL B (λW=>I W/\J W):=λW W' X hi E H=>⟨h W W' X hi.1 E H,k W W' X hi.2 E H⟩
theorem YL.ex {I:β->O8->Prop}(h:∀z,YL B (I z)):YL B (λW=>∃z,I z W):=λW W' X ⟨z,hi⟩ E H=>⟨z,h z W W' X hi E H⟩
theorem YL.pure (p:Prop):YL B (λ_=>p):=λ_ _ _ h _ _=>h
theorem YL.O (J:↑w<=B):YL B (λW=>xj L w W):=λW W' X h E H=>h.G E (λb I=>.inr (ov (H b I).1))
theorem QQ {base e:Nat}{v:O9}(h:w.ownsRow base e sz v n cs):∀b∈ob v,∃o:Obj,w.heap[b]?=some o/\o.isCells=true:=by
 intro b E;rcases h.2 with⟨H,_⟩|⟨g,cap,cur,H,J,I,_⟩
 .subst H;simp[ob]at E
 subst H;simp[ob]at E;subst E;exact⟨_,I,U⟩
theorem YL.row {base e:Nat}{v:O9}:YL B (λW=>W.ownsRow base e sz v n cs):=λW W' X h I J=>Qf h I (λb O hx=>by
 obtain⟨_,o,S,T⟩:=J b hx;obtain⟨V,E,H⟩:=QQ h b O;rw[S]at E;cases E;rw[T]at H;cases H)
theorem Qpz {m:Nat}{Q:Exit->LN->Fr->O8->Prop}{g:xd}{p:Nat}{assign body:Code}(L:LN)(Y:1<=m)
    [hF:Fu P gf fn]  (hg:ev f g=.func (.func gf) #[] capt.toArray) {enc:α->O9} {S:List α->Prop}  (hp:p<n)
  (he:SeqStopsK (fen none) (m - 1) P gf capt.toArray (λx=>#[enc x]) (Lw ↑w L) S (λ_=>True) N w)
  (I:List α->O8->Prop) (hI:∀s,YL ↑w (I s)) (h0:I [] w) (A:Fr->α->Fr->O8->Prop) (hA:∀x E,YL ↑w (A f x E))
  (hb:∀l pre x W,I pre W->WG (some l) (m - 1 - 1) P n assign (QeK (λZ E W'=>Z=[]/\Vl ↑w L W W'/\I pre W'/\A f x E W') (λ_ _ _ _=>False)) [] (upd f p (enc x)) W)
  (hc:∀l pre x E W,I pre W->A f x E W->pre.length<N->WG (some l) (m - 1 - 1) P n body (QeK (λ_ _ W'=>Vl ↑w L W W'/\I (pre++[x]) W') (λ_ _ _ _=>False)) [] E W)
  (hh:∀D xs W,↑w<=D->S xs->I xs W->W.heap[D]?=some (.deferred (some []))->Q .normal (D::ds) f W):
  WG none m P n (.rangeFunc g #[p] assign body) Q ds f w:=by
 unfold WG at hb hc ⊢;intro a T;have eg:∀args w,(callFunc gf args).run P w=.ok (.enter gf args) w:=by
  intro args w;have Y:¬fn.name = "runtime.NumGoroutine" := by simpa using hF.nm
  have O:¬fn.body=none:=by have:=hF.b;intro e;rw[e]at this;cases this
  simp[callFunc,hF.f,Y,O]
 have keep:∀{W W':O8},Vl ↑w L W W'->KeepsFrom ↑w W W':=λh=>⟨h.lw.size,λk o _ hk ho=>h.other k o hk ho⟩;refine wpIn_rangeFunc_ownH (F:=fen none) U Y (gf:=gf) (lb:=capt.toArray) (by rw[T.eval];exact hg) La eg he (λh k=>h.I k)
  (λW l o o' hl ho _ _=>⟨U,U,U,oe,λk hk _=>World.putObj_heap_other oa⟩) (Below.refl _ _) (λ_=>rfl) I (λ_ _ _=>False) (YL.own hI) (λ_ _ _ _ _ hs _ _=>hs) h0
  (λx V W=>∃E,Xh n [] V E/\A f x E W) (λx V=>YL.own λ_=>YL.ex λE=>YL.and (YL.pure _) (hA x E)) ?_ ?_ ?_ ?_
 .intro l pre x W K hi hK;have hr:Xh n [] { tmps:=((#[p]:Array Nat).zip #[enc x]).foldl (λt (p,v)=>t.setIfInBounds p v) a.tmps,defers:=[] } (upd f p (enc x)):=by
   have O:Xh n [] { a with defers:=[] } f:=⟨T.size,U,T.get⟩
   have H:=O.put (dst:=some p) (λd e=>by cases e;exact hp) (enc x);have e:((#[p]:Array Nat).zip #[enc x]).foldl (λt (p,v)=>t.setIfInBounds p v) a.tmps=a.tmps.setIfInBounds p (enc x):=oe
   rw[e];exact H
  refine wpIn_mono (hb l pre x W hi _ hr) ?_;rintro e V W' ⟨Z,E,O,_,H⟩;cases e with
  | normal=>obtain⟨rfl,h4,J,h6⟩:=H;exact hK V W' (keep h4) h4.lw J ⟨E,O,h6⟩
  | exit id=>exact H.elim
  | goto l=>exact H.elim
  | ret=>exact H.elim
  | panic ch=>exact H.elim
  | outgrown=>exact H.elim
 .rintro l pre x V W _ _ hi ⟨E,O,H⟩ hj;refine wpIn_mono (hc l pre x E W hi H hj V O) ?_;rintro e hm W' ⟨Z,hn,h4,_,J⟩;cases e with
  | normal=>exact⟨keep J.1,J.1.lw,J.2⟩
  | exit id=>exact J.elim
  | goto l=>exact J.elim
  | ret=>exact J.elim
  | panic ch=>exact J.elim
  | outgrown=>exact J.elim
 .intro D xs W hD hS hi hd;exact⟨D::ds,f,⟨T.size,by rw[show coll (D::ds)={ target:=.collected D,args:=#[] }::coll ds from rfl,T.defers],T.get⟩,λ_ _=>rfl,hh D xs W hD hS hi hd⟩
 intro D c pre W _ _ h _;exact h.elim
def QrK (P:xh)(t:Nat):Option (LV×xE):=match P.info? t,P.underlying t with
 | some it,some (.struct fs)=>match it.zero,fs.toList.mapM (λf=>(P.info? f.type).map λi=>(f.offset,i.size))with
  | some (.agg zs),some pl=>some (zs.toList,pl)
  | _,_=>none
 | _,_=>none
class Bw (P:xh)(t:Nat)(zs:outParam (LV))(pl:outParam xE):Prop where
 h:QrK P t=some (zs,pl):=by first|kernel_rfl|decide|rfl|exact sX (by kernel_rfl)
 b:pl.all (λx=>x.1+x.2<=zs.length)=true:=by first|kernel_rfl|decide|rfl|exact sX (by kernel_rfl)
def Qc4:LV->Nat->LV->LV
 | zs,_,[]=>zs
 | zs,o,u::us=>Qc4 (zs.set o u) (o+1) us
def Qmi (pl:xE)(zs:LV):List (Nat×LV)->LV
 | []=>zs
 | (j,us)::ps=>Qmi pl (Qc4 zs (pl.getD j (0,0)).1 us) ps
def QpE:List (Nat×O9)->List (Nat×LV)->Prop
 | [],[]=>True
 | (j,v)::vs,(j',us)::uss=>v.cells=us.toArray/\j=j'/\QpE vs uss
 | _,_=>False
theorem Qc3:∀(us zs:LV) (o:Nat),(Qc4 zs o us).length=zs.length
 | [],_,_=>rfl
 | u::us,zs,o=>by rw[Qc4,Qc3 us,L9]
theorem Qas (o:Nat):∀(us:LV) (k:Nat) (zs:LV),(us.zipIdx k).foldl (λ(cs:Array O9) (x:O9×Nat)=>cs.setIfInBounds (o+x.2) x.1) zs.toArray=(Qc4 zs (o+k) us).toArray
 | [],_,_=>rfl
 | u::us,k,zs=>by
  rw[Nz,LZ,Qc4];have:=Qas o us (k+1) (zs.set (o+k) u);rw[<-List.setIfInBounds_toArray]at this;exact this
theorem Qlc {pl:xE}:∀(vs:List (Nat×O9)) (uss:List (Nat×LV)) (zs:LV),QpE vs uss->uss.all (λp=>p.1<pl.length && (p.2.length == (pl.getD p.1 (0,0)).2))=true ->
  (∀x∈pl,x.1+x.2<=zs.length)->Instr.fill (pl.toArray[·]?) zs.toArray vs=some (Qmi pl zs uss).toArray
 | [],[],zs,_,_,_=>rfl
 | [],_::_,_,h,_,_=>h.elim
 | _::_,[],_,h,_,_=>h.elim
 | (j,v)::vs,(j',us)::uss,zs,I,H,J=>by
  obtain⟨T,rfl,I⟩:=I;simp only[Ok,oO,decide_eq_true_eq,beq_iff_eq]at H;obtain⟨⟨E,O⟩,H⟩:=H;have S:pl.getD j (0,0)=pl[j]'E:=by simp[oQ,E]
  have V:=J _ (Lm E);unfold Instr.fill;simp only[o0,Of E,T];rw[S]at O;rw[O0 (by simp only[Oc,O,ne_eq,not_true,decide_false,Bool.false_or,decide_eq_true_eq];omega)];have e:=Qas (pl[j]'E).1 us 0 zs;rw[Nw]at e;have e2:(us.toArray.zipIdx).foldl (λ(cs:Array O9) (x:O9×Nat)=>cs.setIfInBounds ((pl[j]'E).1+x.2) x.1) zs.toArray=(Qc4 zs (pl[j]'E).1 us).toArray:=by
   rw[<-e];simp
  rw[e2,Qmi,S];simpa only[o0]using(Qlc vs uss (Qc4 zs (pl[j]'E).1 us) I H (λx hx=>by rw[Qc3];exact J x hx))
theorem QfO {zs:LV}{pl:xE}(h:QrK P t=some (zs,pl))(I:pl.all (λx=>x.1+x.2<=zs.length)=true)(vs:List (Nat×O9))(uss:List (Nat×LV))(J:QpE vs uss)
  (O:uss.all (λp=>p.1<pl.length && (p.2.length == (pl.getD p.1 (0,0)).2))=true):P.built t vs=some (Qmi pl zs uss).toArray:=by
 have S:∀x∈pl,x.1+x.2<=zs.length:=λo T=>oA (My.1 I o T)
 unfold QrK at h;unfold Program.built;cases hi:P.info? t with
 | none=>simp[hi]at h
 | some it =>
  cases hu:P.underlying t with
  | none=>simp[hi,hu]at h
  | some dd =>
   simp only[hi,hu]at h;cases dd <;> simp only[]at h <;> try (cases h)
   case struct fs =>
    cases E:it.zero with
    | none=>simp[E]at h
    | some z =>
     cases z <;> simp only[E]at h <;> try (cases h)
     rename_i za;cases H:fs.toList.mapM (λf=>(P.info? f.type).map λi=>(f.offset,i.size))with
     | none=>simp[H]at h
     | some pl' =>
      simp only[H,Option.some.injEq,Prod.mk.injEq]at h;obtain⟨rfl,rfl⟩:=h;simp only[E,H,Value.cells];exact Qlc vs uss za.toList J O S
theorem Q8 {pS:String}{zs:LV}{pl:xE}[h:Bw P t zs pl]{parts:List (Nat×xd)}(uss:List (Nat×LV))
  (E:QpE (parts.map λx=>(x.1,ev f x.2)) uss) (H:uss.all (λp=>p.1<pl.length && (p.2.length == (pl.getD p.1 (0,0)).2))=true:=by rfl):
  sR P f w d (.build t parts.toArray) ty pS af gd (sT (Qmi pl zs uss)):=by
 unfold sR
 simp only[execOp,Sem.run_bind,(run_build (P:=P) w t (parts.toArray.map λ(i,x)=>(i,ev f x)) _ (by simpa using(QfO h.h h.b _ uss E H))),Result.andThen_ok,Sem.run_pure]
def cnE (p:Ed->Bool)(es:List Ed):Int:=((es.filter p).length:Int)
def gA (n:Nat)(f:Nat->Int):LI:=(oT n).map f
theorem Qrf (n:Nat)(f:Nat->Int):(gA n f).length=n:=by simp[gA]
theorem Qk7 {f:Nat->Int}(h:i<(gA n f).length):(gA n f)[i]'h=f i:=by simp[gA]
theorem Qre {f g:Nat->Int}{u:Int}(hu:u=g i)(h:∀j,j<n->j≠i->g j=f j):(gA n f).set i u=gA n g:=by
 apply Mh
 .simp[gA]
 intro k H E;rw[Nf,Qk7 E];by_cases e:i=k
 .rw[O1 e,hu,e]
 rw[O0 e,Qk7];exact(h k (by simpa[gA]using E) (Ne.symm e)).symm
def fS (es:List Ed)(s:Nat):Int:=cnE (λe=>decide (e.1<(s:Int))) es
section
variable {pS:String}
theorem Qkg [h1:XZ P t]{x:xd}{g E:Nat->Int}{u:Int}(H:QP ↑w b T ((gA n g).map (.int .i64)))(hx:ev f x=.pointer (some ⟨b,0+i*1,none⟩))(I:ev f y=sS u)(hi:i<n)(J:(gA n g).set i u=gA n E)
  (hK:∀w',xj [b] w w'->QP ↑w' b T ((gA n E).map (.int .i64))->K (QT f d undef) w'):XO P ⟨d,.store t x y,ty,pS,af,gd⟩ f w K :=
 KN H hx I (by rw[Qrf];exact hi) λw' O S=>hK w' O (by rw[<-J];exact S)
end
open Go.RowKit
section
variable {pS:String}{l:xK}
end
def Ut {α:Type}(f:Nat->α)(i:Nat)(x:α):Nat->α:=λj=>if j=i then x else f j
theorem Yx (f:Nat->α)(i:Nat)(x:α):Ut f i x i=x:=by simp[Ut]
theorem Y1 (f:Nat->α)(x:α)(h:j≠i):Ut f i x j=f j:=by simp[Ut,h]
theorem Qjm (k:α->β)(n:Nat)(f:Nat->α)(i:Nat)(x:α):((oT n).map λj=>k (f j)).set i (k x)=(oT n).map λj=>k (Ut f i x j):=by
 apply Mh
 .simp
 intro j E H;rw[Nf];by_cases e:i=j
 .subst e;simp[Yx]
 rw[O0 e];simp[Y1 _ _ (Ne.symm e)]
structure Up (base:Nat)(w:O8)(n:Nat)(f:Nat->O9)(g:Nat->LI):Prop where
 own:∀i,i<n->Qp 3 base w (f i) (g i)
 dj:∀i j,i<n->j<n->i≠j->Dj (f i) (f j)
theorem Up.app {base:Nat}{f:Nat->O9}{g:Nat->LI}(h:Up base w n f g)(hi:i<n)(O:Qp 3 base w' v' l)(S:xj (ob (f i)) w w')
  (T:∀b∈ob v',b∈ob (f i)\/↑w<=b):Up base w' n (Ut f i v') (Ut g i l):=by
 refine⟨λj E=>?_,λj k E hk H=>?_⟩
 .by_cases e:j=i
  .subst e;rw[Yx,Yx];exact O
  rw[Y1 _ _ e,Y1 _ _ e];exact Qf (h.own j E) S (h.dj j i E hi e)
 have key:∀j,j<n->j≠i->Dj v' (f j):=λj E e b V I=>by
  rcases T b V with J|J
  .exact h.dj i j hi E (Ne.symm e) b J I
  have:=Q3 (h.own j E) b I;omega
 by_cases e1:j=i
 .subst e1;rw[Yx,Y1 _ _ (Ne.symm H)];exact key k hk (Ne.symm H)
 rw[Y1 _ _ e1];by_cases e2:k=i
 .subst e2;rw[Yx];exact(key j E e1).symm
 rw[Y1 _ _ e2];exact h.dj j k E hk H
theorem Up.O {base:Nat}{X:LN}{f:Nat->O9}{g:Nat->LI}(h:Up base w n f g)(E:xj X w w')(H:∀i,i<n->∀b∈ob (f i),b∉X):Up base w' n f g :=
 ⟨λi hi=>Qf (h.own i hi) E (H i hi),h.dj⟩
theorem Up.J {base:Nat}{f:Nat->O9}{g:Nat->LI}(h:Up base w n f g)(E:sW w w'):Up base w' n f g:=h.O E (λ_ _ _ _=>oe)
def YJ (es:List Ed)(s:Nat):LI:=(es.filter λe=>decide (e.2.2=(s:Int))).map (·.1)
theorem Qfp (es:List Ed)(e:Ed)(E:0<=e.2.2):∀s,Ut (YJ es) e.2.2.toNat (YJ es e.2.2.toNat++[e.1]) s=YJ (es++[e]) s:=by
 intro s;unfold YJ;rw[Mc,Ls];by_cases h:s=e.2.2.toNat
 .subst h;rw[Yx];have:e.2.2=(e.2.2.toNat:Int):=oa
  simp[<-this]
 rw[Y1 _ _ h];have:¬e.2.2=(s:Int):=oa
 simp[this]
theorem KR {es:List Ed}{s:Nat}{p:Int}(h:p∈YJ es s):∃e∈es,e.1=p/\e.2.2=(s:Int):=by
 unfold YJ at h;simp only[OB,OL,decide_eq_true_eq]at h;obtain⟨e,⟨E,H⟩,I⟩:=h;exact⟨e,E,I,H⟩
theorem qU (es:List Ed)(s:Nat):(YJ es s).length<=es.length:=by
 unfold YJ;rw[Lj];exact Mt _ _
def bwE (s:Int)(st:LI×LI)(p:Int):LI×LI:=if xo st.1 p.toNat<0 then(st.1.set p.toNat (xo st.1 s.toNat+1),st.2++[p])else st
def zg (n:Nat)(to:LI):LI:=(oT n).map λi:Nat=>if(i:Int)∈to then 0 else -1
structure QmL (n:Nat)(o q:LI):Prop where
 len:o.length=n
 q:∀x∈q,0<=x/\x<(n:Int)
 le:∀x∈o,-1<=x/\x+(neg o:Int)<=n
theorem QqP (l:LI):neg l<=l.length:=Mt _ _
theorem QrL {p:Int}{st:LI×LI}(h:QmL n st.1 st.2)(Z:0<=s/\s<(n:Int))(E:0<=xo st.1 s.toNat)(O:0<=p/\p<(n:Int)):
  QmL n (bwE s st p).1 (bwE s st p).2/\neg (bwE s st p).1+(bwE s st p).2.length=neg st.1+st.2.length/\0<=xo (bwE s st p).1 s.toNat:=by
 unfold bwE;have S:=h.len;have H:p.toNat<st.1.length:=oa
 have T:s.toNat<st.1.length:=oa
 by_cases I:xo st.1 p.toNat<0
 .rw[O1 I];have V:st.1[p.toNat]'H<0:=by rw[Zx H];exact I
  have hv:=h.le _ (KW T);have ha:=UY st.1 p.toNat (xo st.1 s.toNat+1) H V oa;refine⟨⟨by simp[S],λx hx=>?_,λx hx=>?_⟩,?_,?_⟩
  .simp only[oU,oJ]at hx;rcases hx with hx|rfl
   .exact h.q x hx
   exact O
  .simp only[]at hx ⊢;rcases M1 hx with J|J
   .have:=h.le x J;omega
   subst J;omega
  .simp only[oN,oP];omega
  simp only[];have Y:s.toNat≠p.toNat:=λe=>by rw[e]at E;omega
  have:xo (st.1.set p.toNat (xo st.1 s.toNat+1)) s.toNat=xo st.1 s.toNat:=by
   unfold xo;simp[oQ,OE (Ne.symm Y)]
  rw[this];exact E
 rw[O0 I];exact⟨h,rfl,E⟩
theorem Kx (n:Nat)(to:LI):(zg n to).length=n:=by simp[zg]
theorem QrM {to:LI}(h:∀x∈to,0<=x/\x<(n:Int)):QmL n (zg n to) to:=by
 refine⟨Kx n to,h,λx hx=>?_⟩;have E:=QqP (zg n to);rw[Kx]at E;unfold zg at hx;simp only[OB]at hx;obtain⟨i,_,rfl⟩:=hx;split <;> omega
theorem Qpk {to:LI}{x:Int}(h:0<=x/\x<(n:Int))(hx:x∈to):xo (zg n to) x.toNat=0:=by
 have E:x.toNat<(zg n to).length:=by rw[Kx];omega
 rw[<-Zx E];have:((x.toNat:Nat):Int)=x:=oa
 simp[zg,this,hx]
def QrU (o q:LI):Prop:=∀x∈q,0<=xo o x.toNat
theorem Qme {p:Int}{st:LI×LI}(h:QmL n st.1 st.2)(J:0<=xo st.1 s.toNat)(O:0<=p/\p<(n:Int))(E:QrU st.1 st.2):QrU (bwE s st p).1 (bwE s st p).2:=by
 unfold bwE;have I:p.toNat<st.1.length:=by have:=h.len;omega
 by_cases H:xo st.1 p.toNat<0
 .rw[O1 H];intro x hx;have e1:xo (st.1.set p.toNat (xo st.1 s.toNat+1)) x.toNat=if x.toNat=p.toNat then xo st.1 s.toNat+1 else xo st.1 x.toNat:=by
   by_cases e:x.toNat=p.toNat
   .rw[O1 e,e];unfold xo;simp[oQ,I]
   rw[O0 e];unfold xo;simp[oQ,OE (Ne.symm e)]
  rw[e1];split
  .omega
  rename_i e;simp only[oU,oJ]at hx;rcases hx with hx|rfl
  .exact E x hx
  exact O3 U e
 rw[O0 H];exact E
theorem QjT (n:Nat):(oK n (nS).cells.toList).flatten=(oT n).map (λ_=>nS):=by
 apply Mh
 .simp[Value.cells]
 intro i E H;simp[Value.cells]
theorem Qim (n:Nat):(oK n (sS 0).cells.toList).flatten=(gA n (λj=>if j<0 then -1 else 0)).map (Value.int .i64):=by
 apply Mh
 .simp[Value.cells,gA]
 intro i E H;simp[Value.cells,gA]
theorem Qc8 {rv:Nat->O9}(hi:i<n):((oT n).map rv)[0+i*1]?=some (rv i):=by simp[hi]
def qw (lo hi:Nat)(ds:LN)(W:O8):Prop:=ds.Nodup/\∀D∈ds,lo<=D/\D<hi/\W.heap[D]?=some (.deferred (some []))
theorem qw.O {W:O8}{X:LN}(h:qw lo hi ds W)(I:xj X W W')(J:∀b∈X,∃o:Obj,W.heap[b]?=some o/\o.isCells=true):qw lo hi ds W':=by
 refine⟨h.1,λD hD=>⟨(h.2 D hD).1,(h.2 D hD).2.1,?_⟩⟩;have E:=(h.2 D hD).2.2;refine(I.block D (LP.1 E).1 (λhx=>?_)).I E;obtain⟨o,H,O⟩:=J D hx;rw[E]at H;cases H;cases O
theorem qw.J {W:O8}(h:qw lo hi ds W)(E:sW W W'):qw lo hi ds W':=h.O E (λ_ H=>by cases H)
theorem qw.blk {W:O8}(h:qw lo hi ds W)(E:xj [b] W W')(H:QP ↑W b T cs):qw lo hi ds W' :=
 h.O E (λc I=>by
  have e:c=b:=by simpa using I
  subst e;exact H.cells)
theorem qw.up {W:O8}(h:qw lo hi ds W)(H:hi<=E):qw lo E ds W:=⟨h.1,λD hD=>⟨(h.2 D hD).1,ov (h.2 D hD).2.1,(h.2 D hD).2.2⟩⟩
theorem qw.cons {W:O8}{D:Nat}(h:qw lo hi ds W)(J:lo<=hi)(hD:hi<=D)(hd:W.heap[D]?=some (.deferred (some []))):qw lo ↑W (D::ds) W:=by
 have H:=(LP.1 hd).1;refine⟨Nm.2 ⟨λI=>ov (h.2 D I).2.1,h.1⟩,λE hE=>?_⟩;rcases Lk.1 hE with rfl|hE
 .exact⟨oa,H,hd⟩
 have:=h.2 E hE;exact⟨this.1,(LP.1 this.2.2).1,this.2.2⟩
theorem qw.stb (J:hi<=B):YL B (λW=>qw lo hi ds W):=λW W' X h H I=>by
 refine⟨h.1,λD hD=>⟨(h.2 D hD).1,(h.2 D hD).2.1,?_⟩⟩;have E:=(h.2 D hD).2.2;refine(H.block D (LP.1 E).1 (λhx=>?_)).I E;have:=(I D hx).1;have:=(h.2 D hD).2.1;omega
open Go.RowKit
def sl (d:xL)(f:Fr):O9:=match d with|some d=>f d|none=>undef
def ow:O9->LN
 | .slice (some a) _ _=>[a.block]
 | .pointer (some a)=>[a.block]
 | .map (some b)=>[b]
 | _=>[]
def Fa (p:Nat->Prop):LN->Prop
 | []=>True
 | i::l=>p i/\Fa p l
theorem Fa.all {p:Nat->Prop}:∀{l:LN},Fa p l->∀i∈l,p i
 | [],_,_,hi=>by cases hi
 | j::l,h,i,hi=>by
  rcases Lk.1 hi with rfl|hi
  .exact h.1
  exact Fa.all h.2 i hi
theorem Fa.of {p:Nat->Prop}:∀{l:LN},(∀i∈l,p i)->Fa p l
 | [],_=>trivial
 | i::_,h=>⟨h i Lr,Fa.of λj E=>h j (Ll _ E)⟩
def undup:List (Array Bool)->List (Array Bool)->List (Array Bool)
 | [],acc=>acc
 | x::l,acc=>if acc.contains x then undup l acc else undup l (x::acc)
theorem qA {x:Array Bool}:∀{l acc:List (Array Bool)},(x∈l\/x∈acc)->x∈undup l acc
 | [],acc,h=>h.elim (λh=>by cases h) id
 | y::l,acc,h=>by
  unfold undup;split
  .rename_i E;refine qA ?_;rcases h with h|h
   .rcases Lk.1 h with e|h
    .exact .inr (e ▸ List.contains_iff_mem.1 E)
    exact .inl h
   exact .inr h
  refine qA ?_;rcases h with h|h
  .rcases Lk.1 h with e|h
   .exact .inr (e ▸ Lr)
   exact .inl h
  exact .inr (Ll _ h)
def QdA (all:Array Oper)(dp:Nat->LN)(opn:LN)(rest:xD):Nat->List (Array Bool)->Bool
 | 0,L=>L.all λls=>XK all rest ls && opn.all λi=>ls.getD i false
 | k+1,L=>(L.all λls=>!(Region.ready .any all ls).isEmpty && (Region.ready .any all ls).all λi=>opn.contains i && (dp i).all λj=>opn.contains j && ls.getD j false) &&
  QdA all dp opn rest k (undup (L.flatMap λls=>(Region.ready .any all ls).map λi=>ls.setIfInBounds i true) [])
def Qdm (all:xK)(D:xE):LN->Bool
 | []=>true
 | i::l=>(Za all i).guard.isNone && (match (Za all i).dst with|some d=>KD D d && l.all (λj=>!((Za all j).dst == some d))|none=>false) && !l.contains i && Qdm all D l
theorem K7 {all:xK}{D:xE}:∀{l:LN},Qdm all D l=true->(∀i∈l,(Za all i).guard=none/\∃d,(Za all i).dst=some d/\KD D d=true)/\∀i∈l,∀j∈l,i≠j->(Za all i).dst≠(Za all j).dst
 | [],_=>⟨λ_ h=>(by cases h),λ_ h=>(by cases h)⟩
 | i::l,h=>by
  simp only[Qdm,oO,Option.isNone_iff_eq_none]at h;obtain⟨⟨⟨O,hd⟩,T⟩,S⟩:=h;have ih:=K7 S;cases H:(Za all i).dst with
  | none=>rw[H]at hd;cases hd
  | some d =>
   rw[H]at hd;simp only[oO,Ow,OA,beq_eq_false_iff_ne,ne_eq]at hd;have I:∀j∈l,(Za all j).dst≠some d:=λj E=>hd.2 j E;refine⟨λj E=>?_,λj E k hk J=>?_⟩
   .rcases Lk.1 E with rfl|E
    .exact⟨O,d,H,hd.1⟩
    exact ih.1 j E
   rcases Lk.1 E with hj1|hj1
   .rcases Lk.1 hk with hk1|hk1
    .exact O3 (hj1.I hk1.symm) J
    rw[hj1,H];exact λe=>I k hk1 e.symm
   rcases Lk.1 hk with hk1|hk1
   .rw[hk1,H];exact I j hj1
   exact ih.2 j hj1 k hk1 J
def Qp2 (all:xK)(dp:Nat->LN)(pre:xD)(opn:LN)(rest:xD)(D:xE):Bool :=
 Region.noSelect all.toArray && (pre.length+(opn.length+rest.length) == all.length) && K6 all.toArray pre (oW all.length false) && Qdm all D opn && QdA all.toArray dp opn rest opn.length [Yv pre (oW all.length false)]
  && opn.all λi=>!((Yv pre (oW all.length false)).getD i false)
section
variable {all:xK}{C:xH}
theorem jh (h:o.guard=none):Z4 all f o=true:=by unfold Z4;rw[h]
theorem Qer {α:Type}{D:xE}{dp:Nat->LN}{opn:LN}{rest:xD}{Φ:Nat->O9->O8->Prop}{S:α->List (Nat×O9)}{I:α->O8->Prop}{f1:Fr}(hs:Region.noSelect all.toArray=true)(hc:Qdm all D opn=true)
  (hq:∀w w',C w->sW w w'->C w') (stab:∀i v w w',Φ i v w->sW w w'->Φ i v w')
  (hr:∀(g:Fr) w,Fa (λi=>Φ i (sl (Za all i).dst g) w) opn->(∀i∈opn,∀j∈opn,i≠j->∀b∈ow (sl (Za all i).dst g),b∉ow (sl (Za all j).dst g))->∃z,XC g (S z)/\I z w)
  (spec:Fa (λi=>∀g w,C w->Fa (λj=>Φ j (sl (Za all j).dst (mix D f1 g)) w) (dp i)->XO P (Za all i) (mix D f1 g) w (λf' w'=>sW w w'/\Φ i (sl (Za all i).dst f') w'/\∀b∈ow (sl (Za all i).dst f'),↑w<=b/\b<↑w')) opn)
  (fin:∀z g w,C w->I z w->XP P all C K rest (zD (S z) (mix D f1 g)) w):
  ∀(k:Nat) {L:List (Array Bool)} (_:QdA all.toArray dp opn rest k L=true) (ls:Array Bool) (f:Fr) (w:O8),ls∈L->ls.size=all.length->C w->(∀t,KD D t=false->f t=f1 t)->(∀i∈opn,ls.getD i false=true->Φ i (sl (Za all i).dst f) w) ->
   (∀i∈opn,ls.getD i false=true->(∀b∈ow (sl (Za all i).dst f),b<↑w)/\∀j∈opn,ls.getD j false=true->i≠j->∀b∈ow (sl (Za all i).dst f),b∉ow (sl (Za all j).dst f))->XA P all C K (k+rest.length) ls f w
 | 0,L,J,ls,f,w,he,hm,hC,hf,hh,T=>by
  simp only[QdA,oO,Ow]at J;have J:=J ls he;obtain⟨z,h1,h2⟩:=hr f w (Fa.of λi hi=>hh i hi (J.2 i hi)) (λi hi j H E=>(T i hi (J.2 i hi)).2 j H (J.2 j H) E);have h3:=fin z f w hC h2;rw[VF hf,X4 h1]at h3;rw[LS];exact YG hs rest ls f w hm (.inl hC) J.1 h3
 | k+1,L,J,ls,f,w,he,hm,hC,hf,hh,T=>by
  simp only[QdA,oO,Ow,List.contains_iff_mem]at J;obtain⟨J,h6⟩:=J;obtain⟨hl,J⟩:=J ls he;rw[Nat.add_right_comm];refine V9 (λh0=>(by rw[h0]at hl;cases hl)) ?_;intro i hi o ho;obtain⟨hn,hv⟩:=J i hi;obtain⟨hg,d,hd,h7⟩:=(K7 hc).1 i hn;have hsp:=Fa.all spec i hn f w hC;rw[VF hf]at hsp;have hsp:=hsp (Fa.of λj H=>hh j (hv j H).1 (hv j H).2);have V:=ZQ ho;rw[V]at hg hd hsp;rw[jh hg,cond_true];refine hsp.S λv w' hx=>?_;have hw:=hq w w' hC hx.1;have hz:=hx.1.size;have old:∀j∈opn,j≠i->sl (Za all j).dst (QT f o.dst v)=sl (Za all j).dst f:=λj H E=>by
   obtain⟨_,dj,hy,_⟩:=(K7 hc).1 j H;have hl:o.dst≠some dj:=λe=>((K7 hc).2) j H i hn E (by rw[hy,V];exact e.symm);rw[hy];exact Y9 hl v
  have lsj:∀j,j≠i->(ls.setIfInBounds i true).getD j false=true->ls.getD j false=true:=λj E h=>by rw[getD_set_ne false (Ne.symm E)]at h;exact h
  refine⟨.inr (.inr hw),Qer hs hc hq stab hr spec fin k h6 _ _ _ (qA (.inl (Mr.2 ⟨ls,he,Ly.2 ⟨i,hi,U⟩⟩))) (oA hm) hw (λt ht=>?_) (λj H ha=>?_) (λj H ha=>⟨λb O=>?_,λk hk h4 h5 b O Y=>?_⟩)⟩
  .rw[Y9 (by rw[hd];intro e;cases e;rw[h7]at ht;cases ht)];exact hf t ht
  .by_cases E:j=i
   .subst E;have h2:=hx.2.1;rw[V];exact h2
   rw[old j H E];exact stab _ _ _ _ (hh j H (lsj j E ha)) hx.1
  .by_cases E:j=i
   .subst E;rw[V]at O;exact(hx.2.2 b O).2
   rw[old j H E]at O;have:=(T j H (lsj j E ha)).1 b O;omega
  by_cases E:j=i
  .subst E;have Z:k≠j:=Ne.symm h5;rw[old k hk Z]at Y;rw[V]at O;have h1:=(T k hk (lsj k Z h4)).1 b Y;have h2:=(hx.2.2 b O).1;omega
  rw[old j H E]at O;have h1:=(T j H (lsj j E ha)).1 b O;by_cases Z:k=i
  .subst Z;rw[V]at Y;have h2:=(hx.2.2 b Y).1;omega
  rw[old k hk Z]at Y;exact(T j H (lsj j E ha)).2 k hk (lsj k Z h4) h5 b O Y
theorem qq {Q:Exit->Fr->O8->Prop}(C:xH)(pre:xD)(dp:Nat->LN)(opn:LN)(rest:xD)(D:xE)(Φ:Nat->O9->O8->Prop)(S:α->List (Nat×O9))(I:α->O8->Prop)
  (hm:P.follows .mixedOrders=true) (hn:J6 n all=true) (H:Qp2 all dp pre opn rest D=true) (hC:C { w with drawn:=w.drawn+1 }) (ha:∀w w',C w->sW w w'->C w') (stab:∀i v w w',Φ i v w->sW w w'->Φ i v w')
  (hb:∀(g:Fr) w,Fa (λi=>Φ i (sl (Za all i).dst g) w) opn->(∀i∈opn,∀j∈opn,i≠j->∀b∈ow (sl (Za all i).dst g),b∉ow (sl (Za all j).dst g))->∃z,XC g (S z)/\I z w)
  (h:XP P all C (λf1 _=>Fa (λi=>∀g w,C w->Fa (λj=>Φ j (sl (Za all j).dst (mix D f1 g)) w) (dp i)->XO P (Za all i) (mix D f1 g) w (λJ w'=>sW w w'/\Φ i (sl (Za all i).dst J) w'/\∀b∈ow (sl (Za all i).dst J),↑w<=b/\b<↑w')) opn /\
   ∀z g w,C w->I z w->XP P all C (λf w=>Q .normal f w) rest (zD (S z) (mix D f1 g)) w) pre f { w with drawn:=w.drawn+1 }):W P n (.region id all.toArray true) Q f w:=by
 simp only[Qp2,oO,beq_iff_eq,Ow,OA]at H;obtain⟨⟨⟨⟨⟨O,T⟩,hq⟩,hc⟩,he⟩,V⟩:=H;refine Xv C hm hn ?_;rw[<-T];have hg:(oW all.length false).size=all.length:=oe
 have Y:=XB (K:=λf w=>Q .normal f w) (m:=opn.length+rest.length) O pre (oW all.length false) f _ hC hq (λf1 Z=>Qer (P:=P) (C:=C) O hc ha stab hb Z.1 Z.2 opn.length he (Yv pre (oW all.length false)) f1 _ Lr (by rw[XJ];exact hg) hC (λ_ _=>U) (λi hi E=>by rw[V i hi]at E;cases E) (λi hi E=>by rw[V i hi]at E;cases E)) h;rw[T]at Y ⊢;exact Y
end
section
variable {pS:String}
theorem flA [Ze P t z]{E:O8}{e:Nat}(us:LV)(hC:sW E w)(S:z.cells=us.toArray:=by rfl):XO P ⟨some e,.alloc t,ty,pS,af,gd⟩ f w λH w'=>sW w w'/\sW E w'/\(∃b,H e=sP b/\↑E<=b/\QP ↑w' b t us)/\∀b∈ow (H e),↑w<=b/\b<w'.heap.size:=Jh S λb w' I J O=>by
 have e1:QT f (some e) (sP b) e=sP b:=by simp[QT,upd]
 show sW w w'/\sW E w'/\(∃b',QT f (some e) (sP b) e=sP b'/\↑E<=b'/\QP ↑w' b' t us)/\∀b'∈ow (QT f (some e) (sP b) e),↑w<=b'/\b'<↑w';rw[e1];exact⟨I,hC.I I,⟨b,U,LJ hC.size J,O⟩,λx hx=>by rw[show x=b by simpa using(show x∈[b] from hx)];exact⟨J,O.lt⟩⟩
end
def Jn (k:Nat):LI:=(oT k).map λi:Nat=>(i:Int)
theorem yX (k:Nat):(Jn k).length=k:=by simp[Jn]
theorem QaG (k:Nat):Jn (k+1)=Jn k++[(k:Int)]:=by unfold Jn;rw[Nl,Ls];rfl
theorem Qdo (k:Nat)(x:Int):x∈Jn k↔0<=x/\x<(k:Int):=by
 unfold Jn;simp only[OB,List.mem_range];constructor
 .rintro⟨i,hi,rfl⟩;omega
 intro h;exact⟨x.toNat,oa,oa⟩
theorem Qkp (k:Nat):Yp (Jn k):=by
 induction k with
 | zero=>exact List.Pairwise.nil
 | succ k ih =>
  rw[QaG];refine Mj.2 ⟨ih,Ns _ _,λx hx y E=>?_⟩;have:=(Qdo k x).1 hx;simp at E;omega
open Go.RowKit
instance:LawfulBEq ByteArray where
 eq_of_beq h:=(MapKept.bytes_beq _ _).1 h;rfl:=(MapKept.bytes_beq _ _).2 U
def chr (s:ByteArray)(i:Nat):Nat:=(s.get! i).toNat
theorem QrH {s:ByteArray}(h:i<s.size):(s[i]'h).toNat=chr s i:=by
 unfold chr;obtain⟨d⟩:=s;have hd:i<d.size:=h;simp[ByteArray.get!,hd,ByteArray.getElem_eq_getElem_data]
theorem QiO {a b:ByteArray}(h:a.data.toList=b.data.toList):a=b:=by
 obtain⟨⟨x⟩⟩:=a;obtain⟨⟨y⟩⟩:=b;have E:x=y:=h;rw[E]
theorem bytes_beq (a b:ByteArray):(a.toList == b.toList)=decide (a=b):=by
 rw[ByteArray.toList_eq,ByteArray.toList_eq];by_cases h:a=b
 .subst h;simp
 rw[O6 h];have:a.data.toList≠b.data.toList:=λe=>h (QiO e);simpa using this
section
variable {pS:String}{t':Nat}{x:xd}
theorem Qj1 [h:St P t]{s:ByteArray}{k:IntKind}(hx:ev f x=.string s)(I:ev f y=.int k i)(hi:i<s.size):
  sR P f w d (.index t x y) ty pS af gd (.int .u8 (chr s i)):=by
 unfold sR
 have E:=run_index_string (P:=P) w t s k i h.u;rw[dif_pos ⟨oa,oa⟩]at E;have e:(s[(i:Int).toNat]'(oA hi)).toNat=chr s i:=QrH hi;simp only[execOp,hx,I,Sem.run_bind,E,Result.andThen_ok,Sem.run_pure,e]
theorem Qe3 [h:St P t]{s:ByteArray}(hx:ev f x=.string s):
  sR P f w d (.call ⟨.builtin .len,#[x],#[t]⟩) ty pS af gd (sS s.size):=Qj0 h.u hx
theorem XI {a b:ByteArray}(hx:ev f x=.string a)(E:ev f y=.string b):
  sR P f w d (.binOp .eql t x y t') ty pS af gd (.bool (decide (a=b))):=by
 unfold sR
 have I:(eqGuard .eql t x y (.string a) (.string b)).run P w=.ok () w:=by simp[eqGuard]
 simp only[execOp,hx,E,Sem.run_bind,I,Result.andThen_ok,binOp_string_eql,Sem.run_pure,bytes_beq]
theorem YU {a b:ByteArray}(hx:ev f x=.string a)(E:ev f y=.string b)(O:a.size+b.size<=1000000000):
  sR P f w d (.binOp .add t x y t') ty pS af gd (.string (a++b)):=by
 unfold sR
 have I:(eqGuard .add t x y (.string a) (.string b)).run P w=.ok () w:=by simp[eqGuard]
 have J:¬(((a.size+b.size:Nat):Int) > IntKind.i64.max):=by
  rw[show IntKind.i64.max=9223372036854775807 from rfl];omega
 simp only[execOp,hx,E,Sem.run_bind,I,Result.andThen_ok,binOp_string_add,Op.stringOp,O0 J,Sem.run_pure]
theorem QnG {a:Nat}(hx:ev f x=.int .u16 a)(E:ev f y=.int .u16 b)(I:a<65536)(J:b<65536):
  sR P f w d (.binOp .and t x y t') ty pS af gd (.int .u16 ((a &&& b:Nat):Int)):=by
 unfold sR
 refine Jk hx E ?_;have hi:inK .u16 ((a &&& b:Nat):Int):=by
  have:a &&& b<=a:=Nat.and_le_left;exact⟨oa,oa⟩
 simp only[binOp,Op.intBits,BitVec.ofInt_natCast,ne_eq,not_true_eq_false,if_false,Sem.run_pure];rw[BitVec.toNat_and,BitVec.toNat_ofNat,BitVec.toNat_ofNat,MO (show a<2 ^ IntKind.u16.bits from I),MO (show b<2 ^ IntKind.u16.bits from J),YM hi]
theorem Qgu {a:Nat}(E:a<65536)(I:b<65536):a ||| b<65536:=Nat.or_lt_two_pow (n:=16) E I
theorem Qe2 {a:Nat}(hx:ev f x=.int .u16 a)(J:ev f y=.int .u16 b)(E:a<65536)(I:b<65536):
  sR P f w d (.binOp .or t x y t') ty pS af gd (.int .u16 ((a ||| b:Nat):Int)):=by
 unfold sR
 refine Jk hx J ?_;have hi:inK .u16 ((a ||| b:Nat):Int):=by
  have:=Qgu E I;exact⟨oa,oa⟩
 simp only[binOp,Op.intBits,BitVec.ofInt_natCast,ne_eq,not_true_eq_false,if_false,Sem.run_pure];rw[BitVec.toNat_or,BitVec.toNat_ofNat,BitVec.toNat_ofNat,MO (show a<2 ^ IntKind.u16.bits from E),MO (show b<2 ^ IntKind.u16.bits from I),YM hi]
theorem Qe4 {a:Nat}(hx:ev f x=.int .u16 a)(I:ev f y=.int .u16 b)(J:a<65536)(E:b<65536):
  sR P f w d (.binOp .andNot t x y t') ty pS af gd (.int .u16 ((a &&& (65535 ^^^ b):Nat):Int)):=by
 unfold sR
 refine Jk hx I ?_;have hi:inK .u16 ((a &&& (65535 ^^^ b):Nat):Int):=by
  have:a &&& (65535 ^^^ b)<=a:=Nat.and_le_left;exact⟨oa,oa⟩
 have e:(~~~(BitVec.ofNat IntKind.u16.bits b))=BitVec.ofNat IntKind.u16.bits (65535 ^^^ b):=by
  have O:BitVec.allOnes 16=BitVec.ofNat 16 65535:=oh
  have S:∀z:BitVec 16,~~~z=BitVec.allOnes 16 ^^^ z:=λz=>by
   first
   | exact BitVec.allOnes_xor.symm
   | exact(BitVec.xor_allOnes.symm.I (BitVec.xor_comm _ _))
  show ~~~(BitVec.ofNat 16 b)=BitVec.ofNat 16 (65535 ^^^ b);rw[S,O];apply BitVec.eq_of_toNat_eq;simp only[BitVec.toNat_xor,BitVec.toNat_ofNat];rw[MO (show 65535<2 ^ 16 by decide),MO (show b<2 ^ 16 from E)];rw[MO (Nat.xor_lt_two_pow (n:=16) oh E)]
 simp only[binOp,Op.intBits,BitVec.ofInt_natCast,ne_eq,not_true_eq_false,if_false,Sem.run_pure];rw[e,BitVec.toNat_and,BitVec.toNat_ofNat,BitVec.toNat_ofNat,MO (show a<2 ^ IntKind.u16.bits from J),MO (show 65535 ^^^ b<2 ^ IntKind.u16.bits from Nat.xor_lt_two_pow (n:=16) oh E),YM hi]
theorem Qgo {k:IntKind}{a:Int}(hx:ev f x=.int k a)(E:ev f y=.int k' n)(I:n<=k.bits)(hi:inK k (a*2 ^ n)):
  sR P f w d (.binOp .shl t x y t') ty pS af gd (.int k (a*2 ^ n)):=by
 unfold sR
 refine Jk hx E ?_;have J:¬((n:Int)<0):=oa
 simp only[binOp,Op.shift,J,if_false,Ov,Nat.min_eq_left I,Sem.run_pure];rw[YM hi]
end
section
variable {P:xh}{ops:xK}{K:xG}{f:Fr}{w:O8}{d:xL}{ty:Nat}{pS:String}{af:xJ}{gd:xC}{l:xK}
 {t e sz bys:Nat} {z:O9} {x y1 y2:xd} {L:LN} {v:O9} {n:Nat} {cs:LV} {H:xI} {k k':IntKind} {hi:Nat}
theorem QjW [h:Sl P t e sz bys z](hA:Zk L H v n sz cs)(hx:ev f x=v)(E:ev f y1=.int k hi)(I:ev f y2=.int k' hi)(T:hi<=n):
  ∃v',Zk L H v' hi sz (cs.take (hi*sz))/\∀w,sR P f w d (.slice t x none (some y1) (some y2)) ty pS af gd v':=by
 unfold sR
 obtain⟨ii,J,_,V,_⟩:=Sl.info h;rcases hA.2.2 with⟨rfl,rfl⟩|⟨a,cap,rfl,Y,O⟩
 .have S:hi=0:=oa
  subst S;refine⟨nS,?_,λw=>?_⟩
  .rw[OV,Np];exact Zk.nil _ _ _
  simp[execOp,hx,E,I,Instr.sliceAt,Instr.slice,Instr.sliceBounds,Instr.sliceBound,asIntOf,run_underlying h.u,sizeOf,typeInfo,J]
 refine⟨.slice (some a) hi hi,⟨?_,ov hA.2.1,.inr ⟨a,hi,U,Lu _,λu hu=>O.out u (L8 hu),λu hu=>O.lt u (L8 hu),λj u hu=>?_⟩⟩,λw=>?_⟩
 .rw[LB,hA.1,Mu (Ma _ T)]
 .rw[L3]at hu;split at hu
  .exact O.cell j u hu
  cases hu
 by_cases S:hi=0
 .subst S;simp[execOp,hx,E,I,Instr.sliceAt,Instr.slice,Instr.sliceBounds,Instr.sliceBound,asIntOf,run_underlying h.u,sizeOf,typeInfo,J]
 simp[execOp,hx,E,I,Instr.sliceAt,Instr.slice,Instr.sliceBounds,Instr.sliceBound,asIntOf,run_underlying h.u,sizeOf,typeInfo,J,Addr.add];intro Z;omega
end
section
variable {l:xK}{C:xH}{pl:xD}
theorem xB {b:Bool}(E:(execOp (ev f) o).run P w=.ok (.value (.bool b)) w)(O:b=true->XL P ops K l (QT f o.dst (.bool true)) w)(hf:b=false->XL P ops K l (QT f o.dst (.bool false)) w)
  (J:Z4 ops f o=true:=by rfl):XL P ops K (o::l) f w:=by
 cases I:b with
 | true=>rw[I]at E;exact x E (O I) J
 | false=>rw[I]at E;exact x E (hf I) J
theorem pB {b:Bool}(E:∀w',(execOp (ev f) (Za ops i)).run P w'=.ok (.value (.bool b)) w')(O:b=true->XP P ops C K pl (QT f (Za ops i).dst (.bool true)) w)(hf:b=false->XP P ops C K pl (QT f (Za ops i).dst (.bool false)) w)
  (J:Z4 ops f (Za ops i)=true:=by rfl):XP P ops C K ((i,true)::pl) f w:=by
 cases I:b with
 | true=>rw[I]at E;exact p E (O I) J
 | false=>rw[I]at E;exact p E (hf I) J
theorem Qlq {G:Prop}(b:Bool)(E:b=true->G)(hf:b=false->G):G:=by cases h:b with|true=>exact E h|false=>exact hf h
theorem bT {q:Prop}[Decidable q](h:q):true=decide q:=(O4 h).symm
theorem bF {q:Prop}[Decidable q](h:¬q):false=decide q:=(O6 h).symm
theorem bD {q r:Prop}[Decidable q][Decidable r](h:q↔r):decide q=decide r:=decide_eq_decide.2 h
end
section
variable {pS:String}{x:xd}
theorem yM {q:Prop}[Decidable q](hx:ev f x=.bool (decide q)):sR P f w d (.unOp .not t x) ty pS af gd (.bool (decide (¬q))):=by
 unfold sR
 rw[Zr hx];simp
end
structure Kf where
 nm:ByteArray
 co:Bool
 ob:Bool
 fo:Bool
 fl:Int
structure Y0 where
 nm:ByteArray
 a:QU
structure Uf where
 nm:ByteArray
 ls:xF
structure xT where
 nm:ByteArray
 ts:xF
 bd:Int
structure Zy where
 ev:List Kf
 co:List Y0
 rq:List Y0
 ex:List Uf
 cs:List xT
def Vs (n:Nat):LI:=(oT n).map λi:Nat=>(i:Int)
def nmP (i c:Nat):Prop:=((97<=c/\c<=122)\/(65<=c/\c<=90)\/c=95)\/(i≠0/\48<=c/\c<=57)
instance (i c:Nat):Decidable (nmP i c):=by unfold nmP;infer_instance
def nmQ (s:ByteArray)(i:Nat):Bool:=decide (nmP i (chr s i))
def YE (s:ByteArray):Bool:=(oS 0 s.size).all (nmQ s) && decide (0<s.size/\s.size<=32)
def Jw (seen:List ByteArray)(e:Kf):Int:=if YE e.nm=false then 7 else if e.nm∈seen then 8 else if e.fl<0\/4<e.fl then 2 else if e.fl≠0/\(e.co || e.ob)=true then 13 else 0
def zw:List ByteArray->List Kf->Int
 | _,[]=>0
 | seen,e::l=>if Jw seen e≠0 then Jw seen e else zw (seen++[e.nm]) l
def KG (l:List Kf):Int:=if 32<l.length then 3 else zw [] l
def ixs {α:Type}(q:α->Bool):Nat->List α->LI
 | _,[]=>[]
 | i,e::l=>if q e=true then(i:Int)::ixs q (i+1) l else ixs q (i+1) l
def unc (l:List Kf):LI:=ixs (λe=>!e.co) 0 l
def X3 (sz:LI):Option Int->List (Int×Int)->Int
 | _,[]=>0
 | pr,l::ls=>if l.1<0\/(sz.length:Int)<=l.1 then 2 else if j0 pr l.1=true then 5 else if l.2<0\/xo sz l.1.toNat<=l.2 then 2 else X3 sz (some l.1) ls
def XR (sz:LI)(ls:xF):Int:=if ls.length=0 then 12 else X3 sz none ls
def grt (n:Int):Bool:=decide (n < -65536) || decide (65536<n)
def Ku (sz:LI):Option Int->List (Int×Int)->Int
 | _,[]=>0
 | pr,l::ls=>if l.1<0\/(sz.length:Int)<=l.1 then 2 else if j0 pr l.1=true then 5 else if l.2=0\/grt l.2=true then 2 else Ku sz (some l.1) ls
def Xd (sz:LI)(k:xT):Int:=if k.ts.length=0 then 12 else if Ku sz none k.ts≠0 then Ku sz none k.ts else if grt k.bd=true then 2 else 0
def Js (seen:List ByteArray)(s:ByteArray):Int:=if YE s=false then 7 else if s∈seen then 8 else 0
def Yc (sz:LI):List ByteArray->List Uf->Int
 | _,[]=>0
 | seen,x::l=>if Js seen x.nm≠0 then Js seen x.nm else if XR sz x.ls≠0 then XR sz x.ls else Yc sz (seen++[x.nm]) l
def YQ (sz:LI):List ByteArray->List xT->Int
 | _,[]=>0
 | seen,x::l=>if Js seen x.nm≠0 then Js seen x.nm else if Xd sz x≠0 then Xd sz x else YQ sz (seen++[x.nm]) l
def KY (n:Int):Bool:=decide (n<1) || decide (4096<n)
def Ys (sz:LI)(ex:List Uf)(cs:List xT):Int:=if 8<sz.length then 3 else if sz.any KY=true then 2 else if 32<ex.length\/32<cs.length then 3 else if Yc sz [] ex≠0 then Yc sz [] ex else YQ sz [] cs
def mns (a b:LI):LI:=mrg (λp q=>p && !q) a b
def VL (a:QU):Bool:=decide (Jt a=0) && decide ((Yg a).st=a.st/\(Yg a).al=a.al/\(Yg a).mr=a.mr/\(Yg a).ed=a.ed)
def Z1 (nev:Nat)(amg:LI)(seen:List ByteArray)(x:Y0):Int :=
 if YE x.nm=false then 7 else if x.nm∈seen then 8 else if Jt x.a≠0 then Jt x.a else if VL x.a=false then 6 else if x.a.st=0 then 12 else
 if(x.a.al.any λe=>decide ((nev:Int)<=e))=true then 2 else if(mns x.a.al amg).length≠0 then 9 else 0
def Yr (nev:Nat)(al:LI):List ByteArray->LI->List Y0->Int×List ByteArray×LI
 | s,u,[]=>(0,s,u)
 | s,u,x::l=>if Z1 nev al s x≠0 then(Z1 nev al s x,s,u)else Yr nev al (s++[x.nm]) (mrg (· || ·) u x.a.al) l
def Jv (nev:Nat)(u:LI):List ByteArray->List Y0->Int
 | _,[]=>0
 | s,x::l=>if Z1 nev u s x≠0 then Z1 nev u s x else Jv nev u (s++[x.nm]) l
def szs (l:List Y0):LI:=l.map (·.a.st)
def auts (l:List Y0):List QU:=l.map (·.a)
def Zf (c:Zy):Int :=
 if KG c.ev≠0 then KG c.ev else if c.co.length=0 then 12 else if 8<c.co.length\/12<c.co.length+c.rq.length then 3 else
 if(Yr c.ev.length (Vs c.ev.length) [] [] c.co).1≠0 then(Yr c.ev.length (Vs c.ev.length) [] [] c.co).1 else
 if Jv c.ev.length (Yr c.ev.length (Vs c.ev.length) [] [] c.co).2.2 (Yr c.ev.length (Vs c.ev.length) [] [] c.co).2.1 c.rq≠0 then Jv c.ev.length (Yr c.ev.length (Vs c.ev.length) [] [] c.co).2.2 (Yr c.ev.length (Vs c.ev.length) [] [] c.co).2.1 c.rq else
 Ys (szs c.co) c.ex c.cs
def Us (t:LI)(x:Uf):Bool:=x.ls.all λl=>decide (t.getD l.1.toNat 0=l.2)
def Qso (t:LI)(k:xT):Int:=k.ts.foldl (λs p=>s+p.2*t.getD p.1.toNat 0) 0
def qz (t:LI)(k:xT):Bool:=decide (k.bd<Qso t k)
def vio (c:Zy)(t:LI):Option (Int×Int):=
 if 0<=fix (Us t) 0 c.ex then some (1,fix (Us t) 0 c.ex)else if 0<=fix (qz t) 0 c.cs then some (2,fix (qz t) 0 c.cs)else none
def rfr (v:Int):Nat->List Y0->LI->Int
 | i,x::l,s::ss=>if v∈x.a.al/\(xx x.a.ed s v).isSome=false then(i:Int)else rfr v (i+1) l ss
 | _,_,_=>-1
structure Rsn where
 st:Int
 kd:Int
 ix:Int
 ev:Int
def rfd (c:Zy)(rs:LI):LI->Option (Int×Int)
 | []=>none
 | v::l=>if 0<=rfr v 0 c.rq rs/\(c.ev.getD v.toNat ⟨.empty,false,false,false,0⟩).co=false then some (rfr v 0 c.rq rs,v)else rfd c rs l
def Qiu (a:QU)(s:Int):LI:=(Z2 a.ed s).map (·.2.1)
def rsn (c:Zy)(pl:QU)(plc:Int)(i:Nat)(t:LI):Option Rsn :=
 match vio c (t.take c.co.length)with
 | some (k,j)=>some ⟨i,k,j,-1⟩
 | none=>match rfd c (t.drop c.co.length) (Qiu pl plc)with
  | some (j,v)=>some ⟨i,3,j,v⟩
  | none=>none
structure Spc where
 a:QU
 co:List (LI)
 rq:List (LI)
 pl:LI
 fb:List Rsn
def plx (ps:List (LI))(t:LI):Int:=if t∈ps then(ps.idxOf t:Int)else 0
def Qql (c:Zy)(pl:QU)(ps:List (LI))(s:Spc)(p:LI×Nat):Spc :=
 ⟨s.a,s.co++[p.1.take c.co.length],s.rq++[p.1.drop c.co.length],s.pl++[plx ps (p.1.take c.co.length)],
  match rsn c pl (plx ps (p.1.take c.co.length)) p.2 p.1 with|some r=>s.fb++[r]|none=>s.fb⟩
def Yo (c:Zy):Int:=if Zf c≠0 then Zf c else if UK (auts c.co)≠0 then UK (auts c.co)else match xz (auts c.co)with
 | none=>3
 | some _=>if UK (auts c.co++auts c.rq)≠0 then UK (auts c.co++auts c.rq)else match xz (auts c.co++auts c.rq)with
  | none=>3
  | some _=>0
def syA (l:List QU):QU:=match xz l with|none=>⟨[],0,[],[]⟩|some z=>z.1
def syQ (l:List QU):List (LI):=match xz l with|none=>[]|some z=>z.2
def spc (c:Zy):Spc:=(syQ (auts c.co++auts c.rq)).zipIdx.foldl (Qql c (syA (auts c.co)) (syQ (auts c.co))) ⟨syA (auts c.co++auts c.rq),[],[],[],[]⟩
abbrev Lf:=List Bool
def lft (l:Lf)(s:Int):Bool:=l.getD s.toNat false
def cut (l:Lf)(s:Int):Lf:=l.set s.toNat false
def X9 (ul:LI)(lf:Lf)(out:xF)(e:Ed):xF:=
 if lft lf e.1=false\/lft lf e.2.2=true\/e.2.1∉ul then out else if out.getLast?.map (·.1)=some e.1 then out else out++[(e.1,e.2.1)]
def lost (a:QU)(ul:LI)(lf:Lf):xF:=a.ed.foldl (X9 ul lf) []
def Vu (lf:Lf)(x:Int)(z:LI×LI)(y:Int):LI×LI:=if lft lf y=true/\xo z.1 y.toNat<0 then(z.1.set y.toNat (xo z.1 x.toNat+1),z.2++[y])else z
def dsL (es:List Ed)(lf:Lf):Nat->Nat->LI×LI->LI×LI
 | 0,_,z=>z
 | f+1,i,z=>if i<z.2.length then dsL es lf f (i+1) ((YJ es (xo z.2 i).toNat).foldl (Vu lf (xo z.2 i)) z)else z
def ds1 (lf:Lf)(z:LI×LI)(x:Int):LI×LI:=if lft lf x=true then(z.1.set x.toNat 0,z.2++[x])else z
def ds0 (a:QU)(lf:Lf):LI×LI:=a.mr.foldl (ds1 lf) (oK a.st.toNat (-1),[])
def dsts (a:QU)(lf:Lf):LI:=(dsL a.ed lf a.st.toNat 0 (ds0 a lf)).1
def Je (lf:Lf):Nat->LI->LI
 | _,[]=>[]
 | i,d::l=>if lf.getD i false=true/\d<0 then(i:Int)::Je lf (i+1) l else Je lf (i+1) l
def nxs (a:QU)(ul:LI)(lf:Lf):LI:=if(lost a ul lf).length≠0 then(lost a ul lf).map (·.1)else Je lf 0 (dsts a lf)
def VB (a:QU)(ul:LI):Nat->Lf->Lf
 | 0,lf=>lf
 | f+1,lf=>if(nxs a ul lf).length=0 then lf else VB a ul f ((nxs a ul lf).foldl cut lf)
def lf0 (n:Nat)(fb:LI):Lf:=fb.foldl cut (oK n true)
def Xq (a:QU)(fb ul:LI):Lf:=VB a ul (a.st.toNat+1) (lf0 a.st.toNat fb)
def rstr (a:QU)(lf:Lf):QU:=⟨a.al,a.st,a.mr,a.ed.filter λe=>lft lf e.2.2⟩
def QeL (a:QU)(lf:Lf):QU:=if a.st=0\/lft lf 0=false then⟨a.al,0,[],[]⟩else Yg (rstr a lf)
def Qbr (a:QU)(fb ul:LI):QU:=QeL a (Xq a fb ul)
def fbs (s:Spc):LI:=s.fb.map (·.st)
def suE (c:Zy):Int:=Yo c
def suA (c:Zy):QU:=Qbr (spc c).a (fbs (spc c)) (unc c.ev)
def orB (b:Nat)(k:Nat):Nat:=b ||| (1 <<< k)
def rqB (x:Y0):Nat->Nat->List Y0->Nat
 | _,b,[]=>b
 | k,b,y::l=>rqB x (k+1) (if(y.a.al.any λe=>decide (e∈x.a.al))=true then orB b k else b) l
def prB (ls:xF):Nat:=ls.foldl (λb l=>orB b l.1.toNat) 0
def srR (c:Zy):LN:=c.rq.map λx=>rqB x 0 0 c.co
def srX (c:Zy):LN:=c.ex.map λx=>prB x.ls
def srC (c:Zy):LN:=c.cs.map λx=>prB x.ts
def srK (c:Zy)(k:Int):LN:=if k=1 then srR c else if k=2 then srX c else srC c
structure Vw where
 kd:Int
 ix:Int
 co:LI
def Uh (k:Int):Nat->LN->List Vw
 | _,[]=>[]
 | i,b::l=>⟨k,i,setK b 8⟩::Uh k (i+1) l
def xq (c:Zy):List Vw:=Uh 1 0 (srR c)++(Uh 2 0 (srX c)++Uh 3 0 (srC c))
def sets (c:Zy):LN:=srR c++(srX c++srC c)
def Qe0 (c:Zy):Nat:=(sets c).foldl (λl b=>l &&& (65535 ^^^ b)) (2 ^ c.co.length - 1)
def rem (c:Zy):LI:=setK (Qe0 c) 8
def mdE (c:Zy)(m:Vw):Int:=if Zf c≠0 then Zf c else if m.kd<1\/3<m.kd then 11 else if m.ix<0\/((srK c m.kd).length:Int)<=m.ix then 10 else if m.co=setK ((srK c m.kd).getD m.ix.toNat 0) 8 then 0 else 13
structure Prt where
 co:LI
 rq:LI
 ex:LI
 cs:LI
def chs (l:List Y0)(ix:LI):List Y0:=ix.map λi=>l.getD i.toNat ⟨.empty,⟨[],0,[],[]⟩⟩
def ixP (co:LI)(ls:xF):xF:=ls.map λl=>((co.idxOf l.1:Int),l.2)
def mis (co:LI)(ls:xF):Bool:=ls.any λl=>decide (l.1∉co)
def Qnq (c:Zy)(p:Prt):List Uf:=p.ex.map λi=>⟨(c.ex.getD i.toNat ⟨.empty,[]⟩).nm,ixP p.co (c.ex.getD i.toNat ⟨.empty,[]⟩).ls⟩
def Qns (c:Zy)(p:Prt):List xT:=p.cs.map λi=>⟨(c.cs.getD i.toNat ⟨.empty,[],0⟩).nm,ixP p.co (c.cs.getD i.toNat ⟨.empty,[],0⟩).ts,(c.cs.getD i.toNat ⟨.empty,[],0⟩).bd⟩
def QhR (c:Zy)(p:Prt):Zy:=⟨c.ev,chs c.co p.co,chs c.rq p.rq,Qnq c p,Qns c p⟩
def Qsq (c:Zy)(p:Prt):Bool:=(p.ex.any λi=>mis p.co (c.ex.getD i.toNat ⟨.empty,[]⟩).ls) || (p.cs.any λi=>mis p.co (c.cs.getD i.toNat ⟨.empty,[],0⟩).ts)
def Qbz (c:Zy)(p:Prt):Int :=
 if Zf c≠0 then Zf c else if Kv c.co.length none p.co≠0 then Kv c.co.length none p.co else if Kv c.rq.length none p.rq≠0 then Kv c.rq.length none p.rq else
 if Kv c.ex.length none p.ex≠0 then Kv c.ex.length none p.ex else if Kv c.cs.length none p.cs≠0 then Kv c.cs.length none p.cs else if Qsq c p=true then 13 else Zf (QhR c p)
def prt (m:Vw):Prt:=⟨m.co,if m.kd=1 then[m.ix]else[],if m.kd=2 then[m.ix]else[],if m.kd≠1/\m.kd≠2 then[m.ix]else[]⟩
def qR (c:Zy)(m:Vw):Int:=if mdE c m≠0 then mdE c m else Qbz c (prt m)
def Jr (c:Zy)(m:Vw):Zy:=QhR c (prt m)
def msE (c:Zy)(m:Vw):Int:=if qR c m≠0 then qR c m else suE (Jr c m)
def msA (c:Zy)(m:Vw):QU:=suA (Jr c m)
def msL (c:Zy):List Vw->Int
 | []=>0
 | m::l=>if msE c m≠0 then msE c m else msL c l
def UO (c:Zy):Int:=if Zf c≠0 then Zf c else msL c (xq c)
def zG (c:Zy):List QU:=(xq c).map (msA c)++(rem c).map λi=>(c.co.getD i.toNat ⟨.empty,⟨[],0,[],[]⟩⟩).a
def Ug (l:List QU):Int:=if UK l≠0 then UK l else match xz l with|none=>3|some _=>0
def jU (c:Zy):Int:=if UO c≠0 then UO c else Ug (zG c)
def tgA (c:Zy):QU:=syA (zG c)
theorem Qrr (lf:Lf)(x:Int)(z:LI×LI)(y:Int):Vu lf x z y=if lft lf y=true then bwE x z y else z:=by
 unfold Vu bwE;by_cases h:lft lf y=true <;> by_cases E:xo z.1 y.toNat<0 <;> simp[h,E]
structure DsI (n:Nat)(z:LI×LI):Prop where
 ok:QmL n z.1 z.2
 cnt:neg z.1+z.2.length=n
 s0:QrU z.1 z.2
theorem DsI.le {z:LI×LI}(h:DsI n z):z.2.length<=n:=by have:=h.cnt;omega
theorem QlE {lf:Lf}{x y:Int}{z:LI×LI}(h:DsI n z)(hx:0<=x/\x<(n:Int))(E:0<=xo z.1 x.toNat)(H:0<=y/\y<(n:Int)):
  DsI n (Vu lf x z y)/\0<=xo (Vu lf x z y).1 x.toNat:=by
 rw[Qrr];split
 .obtain⟨I,O,J⟩:=QrL h.ok hx E H;exact⟨⟨I,ov h.cnt,Qme h.ok E H h.s0⟩,J⟩
 exact⟨h,E⟩
theorem QoR (lf:Lf)(x:Int)(z:LI×LI)(y:Int):∃r,(Vu lf x z y).2=z.2++r:=by
 unfold Vu;split
 .exact⟨[y],U⟩
 exact⟨[],oe⟩
theorem Qcm {n:Nat}{lf:Lf}{x:Int}(hx:0<=x/\x<(n:Int)):∀(l:LI) (z:LI×LI),DsI n z->0<=xo z.1 x.toNat->(∀y∈l,0<=y/\y<(n:Int)) ->
  DsI n (l.foldl (Vu lf x) z)/\∃r,(l.foldl (Vu lf x) z).2=z.2++r
 | [],z,h,_,_=>⟨h,[],oe⟩
 | y::l,z,h,H,E=>by
  obtain⟨I,J⟩:=QlE (lf:=lf) h hx H (E y Lr);obtain⟨O,r2,S⟩:=Qcm hx l _ I J (λy T=>E y (Ll _ T));obtain⟨r1,V⟩:=QoR lf x z y;exact⟨O,r1++r2,by rw[LZ,S,V,LD]⟩
theorem QlD {es:List Ed}{lf:Lf}{f:Nat}{z:LI×LI}(h:¬i<z.2.length):dsL es lf f i z=z:=by
 cases f with
 | zero=>rfl
 | succ f=>rw[dsL,O0 h]
theorem Qhv {x:Int}(E:0<=x):(zg n l).set x.toNat 0=zg n (l++[x]):=by
 apply Mh
 .simp[zg]
 intro i H I;rw[Nf];by_cases e:x.toNat=i
 .have:(i:Int)=x:=oa
  rw[O1 e];simp[zg,this]
 have:(i:Int)≠x:=oa
 rw[O0 e];simp[zg,this]
theorem QdX {lf:Lf}(H:∀x∈a.mr,0<=x)(k:Nat):(a.mr.take k).foldl (ds1 lf) (oK a.st.toNat (-1),[])=(zg a.st.toNat ((a.mr.take k).filter (lft lf)),(a.mr.take k).filter (lft lf)):=by
 induction k with
 | zero =>
  simp only[ON,List.foldl_nil,List.filter_nil];congr 1;apply Mh
  .simp[zg]
  intro i I J;simp[zg]
 | succ k ih =>
  by_cases hk:k<a.mr.length
  .rw[Lo hk,Mk,ih,Mc];simp only[List.foldl_cons,List.foldl_nil,ds1];by_cases E:lft lf (a.mr[k]'hk)=true
   .rw[O1 E,Qhv (H _ (Lm hk))];simp[E]
   rw[O0 E];simp[E]
  have e:a.mr.take (k+1)=a.mr.take k:=by rw[Lt oa,Lt oa]
  rw[e];exact ih
theorem q7 {lf:Lf}(E:∀x∈a.mr,0<=x):ds0 a lf=(zg a.st.toNat (a.mr.filter (lft lf)),a.mr.filter (lft lf)):=by
 have:=QdX (lf:=lf) E a.mr.length;rw[Nd]at this;exact this
theorem QnT (l:LI)(H:l.Nodup)(I:∀x∈l,0<=x/\x<(n:Int)):neg (zg n l)+l.length=n:=by
 have key:∀k,k<=l.length->neg (zg n (l.take k))+k=n:=by
  intro k;induction k with
  | zero =>
   intro _;have e:zg n (l.take 0)=oK n (-1):=by
    apply Mh
    .simp[zg]
    intro i J Y;simp[zg]
   rw[e];unfold neg;simp
  | succ k ih =>
   intro hk;have J:=ih oa;have hx:=I _ (Lm (show k<l.length by omega));rw[Lo (show k<l.length by omega),<-Qhv hx.1];have O:(l[k]'oa).toNat<(zg n (l.take k)).length:=by rw[Kx];omega
   have Z:=UY (zg n (l.take k)) (l[k]'oa).toNat 0 O (by
    have e:(((l[k]'oa).toNat:Nat):Int)=l[k]'oa:=oa
    have S:(l[k]'oa)∉l.take k:=λh=>by
     obtain⟨j,T,E⟩:=LM h;rw[Nj]at E;have V:j<k:=by simp at T;omega
     have:=(Mq.1 H) j k oa oa V;exact this E
    simp[zg,e,S]) (Ng _)
   omega
 have:=key l.length (Lu _)
 rwa [Nd]at this
theorem Qco {lf:Lf}(E:Zo a)(I:a.st=(n:Int)):DsI n (ds0 a lf):=by
 have H:∀x∈a.mr.filter (lft lf),0<=x/\x<(n:Int):=λx hx=>by rw[<-I];exact E.mr x (LY.1 hx).1
 have e:a.st.toNat=n:=oa
 rw[q7 (λx hx=>(E.mr x hx).1),e];refine⟨QrM H,QnT _ ((E.mri.imp (λh=>oa)).filter _) H,λx hx=>?_⟩;rw[Qpk (H x hx) hx];exact Ng _
def VP (l:Lf):Nat:=l.countP (· == true)
theorem Qct (l:Lf):VP l<=l.length:=List.countP_le_length
theorem Qhf (l:Lf)(s:Int):(cut l s).length=l.length:=by simp[cut]
theorem KU:∀(xs:LI) (l:Lf),(xs.foldl cut l).length=l.length
 | [],_=>rfl
 | x::xs,l=>by rw[LZ,KU xs,Qhf]
theorem Qhh:∀(l:Lf) (i:Nat),VP (l.set i false)+(if l.getD i false=true then 1 else 0)=VP l
 | [],i=>by simp[VP]
 | b::l,0=>by cases b <;> simp[VP]
 | b::l,i+1=>by
  have ih:=Qhh l i;unfold VP at *;simp only[List.set_cons_succ,List.countP_cons,List.getD_cons_succ];omega
theorem Qhi (l:Lf)(s:Int):VP (cut l s)+(if lft l s=true then 1 else 0)=VP l:=Qhh l s.toNat
theorem Qd5:∀(xs:LI) (l:Lf),VP (xs.foldl cut l)<=VP l
 | [],_=>Lu _
 | x::xs,l=>by
  have E:=Qd5 xs (cut l x);have H:=Qhi l x;rw[LZ];omega
theorem QlP {xs:LI}{l:Lf}(h:0<xs.length)(E:∀x∈xs,lft l x=true):VP (xs.foldl cut l)<VP l:=by
 cases xs with
 | nil=>simp at h
 | cons x xs =>
  have I:=Qd5 xs (cut l x);have H:=Qhi l x;rw[O1 (E x Lr)]at H;rw[LZ];omega
def QmC (a:QU)(lf:Lf)(out:xF):Prop:=∀p∈out,lft lf p.1=true/\∃e∈a.ed,e.1=p.1/\e.2.1=p.2
theorem Qn1 {lf:Lf}{out:xF}{e:Ed}(h:QmC a lf out)(H:e∈a.ed):QmC a lf (X9 ul lf out e)/\(X9 ul lf out e).length<=out.length+1:=by
 unfold X9;split
 .exact⟨h,oa⟩
 rename_i I;split
 .exact⟨h,oa⟩
 refine⟨λp E=>?_,oe⟩;simp only[oU,oJ]at E;rcases E with E|rfl
 .exact h p E
 exact⟨by cases J:lft lf e.1 with|true=>rfl|false=>exact O3 (.inl J) I,e,H,rfl,rfl⟩
theorem y7 {a:QU}{ul:LI}{lf:Lf}:∀(l:List Ed) (out:xF),(∀e∈l,e∈a.ed)->QmC a lf out->QmC a lf (l.foldl (X9 ul lf) out)/\(l.foldl (X9 ul lf) out).length<=out.length+l.length
 | [],out,_,h=>⟨h,oe⟩
 | e::l,out,E,h=>by
  obtain⟨H,O⟩:=Qn1 (ul:=ul) h (E e Lr);obtain⟨I,S⟩:=y7 l _ (λe J=>E e (Ll _ J)) H;exact⟨I,by rw[LZ,LX];omega⟩
theorem QbZ (a:QU)(ul:LI)(lf:Lf):QmC a lf (lost a ul lf)/\(lost a ul lf).length<=a.ed.length:=by
 have:=y7 (ul:=ul) (lf:=lf) a.ed [] (λ_ h=>h) (λp E=>by cases E);unfold lost;simpa using this
theorem Vk (lf:Lf):∀(l:LI) (i:Nat),(∀x∈Je lf i l,lft lf x=true/\(i:Int)<=x/\x<(i:Int)+l.length)/\(Je lf i l).length<=l.length
 | [],i=>⟨λx hx=>(by cases hx),Lu _⟩
 | d::l,i=>by
  obtain⟨E,I⟩:=Vk lf l (i+1);unfold Je;split
  .rename_i H;refine⟨λx hx=>?_,by simp;omega⟩;rcases Lk.1 hx with rfl|hx
   .exact⟨by unfold lft;simpa using H.1,Ng _,by simp;omega⟩
   have:=E x hx;exact⟨this.1,oa,by simp only[oV];omega⟩
  refine⟨λx hx=>?_,by simp;omega⟩;have:=E x hx;exact⟨this.1,oa,by simp only[oV];omega⟩
theorem Qe9 {lf:Lf}(x:Int)(hx:x∈nxs a ul lf):lft lf x=true:=by
 unfold nxs at hx;split at hx
 .obtain⟨p,E,rfl⟩:=Ly.1 hx;exact((QbZ a ul lf).1 p E).1
 exact((Vk lf (dsts a lf) 0).1 x hx).1
theorem Qaw {f:Nat}{lf:Lf}(h:(nxs a ul lf).length=0):VB a ul f lf=lf:=by
 cases f with
 | zero=>rfl
 | succ f=>rw[VB,O1 h]
theorem qF {f:Nat}{lf:Lf}(h:(nxs a ul lf).length≠0):VB a ul (f+1) lf=VB a ul f ((nxs a ul lf).foldl cut lf):=by rw[VB,O0 h]
theorem yU {lf:Lf}(h:(nxs a ul lf).length≠0):VP ((nxs a ul lf).foldl cut lf)<VP lf:=QlP oa (λx hx=>Qe9 x hx)
theorem Qav (h:Zo a)(lf:Lf):Zo (rstr a lf):=
 ⟨h.al,h.ali,h.st0,h.st1,h.mr,h.mri,λe E=>h.ed e (LY.1 E).1,h.edi.filter _⟩
theorem QpM {a:QU}{ul:LI}:∀(f:Nat) (lf:Lf),VP lf<f->(nxs a ul (VB a ul f lf)).length=0
 | 0,_,h=>oa
 | f+1,lf,h=>by
  by_cases E:(nxs a ul lf).length=0
  .rw[VB,O1 E];exact E
  rw[qF E];have:=yU E;exact QpM f _ oa
theorem QjR (a:QU)(fb ul:LI):(nxs a ul (Xq a fb ul)).length=0:=by
 refine QpM _ _ ?_;have h:=Qct (lf0 a.st.toNat fb);have:(lf0 a.st.toNat fb).length=a.st.toNat:=by unfold lf0;rw[KU,ME]
 omega
theorem Qn4 {l:Lf}{x:Int}(h:lft (cut l x) s=true):lft l s=true/\x.toNat≠s.toNat:=by
 unfold lft cut at *;rw[LR,List.getElem?_set]at h;by_cases e:x.toNat=s.toNat
 .rw[O1 e]at h;split at h <;> simp at h
 rw[O0 e,<-LR]at h;exact⟨h,e⟩
theorem J1 {s:Int}:∀(xs:LI) (l:Lf),lft (xs.foldl cut l) s=true->lft l s=true/\∀x∈xs,x.toNat≠s.toNat
 | [],l,h=>⟨h,λx hx=>(by cases hx)⟩
 | x::xs,l,h=>by
  obtain⟨H,I⟩:=J1 xs (cut l x) h;obtain⟨J,O⟩:=Qn4 H;refine⟨J,λy E=>?_⟩;rcases Lk.1 E with e|E
  .rw[e];exact O
  exact I y E
theorem Qb1 {a:QU}{ul:LI}{s:Int}:∀(f:Nat) (l:Lf),lft (VB a ul f l) s=true->lft l s=true
 | 0,l,h=>h
 | f+1,l,h=>by
  rw[VB]at h;split at h
  .exact h
  exact(J1 _ _ (Qb1 f _ h)).1
theorem QkB (h:lft (Xq a fb ul) s=true):∀x∈fb,x.toNat≠s.toNat:=(J1 fb _ (Qb1 _ _ h)).2
theorem Qn2 {lf:Lf}{e:Ed}{out:xF}(h:out≠[]):X9 ul lf out e≠[]:=by
 unfold X9;split
 .exact h
 split
 .exact h
 simp
theorem Qdy {ul:LI}{lf:Lf}:∀(l:List Ed) {out:xF},out≠[]->l.foldl (X9 ul lf) out≠[]
 | [],_,h=>h
 | _::l,_,h=>Qdy l (Qn2 h)
theorem Qdz {ul:LI}{lf:Lf}{e:Ed}(E:lft lf e.1=true)(H:lft lf e.2.2=false)(I:e.2.1∈ul):∀(l:List Ed) (out:xF),e∈l->l.foldl (X9 ul lf) out≠[]
 | x::l,out,h=>by
  rcases Lk.1 h with e1|h
  .subst e1;refine Qdy l ?_;unfold X9;rw[O0 (by rw[E,H];simp[I])];split
   .rename_i J;intro O;rw[O]at J;cases J
   simp
  exact Qdz E H I l _ h
theorem Qn6 {e:Ed}(H:e∈a.ed)(I:lft (Xq a fb ul) e.1=true)(J:e.2.1∈ul):lft (Xq a fb ul) e.2.2=true:=by
 have hf:=QjR a fb ul;cases O:lft (Xq a fb ul) e.2.2 with
 | true=>rfl
 | false =>
  have S:lost a ul (Xq a fb ul)≠[]:=Qdz I O J a.ed [] H;have E:(lost a ul (Xq a fb ul)).length≠0:=λh=>S (LA h);unfold nxs at hf;rw[O1 E,Lj]at hf;exact O3 hf E
def pst (v:Int)(a:QU)(x:Int):Option Int:=if v∈a.al then xx a.ed x v else some x
def nx (v:Int)(A:Nat->QU)(x:Nat->Int)(i:Nat):Int:=(pst v (A i) (x i)).getD 0
theorem Qp3 {l:List α}{f:α->Int}(h:i<l.length):xo (l.map f) i=f (l[i]'h):=by
 unfold xo;simp[oQ,h]
abbrev QD (p:Int×Int):LV:=[sS p.1,sS p.2]
theorem Yw (p:Int×Int):(QD p).length=2:=rfl
abbrev P2s (L:LN)(H:xI)(v:O9)(l:xF):Prop:=Zk L H v l.length 2 (l.flatMap QD)
abbrev Zs (e:Kf):LV:=[.string e.nm,.bool e.co,.bool e.ob,.bool e.fo,sS e.fl]
theorem V2 (e:Kf):(Zs e).length=5:=rfl
abbrev JE (s:ByteArray):Prop:=s.size<=9223372036854775807
structure Uk (L:LN)(H:xI)(v:O9)(l:List Kf):Prop where
 arr:Zk L H v l.length 5 (l.flatMap Zs)
 nm:∀e∈l,JE e.nm
theorem Uk.J {L:LN}{w w':O8}{v:O9}{l:List Kf}(h:Uk L ↑w v l)(E:sW w w'):Uk L ↑w' v l:=⟨h.arr.J E,h.nm⟩
theorem Uk.st {L:LN}{w w':O8}{v:O9}{l:List Kf}(h:Uk L ↑w v l)(E:xj L w w'):Uk L ↑w' v l:=⟨h.arr.st E,h.nm⟩
theorem Uk.up {L L':LN}{H:xI}{v:O9}{l:List Kf}(h:Uk L H v l)(E:∀b∈L',b∈L\/H.size<=b):Uk L' H v l:=⟨h.arr.up E,h.nm⟩
structure IV where
 nm:ByteArray
 p:AV
def IV.it (q:IV):Y0:=⟨q.nm,q.p.a⟩
abbrev QK (q:IV):LV:=[.string q.nm,q.p.va,sS q.p.a.st,q.p.vm,q.p.ve]
theorem Yj (q:IV):(QK q).length=5:=rfl
structure XX (L:LN)(H:xI)(v:O9)(qs:List IV):Prop where
 arr:Zk L H v qs.length 5 (qs.flatMap QK)
 each:∀q∈qs,ZE L H q.p.va q.p.vm q.p.ve q.p.a
 nm:∀q∈qs,JE q.nm
structure XV where
 nm:ByteArray
 v:O9
 ls:xF
def XV.x (q:XV):Uf:=⟨q.nm,q.ls⟩
abbrev Q0 (q:XV):LV:=[.string q.nm,q.v]
theorem XG (q:XV):(Q0 q).length=2:=rfl
structure jT (L:LN)(H:xI)(v:O9)(qs:List XV):Prop where
 arr:Zk L H v qs.length 2 (qs.flatMap Q0)
 each:∀q∈qs,P2s L H q.v q.ls
 nm:∀q∈qs,JE q.nm
structure KV where
 nm:ByteArray
 v:O9
 ts:xF
 bd:Int
def KV.k (q:KV):xT:=⟨q.nm,q.ts,q.bd⟩
abbrev Q5 (q:KV):LV:=[.string q.nm,q.v,sS q.bd]
theorem Xs (q:KV):(Q5 q).length=3:=rfl
structure jK (L:LN)(H:xI)(v:O9)(qs:List KV):Prop where
 arr:Zk L H v qs.length 3 (qs.flatMap Q5)
 each:∀q∈qs,P2s L H q.v q.ts
 nm:∀q∈qs,JE q.nm
theorem XX.J {L:LN}{w w':O8}{v:O9}{qs:List IV}(h:XX L ↑w v qs)(E:sW w w'):XX L ↑w' v qs:=⟨h.arr.J E,λq H=>(h.each q H).J E,h.nm⟩
theorem XX.st {L:LN}{w w':O8}{v:O9}{qs:List IV}(h:XX L ↑w v qs)(E:xj L w w'):XX L ↑w' v qs:=⟨h.arr.st E,λq H=>(h.each q H).st E,h.nm⟩
theorem XX.up {L L':LN}{H:xI}{v:O9}{qs:List IV}(h:XX L H v qs)(E:∀b∈L',b∈L\/H.size<=b):XX L' H v qs:=⟨h.arr.up E,λq I=>(h.each q I).up E,h.nm⟩
theorem jT.J {L:LN}{w w':O8}{v:O9}{qs:List XV}(h:jT L ↑w v qs)(E:sW w w'):jT L ↑w' v qs:=⟨h.arr.J E,λq H=>(h.each q H).J E,h.nm⟩
theorem jT.st {L:LN}{w w':O8}{v:O9}{qs:List XV}(h:jT L ↑w v qs)(E:xj L w w'):jT L ↑w' v qs:=⟨h.arr.st E,λq H=>(h.each q H).st E,h.nm⟩
theorem jT.up {L L':LN}{H:xI}{v:O9}{qs:List XV}(h:jT L H v qs)(E:∀b∈L',b∈L\/H.size<=b):jT L' H v qs:=⟨h.arr.up E,λq I=>(h.each q I).up E,h.nm⟩
theorem jK.J {L:LN}{w w':O8}{v:O9}{qs:List KV}(h:jK L ↑w v qs)(E:sW w w'):jK L ↑w' v qs:=⟨h.arr.J E,λq H=>(h.each q H).J E,h.nm⟩
theorem jK.st {L:LN}{w w':O8}{v:O9}{qs:List KV}(h:jK L ↑w v qs)(E:xj L w w'):jK L ↑w' v qs:=⟨h.arr.st E,λq H=>(h.each q H).st E,h.nm⟩
theorem jK.up {L L':LN}{H:xI}{v:O9}{qs:List KV}(h:jK L H v qs)(E:∀b∈L',b∈L\/H.size<=b):jK L' H v qs:=⟨h.arr.up E,λq I=>(h.each q I).up E,h.nm⟩
structure CL where
 ve:O9
 vc:O9
 vr:O9
 vx:O9
 vk:O9
 ev:List Kf
 co:List IV
 rq:List IV
 ex:List XV
 cs:List KV
def CL.Z (c:CL):Zy:=⟨c.ev,c.co.map (·.it),c.rq.map (·.it),c.ex.map (·.x),c.cs.map (·.k)⟩
abbrev CL.cells (c:CL):LV:=[c.ve,c.vc,c.vr,c.vx,c.vk]
abbrev CL.val (c:CL):O9:=.agg #[c.ve,c.vc,c.vr,c.vx,c.vk]
structure ZG (L:LN)(H:xI)(c:CL):Prop where
 ev:Uk L H c.ve c.ev
 co:XX L H c.vc c.co
 rq:XX L H c.vr c.rq
 ex:jT L H c.vx c.ex
 cs:jK L H c.vk c.cs
theorem ZG.J {L:LN}{w w':O8}{c:CL}(h:ZG L ↑w c)(E:sW w w'):ZG L ↑w' c:=⟨h.ev.J E,h.co.J E,h.rq.J E,h.ex.J E,h.cs.J E⟩
theorem ZG.st {L:LN}{w w':O8}{c:CL}(h:ZG L ↑w c)(E:xj L w w'):ZG L ↑w' c:=⟨h.ev.st E,h.co.st E,h.rq.st E,h.ex.st E,h.cs.st E⟩
theorem ZG.up {L L':LN}{H:xI}{c:CL}(h:ZG L H c)(E:∀b∈L',b∈L\/H.size<=b):ZG L' H c:=⟨h.ev.up E,h.co.up E,h.rq.up E,h.ex.up E,h.cs.up E⟩
theorem ZG.ones {H:xI}{c:CL}(h:ZG L H c):Zj c.cells:=⟨h.ev.arr.one,h.co.arr.one,h.rq.arr.one,h.ex.arr.one,h.cs.arr.one,La⟩
def Qf3 (N:Nat)(H:xI)(v:O9)(k:Zy):Prop:=∃c:CL,v=c.val/\c.Z=k/\∀L:LN,(∀b∈L,b<N)->ZG L H c
theorem Uc (s:ByteArray)(ha:JE s)(w:O8):QZ sV 130 [.string s] w λr w'=>r=.bool (YE s)/\w'=w:=by
 unfold JE at ha;refine Zt func130 ?_;refine Qc<|Qb<|Qd<|Qj<|x (Qe3 U)<|Qa<|xe<|Q2 (α:=Nat) [(2,5),(8,46)] (λz=>[(8,sS z)]) (λz w'=>w'=w/\z<=s.size/\(oS z (s.size - z)).all (nmQ s)=(oS 0 s.size).all (nmQ s)) (λz=>s.size - z) 0 Lb ⟨U,Lp _,by rw[NQ]⟩ ?_;rintro k g Z ⟨rfl,hk,E⟩;refine Zi rfl U (λH=>?_) (λH=>?_)
 .refine Qt ?_;have hb:s.size<=k:=by have he:¬(k:Int)<(s.size:Int):=H;omega
  rw[Qnw hb]at E;have I:YE s=decide (0<s.size/\s.size<=32):=by unfold YE;rw[<-E];simp
  rw[I];refine QX (α:=Bool) [(2,2),(47,54)] (λz=>[(2,.bool z)]) (λz w'=>w'=Z/\z=decide (0<s.size/\s.size<=32)) om ?_ ?_
  .refine Qq<|Qa<|x (Qe3 U)<|xb (ZX U U) (λhg=>?_) (λhg=>?_)
   .refine Qa<|Qa<|x (Qe3 U)<|x (KL U U)<|QB U<|Qb<|⟨_,Lb,U,by first|exact bT oa|exact bF oa|exact bD oa⟩
   refine Qa<|Zm<|QB U<|Qb<|⟨_,Lb,U,by first|exact bT oa|exact bF oa|exact bD oa⟩
  rintro z g w2 ⟨rfl,rfl⟩;exact Qi ⟨[_],Lb,U,U⟩
 have J:k<s.size:=by have he:(k:Int)<(s.size:Int):=H;omega
 rw[QjU J,M4]at E;refine Qe<|Qd<|Qn<|Qj<|Qb<|Qj<|Qa<|x (Qj1 (i:=k) U U J)<|Qb ?_;have O:nmQ s k=decide (nmP k (chr s k)):=rfl;refine Zd (chr s k) λc S=>?_;rw[S]at O;refine QX (α:=Bool) [(5,5),(14,31)] (λz=>[(5,.bool z)]) (λz w'=>w'=Z/\z=decide ((97<=c/\c<=122)\/(65<=c/\c<=90)\/c=95)) om ?_ ?_
 .rw[<-S];refine Qq<|Qa<|xb (YI U U) (λhh=>?_) (λhh=>?_)
  .refine Qa<|Qa<|xb (KL U U) (λhi=>?_) (λhi=>?_)
   .refine QB U<|Qa<|Zm<|Zm<|QB U<|Qa<|Z6<|x (qJ U) <|
     Qb<|⟨_,Lb,U,by first|exact bT oa|exact bF oa|exact bD oa⟩
   refine QB U<|Qa<|Qa<|xb (YI U U) (λT=>?_) (λT=>?_)
   .refine Qa<|Qa<|xb (KL U U) (λV=>?_) (λV=>?_)
    .refine QB U<|QB U<|Qa<|Z6<|QB U<|Qb<|⟨_,Lb,U,by first|exact bT oa|exact bF oa|exact bD oa⟩
    refine QB U<|QB U<|Qa<|Qa<|x (QW U U)<|QB U<|Qb<|⟨_,Lb,U,by first|exact bT oa|exact bF oa|exact bD oa⟩
   refine Qa<|Z6<|QB U<|QB U<|Qa<|Qa<|x (QW U U)<|QB U<|x Qh <|
    xe ?_
   exact⟨_,Lb,U,by first|exact bT oa|exact bF oa|exact bD oa⟩
  refine Qa<|Z6<|QB U<|Qa<|Qa<|xb (YI U U) (λT=>?_) (λT=>?_)
  .refine Qa<|Qa<|xb (KL U U) (λV=>?_) (λV=>?_)
   .refine QB U<|QB U<|Qa<|Z6<|QB U<|Qb<|⟨_,Lb,U,by first|exact bT oa|exact bF oa|exact bD oa⟩
   refine QB U<|QB U<|Qa<|Qa<|x (QW U U)<|QB U<|Qb<|⟨_,Lb,U,by first|exact bT oa|exact bF oa|exact bD oa⟩
  refine Qa<|Z6<|QB U<|QB U<|Qa<|Qa<|x (QW U U)<|QB U<|x Qh <|
   xe ?_
  exact⟨_,Lb,U,by first|exact bT oa|exact bF oa|exact bD oa⟩
 rintro z g w4 ⟨rfl,rfl⟩;refine QX (α:=Bool) [(32,45)] (λz=>[(45,.bool z)]) (λz w'=>w'=w4/\z=decide (¬nmP k c)) om ?_ ?_
 .unfold nmP;rw[<-S];refine Qq<|Qa<|xb (yM U) (λhj=>?_) (λhj=>?_)
  .refine Qa<|Qa<|xb (QW U U) (λhl=>?_) (λhl=>?_)
   .refine Qa<|Z6<|QB U<|Qa<|Z6<|QB U<|QB U<|xe ?_;exact⟨_,Lb,U,by first|exact bT oa|exact bF oa|exact bD oa⟩
   refine Qa<|Qa<|xb (YA U U) (λhm=>?_) (λhm=>?_)
   .refine QB U<|Qa<|Z6<|QB U<|QB U<|xe ?_;exact⟨_,Lb,U,by first|exact bT oa|exact bF oa|exact bD oa⟩
   refine QB U<|Qa<|Qa<|x (ZX U U)<|QB U<|QB U<|xe ?_;exact⟨_,Lb,U,by first|exact bT oa|exact bF oa|exact bD oa⟩
  refine Qa<|Zm<|Zm<|Zm<|K4<|QB U<|xe ?_;exact⟨_,Lb,U,by first|exact bT oa|exact bF oa|exact bD oa⟩
 rintro z g w5 ⟨rfl,rfl⟩;refine QY rfl (λY=>?_) (λY=>?_)
 .refine Qc<|Qb ?_;have I:YE s=false:=by
   unfold YE;rw[<-E,O,O6 Y];rfl
  exact Qi ⟨[_],Lb,by rw[I];rfl,U⟩
 refine Qe ?_;have hn:nmP k c:=Lq.1 Y;refine Qq<|QH U U<|Qa<|xe ?_;rw[O,O4 hn,OU]at E;exact⟨k+1,oa,Lb,U,J,E⟩
def nmM (l:List ByteArray):List (ByteArray×O9):=l.map λs=>(s,.bool true)
theorem QnS (l:List ByteArray)(s:ByteArray):xt (nmM l) s=if s∈l then some (.bool true)else none:=by
 induction l with
 | nil=>rfl
 | cons a l ih =>
  show(if a=s then some (Value.bool true)else xt (nmM l) s)=_
  rw[ih];by_cases h:a=s
  .subst h;simp
  have:s≠a:=λe=>h e.symm;simp[h,this]
theorem QgB {l:List ByteArray}{s:ByteArray}(h:s∉l):xu (nmM l) s (.bool true)=nmM (l++[s]):=by
 induction l with
 | nil=>rfl
 | cons a l ih =>
  have E:a≠s:=λe=>h (by subst e;exact Lr);show(if a=s then(a,Value.bool true)::nmM l else(a,Value.bool true)::xu (nmM l) s (.bool true))=_
  rw[O0 E,ih (λH=>h (Ll _ H))];rfl
section
variable {pS:String}
theorem Qdh [hm:Mp P t kt et (.bool false)][hk:Key P kt J2]{x:xd}{l:List ByteArray}{s:ByteArray}(h:Yh J2 ↑w b (nmM l))(hx:ev f x=.map (some b))(E:ev f y=.string s):
  sR P f w d (.lookup t x y false) ty pS af gd (.bool (decide (s∈l))):=by
 unfold sR
 rw[JO h hx E,QnS];by_cases H:s∈l <;> simp[H]
end
theorem QfJ {s:List ByteArray}{l:List Kf}{k:Nat}(h:k<l.length):zw s (l.drop k)=if Jw s (l[k]'h)≠0 then Jw s (l[k]'h)else zw (s++[(l[k]'h).nm]) (l.drop (k+1)):=by
 rw[Zz h];rfl
theorem jo {v:O9}{l:List Kf}(h:Uk L ↑w v l):QZ sV 73 [v] w λr w'=>r=sS (KG l)/\sW w w':=by
 have h3:=h.arr.le;refine Zt func73 ?_;refine Qc<|Qb<|Qd<|Qj<|QE h.arr U<|x (ZX U U)<|xe<|QY rfl (λh8=>?_) (λh8=>?_)
 .refine Qc<|Qb<|Qi ⟨[_],Lb,by unfold KG;rw[O1 (by have h9:(32:Int)<(l.length:Int):=h8;omega)];rfl,xj.Y _ _⟩
 have hm:KG l=zw [] l:=by unfold KG;rw[O0 (by have h9:¬(32:Int)<(l.length:Int):=h8;omega)]
 rw[hm];refine Qe<|Qc<|Qo<|YZ J2 λb9 w1 hh ho hp=>Qb<|Qd<|Qj<|QE (h.arr.J hh) U<|Qa<|xe<|Q2 (α:=Nat×List ByteArray) [(2,2),(5,5),(12,50)] (λz=>[(12,sS z.1)]) (λz w'=>z.1<=l.length/\sW w w'/\Yh J2 ↑w' b9 (nmM z.2)/\zw z.2 (l.drop z.1)=zw [] l) (λz=>l.length - z.1) (0,[]) Lb
  ⟨Lp _,hh,hp,U⟩ ?_
 rintro⟨k,sn⟩ g w2 ⟨hk,J,hq,H⟩;refine Zi rfl U (λha=>?_) (λha=>?_)
 .refine Qt ?_;have hr:l.length<=k:=by have hs:¬(k:Int)<(l.length:Int):=ha;omega
  rw[Lx hr]at H;refine Qc<|Qb<|Qi ⟨[_],Lb,by rw[<-H];rfl,J⟩
 have V:k<l.length:=by have hs:(k:Int)<(l.length:Int):=ha;omega
 rw[QfJ V]at H;have hi:=h.nm _ (Lm V);refine Qe<|Qd<|Qn<|Qc<|xp V2 (h.arr.J J) U U V λh4 hj=>?_;refine Zd (l[k]'V) λe he=>?_;rw[he]at hj H hi;refine x (Qu hj U U)<|QL [.string .empty,.bool false,.bool false,.bool false,sS 0] λb5 w3 ht hv I=>QJ (Zs e) I ⟨U,U,U,U,U,La⟩ λw4 hw I =>
  xe ?_
 have O:sW w2 w4:=ht.Q hw hv;have hl:=hq.J O;refine Qd<|Qn<|Qc<|Qm U I U U<|Qx<|(Uc e.nm hi _).S ?_;rintro r5 w5 ⟨rfl,rfl⟩;refine x (Zr U)<|Qb<|Q6 U (λhb=>?_) (λhb=>?_)
 .have S:YE e.nm=false:=by simpa using hb
  have E:Jw sn e=7:=by unfold Jw;rw[O1 S]
  refine Qc<|Qb<|Qi ⟨[_],Lb,by rw[<-H,E];rfl,J.I O⟩
 have S:¬YE e.nm=false:=by simpa using hb
 refine Qj<|Qm U I U U<|x (Qdh hl U U)<|Qb<|QY U (λT=>?_) (λT=>?_)
 .have E:Jw sn e=8:=by unfold Jw;rw[O0 S,O1 T]
  refine Qc<|Qb<|Qi ⟨[_],Lb,by rw[<-H,E];rfl,J.I O⟩
 refine QX (α:=Bool) [(26,34)] (λz=>[(26,.bool z)]) (λz w'=>w'=w5/\z=decide (e.fl<0\/4<e.fl)) om ?_ ?_
 .refine Qq<|Qm U I U U<|xb (YA U U) (λhy=>?_) (λhy=>?_)
  .refine Qa<|Zm<|QB U<|Qb<|⟨_,Lb,U,by first|exact bT oa|exact bF oa|exact bD oa⟩
  refine Qa<|Qm U I U U<|x (ZX U U)<|QB U<|Qb<|⟨_,Lb,U,by first|exact bT oa|exact bF oa|exact bD oa⟩
 rintro z g w6 ⟨rfl,rfl⟩;refine QY rfl (λY=>?_) (λY=>?_)
 .have E:Jw sn e=2:=by unfold Jw;rw[O0 S,O0 T,O1 Y]
  refine Qc<|Qb<|Qi ⟨[_],Lb,by rw[<-H,E];rfl,J.I O⟩
 refine QX (α:=Bool) [(35,46)] (λz=>[(35,.bool z)]) (λz w'=>w'=w6/\z=decide (e.fl≠0/\(e.co || e.ob)=true)) om ?_ ?_
 .refine Qq<|Qm U I U U<|xb (YS U U) (λZ=>?_) (λZ=>?_)
  .refine Qa<|QN U<|xB (Qk I U U) (λhc=>?_) (λhc=>?_)
   .refine Qa<|Z6<|QB U<|QB U<|Qb<|⟨_,Lb,U,by rw[hc,O4 ⟨Z,oe⟩]⟩
   refine Qa<|Qm U I U U<|QB U<|QB U<|Qb<|⟨_,Lb,U,?_⟩;show e.ob=_;rw[hc];cases e.ob <;> simp[show ¬e.fl=0 from Z]
  refine Qa<|Zm<|Zm<|QB U<|Qb<|⟨_,Lb,U,bF (λE=>Z E.1)⟩
 rintro z g w7 ⟨rfl,rfl⟩;refine QY rfl (λhg=>?_) (λhg=>?_)
 .have E:Jw sn e=13:=by unfold Jw;rw[O0 S,O0 T,O0 Y,O1 hg]
  refine Qc<|Qb<|Qi ⟨[_],Lb,by rw[<-H,E];rfl,J.I O⟩
 have E:Jw sn e=0:=by unfold Jw;rw[O0 S,O0 T,O0 Y,O0 hg]
 rw[E,O0 (λh=>h rfl)]at H;refine Qe<|Qq<|Qa<|Qm U I U U<|Qo<|XN (k:=e.nm) hl U U λw8 hz h0=>xe ?_;refine Qq<|QH U U<|Qa<|xe ?_;have h2:Yh J2 ↑w8 b9 (nmM (sn++[e.nm])):=by rw[<-QgB T];exact h0
 exact⟨(k+1,sn++[e.nm]),og,Lb,V,(J.I O).Q hz ho,h2,H⟩
theorem QdE {α:Type}(q:α->Bool)(x:α):∀(l:List α) (i:Nat),ixs q i (l++[x])=ixs q i l++if q x=true then[((i+l.length:Nat):Int)]else[]
 | [],i=>by simp[ixs]
 | a::l,i=>by
  simp only[On,ixs,(QdE q x l (i+1)),oV];rw[show i+1+l.length=i+(l.length+1) by omega];split <;> simp
theorem U3 {α:Type}(q:α->Bool):∀(l:List α) (i:Nat),(ixs q i l).length<=l.length
 | [],i=>by simp[ixs]
 | a::l,i=>by
  have ih:=U3 q l (i+1);unfold ixs;split <;> simp <;> omega
theorem QdD (q:α->Bool){l:List α}{k:Nat}(h:k<l.length):ixs q 0 (l.take (k+1))=ixs q 0 (l.take k)++if q (l[k]'h)=true then[(k:Int)]else[]:=by
 rw[Lo h,QdE];simp[Nat.min_eq_left (Nat.le_of_lt h)]
theorem QiL [Fu sV g fn]{q:Kf->Bool}(hq:∀(e:Kf) (w:O8),QZ sV g [sT (Zs e)] w λr w'=>r=.bool (q e)/\sW w w'){v:O9}{l:List Kf}(h:Uk L ↑w v l):
  QZ sV 231 [v,.func (.func g) #[] #[]] w λr w'=>sW w w'/\Qp 3 ↑w w' r (ixs q 0 l):=by
 have hs:=h.arr.le;refine Zt func231 ?_;refine Qc<|Qb<|Qc<|Qb<|Qd<|Qj<|QE h.arr U<|Qa<|xe<|Q2 (α:=Nat×O9) [(5,7),(10,22)] (λz=>[(5,z.2),(10,sS z.1)]) (λz w'=>z.1<=l.length/\sW w w'/\Qp 3 ↑w w' z.2 (ixs q 0 (l.take z.1))) (λz=>l.length - z.1) (0,nS) oB
  ⟨Lp _,xj.Y _ _,QI _ _ _ _⟩ ?_
 rintro⟨k,vo⟩ g w1 ⟨hk,E,J⟩;simp only[]at hk J;refine Zi rfl U (λS=>?_) (λS=>?_)
 .refine Qt ?_;have hc:l.length<=k:=by have hg:¬(k:Int)<(l.length:Int):=S;omega
  rw[Lt hc]at J;refine Qj<|Qb<|Qi ⟨[_],Lb,E,J⟩
 have H:k<l.length:=by have hg:(k:Int)<(l.length:Int):=S;omega
 have I:=QdD q H;have ht:=U3 q (l.take k) 0;have hv:(l.take k).length=k:=by simp;omega
 refine Qe<|Qd<|Qn<|Qj<|xp V2 (h.arr.J E) U U H λhw ha=>?_;refine Zd (l[k]'H) λe he=>?_;rw[he]at ha I;refine x (Qu ha U U)<|QL [.string .empty,.bool false,.bool false,.bool false,sS 0] λb7 w2 hh hi T=>x Qh <|
  QJ (Zs e) T ⟨U,U,U,U,U,La⟩ λw3 hj T=>xe ?_
 have hl:sW w1 w3:=hh.Q hj hi;refine Qj<|QV T U U<|Qo<|xc (first:=[]) (capt:=[]) U<|(hq e w3).S ?_;rintro r4 w4 ⟨rfl,hm⟩;have O:=hl.I hm;have V:=Ql J O;have hy:=(E.I O).size;refine xe<|Q6 rfl (λY=>?_) (λY=>?_)
 .rw[O1 Y]at I;refine Qq<|Qa<|Qa<|Qo<|Zb [[sS k]] λhz w5 Z h0 hn=>?_;have ho:=Ql V Z;have h1:=Z.size;refine Qo<|Q9 (news:=[sS k]) (L:=[]) ho U U U (hn.at oe) oq oa oa λv6 w6 hp hr h2 =>
   Qb<|Qq<|QH U U<|Qa<|xe ?_
  refine⟨(k+1,v6),og,oB,H,((E.I O).I Z).G hr (λb hb=>.inr ((Qg V) b hb).1),?_⟩;simp only[];rw[I];exact Qp.snoc hp
 rw[O0 (by rw[Y];decide),LT]at I;refine Qe<|Qq<|QH U U<|Qa<|xe ?_;exact⟨(k+1,vo),og,oB,H,E.I O,by simp only[];rw[I];exact V⟩
theorem QfU (e:Kf)(w:O8):QZ sV 226 [sT (Zs e)] w λr w'=>r=.bool (!e.co)/\sW w w':=by
 refine Zt func226 ?_;refine Qc<|Zg (Zs e) λb1 I E J H=>Qb<|Qc<|Qm U H U U<|x (Zr U)<|Qb<|Qi ⟨[_],Lb,U,E⟩
theorem QiZ {v:O9}{l:List Kf}(h:Uk L ↑w v l):QZ sV 155 [v,sS 2] w λr w'=>sW w w' /\
  ∃vo,r=.tuple #[vo,sS (KG l)]/\Qp 3 ↑w w' vo (if KG l=0 then unc l else[]):=by
 refine Zt func155 ?_;refine Qc<|x Qh<|Qb<|Qd<|Qj<|Qx<|(jo h).S ?_;rintro r1 S ⟨rfl,J⟩;refine Qb<|Qj<|Zu U U<|xe<|QY rfl (λH=>?_) (λH=>?_)
 .refine Qj<|x Qh<|Qb<|Qi ⟨[_,_],oB,J,_,U,by rw[O0 H];exact QI _ _ _ _⟩
 have O:KG l=0:=Lq.1 H;refine Qe<|Qc<|Qo<|YZ Ui λhq w2 T E V=>Qo<|Jl (k:=1) V U U λw3 Y Z=>Qo<|Jl (k:=2) Z U U λw4 ha hb =>
  Qo<|Jl (k:=3) hb U U λw5 hc he=>Qo<|Jl (k:=4) he U U λw6 hg hh=>Qo<|Jl (k:=5) hh U U λw7 hi hj=>Qo<|Jl (k:=6) hj U U λw8 hl hm =>
  Qa<|Qb ?_
 have hn:sW S w8:=(((((T.Q Y E).Q ha E).Q hc E).Q hg E).Q hi E).Q hl E;refine Qj<|Qa<|x (Qax (k:=(2:Int)) hm U U U)<|Qa<|QS U U<|QS U U<|x Qh<|Qb<|Qd<|Qj<|x (Zr U)<|xe<|Zl rfl<|Qe ?_;have I:=J.I hn;refine Qj<|Qa<|Qx<|(QiL QfU (h.J I)).S ?_;rintro r9 w9 ⟨ho,hp⟩;refine x Qh<|Qb<|Qi ⟨[_,_],oB,I.I ho,_,by rw[O];rfl,?_⟩;rw[O1 O];exact Zv hp I.size
theorem QdG (n:Int)(w:O8):QZ sV 216 [sS n] w λr w'=>r=.bool (grt n)/\w'=w:=by
 refine Zt func216 ?_;refine Qc<|Qb<|QX (α:=Bool) [(2,8)] (λz=>[(2,.bool z)]) (λz w'=>w'=w/\z=grt n) om ?_ ?_
 .refine Qq<|Qa<|xb (YA U U) (λE=>?_) (λE=>?_)
  .refine Qa<|Z6<|QB U<|Qb<|⟨_,Lb,U,by unfold grt;rw[O4 E];rfl⟩
  refine Qa<|Qa<|x (ZX U U)<|QB U<|Qb<|⟨_,Lb,U,by unfold grt;rw[O6 E];rfl⟩
 rintro z g H ⟨rfl,rfl⟩;exact Qi ⟨[_],Lb,U,U⟩
theorem QfI {sz:LI}{ls:xF}{k:Nat}(h:k<ls.length):X3 sz (pv (ls.map (·.1)) k) (ls.drop k)=if(ls[k]'h).1<0\/(sz.length:Int)<=(ls[k]'h).1 then 2 else if j0 (pv (ls.map (·.1)) k) (ls[k]'h).1=true then 5 else if(ls[k]'h).2<0\/xo sz (ls[k]'h).1.toNat<=(ls[k]'h).2 then 2 else X3 sz (pv (ls.map (·.1)) (k+1)) (ls.drop (k+1)):=by
 rw[Zz h,VV (oA h),LW];rfl
theorem qj {sz:LI}{ls:xF}{nm:ByteArray}(hS:QG [] ↑w vs sz)(S:P2s [] ↑w vl ls):
  QZ sV 140 [.agg #[vs,vx,vk],.agg #[.string nm,vl]] w λr w'=>r=sS (XR sz ls)/\sW w w':=by
 have hI:=S.le;refine Zt func140 ?_;refine Qc<|Zg [vs,vx,vk] λb2 w1 h1 hJ Z=>Zg [.string nm,vl] λb3 w2 hr hK ha=>Qb ?_;have I:=h1.I hr
 replace Z:=Z.J hr;refine Qd<|Qc<|Qm U ha U U<|QE (S.J I) U<|x (QW U U)<|xe<|QY rfl (λhb=>?_) (λhb=>?_)
 .refine Qc<|Qb<|Qi ⟨[_],Lb,by unfold XR;rw[O1 (by have h2:(ls.length:Int)=0:=hb;omega)];rfl,I⟩
 have h3:ls.length≠0:=by have h2:¬(ls.length:Int)=0:=hb;omega
 have h4:XR sz ls=X3 sz none ls:=by unfold XR;rw[O0 h3]
 rw[h4];refine Qe<|Qd<|Qc<|Qm U ha U U<|QE (S.J I) U<|Qa<|xe<|Q2 (α:=Nat) [(4,6),(14,61)] (λz=>[(14,sS z)]) (λz w'=>z<=ls.length/\sW w2 w'/\X3 sz (pv (ls.map (·.1)) z) (ls.drop z)=X3 sz none ls) (λz=>ls.length - z) 0 Lb
  ⟨Lp _,xj.Y _ _,U⟩ ?_
 rintro k g w3 ⟨hk,T,H⟩;have hg:=I.I T;have hs:=Z.J T;have ht:=S.J hg;have hv:=hS.J hg;refine Zi rfl U (λhh=>?_) (λhh=>?_)
 .refine Qt ?_;have h5:ls.length<=k:=by have h6:¬(k:Int)<(ls.length:Int):=hh;omega
  rw[Lx h5]at H;refine Qc<|Qb<|Qi ⟨[_],Lb,by rw[<-H];rfl,hg⟩
 have V:k<ls.length:=by have h6:(k:Int)<(ls.length:Int):=hh;omega
 rw[QfI V]at H;refine Qe<|Qd<|Qn<|Qj<|xp Yw ht U U V λhL hw=>?_;refine Zd (ls[k]'V) λe he=>?_;rw[he]at hw H;refine x (Qu hw U U)<|QL [sS 0,sS 0] λb6 w4 h7 h8 O=>x Qh<|QJ (QD e) O oB λw5 h9 O=>xe ?_;have J:sW w3 w5:=h7.Q h9 h8;have hy:=T.I J;refine Qn<|QX (α:=Bool) [(19,30)] (λz=>[(19,.bool z)]) (λz w'=>w'=w5/\z=decide (e.1<0\/(sz.length:Int)<=e.1)) om ?_ ?_
 .refine Qq<|Qm U O U U<|xb (YA U U) (λhA=>?_) (λhA=>?_)
  .refine Qa<|Zm<|Zm<|QB U<|Qb<|⟨_,Lb,U,by first|exact bT oa|exact bF oa|exact bD oa⟩
  refine Qa<|Qm U O U U<|Qm U (hs.J J) U U<|QE (hv.J J) U<|x (YI U U) <|
   QB rfl<|Qb<|⟨_,Lb,U,by first|exact bT oa|exact bF oa|exact bD oa⟩
 rintro z g w6 ⟨rfl,rfl⟩;refine QY rfl (λhi=>?_) (λhi=>?_)
 .rw[O1 hi]at H;refine Qc<|Qb<|Qi ⟨[_],Lb,by rw[<-H];rfl,I.I hy⟩
 rw[O0 hi]at H;have hB:e.1=((e.1.toNat:Nat):Int):=oa
 have hC:e.1.toNat<sz.length:=oa
 refine QX (α:=Bool) [(31,45)] (λz=>[(31,.bool z)]) (λz w'=>sW w6 w'/\z=j0 (pv (ls.map (·.1)) k) e.1) om ?_ ?_
 .refine ZH [] (Xf 0 15 [])<|p QA<|pb (λ_=>ZX U U) (λhj=>?_) (λhj=>?_)
  .have hm:k≠0:=by have hD:(0:Int)<(k:Int):=hj;omega
   have hk1:((k:Int) - 1)=((k - 1:Nat):Int):=oa
   have hn:k - 1<ls.length:=oa
   refine p QA<|p (QF U)<|pq (λ_ E=>Qk (O.J E) U U)<|p (QF U)<|pq (λ_ E=>Qk (((ha.J T).J J).J E) U U) <|
    p QA<|p (λ_=>X1 U U ⟨oa,oa⟩)<|Lg.pig (g:=QD) (i:=k - 1) U Yw (ht.J J) U (O2 sS hk1) hn λhM hE=>p (λ_=>Zp U) <|
    pq (λ_ E=>Qy ((hE.fld 0 _ U).J E) U)<|p (λ_=>KL U U)<|p (Z9 U)<|p ZL<|pe ?_
   refine⟨_,Lb,xj.X _ _,?_⟩;have:pv (ls.map (·.1)) k=some (ls[k - 1]'hn).1:=by simp[pv,hm,hn]
   rw[this];rfl
  have hm:k=0:=by have hD:¬(0:Int)<(k:Int):=hj;omega
  refine p QA<|ps<|ps<|ps<|ps<|ps<|ps<|ps<|ps<|ps<|ps<|p (Z9 U)<|p ZL<|pe ?_;exact⟨false,Lb,xj.X _ _,by simp[pv,hm,j0]⟩
 rintro z g w7 ⟨Y,rfl⟩;have hz:=hy.I Y;refine Q6 rfl (λho=>?_) (λho=>?_)
 .rw[O1 ho]at H;refine Qc<|Qb<|Qi ⟨[_],Lb,by rw[<-H];rfl,I.I hz⟩
 rw[O0 (by simp[ho])]at H;have hp:=O.J Y;refine QX (α:=Bool) [(46,60)] (λz=>[(46,.bool z)]) (λz w'=>sW w7 w'/\z=decide (e.2<0\/xo sz e.1.toNat<=e.2)) om ?_ ?_
 .refine ZH [] (Xf 0 15 [])<|p (QF U)<|pq (λ_ E=>Qk (hp.J E) U U)<|pb (λ_=>YA U U) (λhF=>?_) (λhF=>?_)
  .refine p QA<|ps<|ps<|ps<|ps<|ps<|ps<|ps<|ps<|ps<|p (Z9 U)<|p ZL<|pe ?_;exact⟨_,Lb,xj.X _ _,by first|exact bT oa|exact bF oa|exact bD oa⟩
  refine p QA<|p (QF U)<|pq (λ_ E=>Qk (hp.J E) U U)<|p (QF U)<|pq (λ_ E=>Qk (((hs.J J).J Y).J E) U U) <|
   p (QF rfl)<|pq (λ_ E=>Qk (hp.J E) U U)<|pic (i:=e.1.toNat) U ((hv.J J).J Y) U (O2 sS hB) hC λhN hG=>pq (λ_ E=>Qy (hG.J E) U) <|
   p (λ_=>YI U U)<|p (Z9 U)<|p ZL<|pe ?_
  exact⟨_,Lb,xj.X _ _,by first|exact bT oa|exact bF oa|exact bD oa⟩
 rintro z g w8 ⟨hH,rfl⟩;have h0:=hz.I hH;refine QY rfl (λhq=>?_) (λhq=>?_)
 .rw[O1 hq]at H;refine Qc<|Qb<|Qi ⟨[_],Lb,by rw[<-H];rfl,I.I h0⟩
 rw[O0 hq]at H;refine Qe<|Qq<|QH U U<|Qa<|xe ?_;exact⟨k+1,oa,Lb,V,h0,H⟩
theorem QfH {sz:LI}{ls:xF}{k:Nat}(h:k<ls.length):Ku sz (pv (ls.map (·.1)) k) (ls.drop k)=if(ls[k]'h).1<0\/(sz.length:Int)<=(ls[k]'h).1 then 2 else if j0 (pv (ls.map (·.1)) k) (ls[k]'h).1=true then 5 else if(ls[k]'h).2=0\/grt (ls[k]'h).2=true then 2 else Ku sz (pv (ls.map (·.1)) (k+1)) (ls.drop (k+1)):=by
 rw[Zz h,VV (oA h),LW];rfl
theorem UD {sz:LI}{ls:xF}{nm:ByteArray}{bd:Int}(hS:QG [] ↑w vs sz)(S:P2s [] ↑w vl ls):
  QZ sV 142 [.agg #[vs,vx,vk],.agg #[.string nm,vl,sS bd]] w λr w'=>r=sS (Xd sz ⟨nm,ls,bd⟩)/\sW w w':=by
 have hH:=S.le;refine Zt func142 ?_;refine Qc<|Zg [vs,vx,vk] λb2 w1 h3 hI Z=>Zg [.string nm,vl,sS bd] λb3 w2 hs hJ ha=>Qb ?_;have H:=h3.I hs
 replace Z:=Z.J hs;refine Qd<|Qc<|Qm U ha U U<|QE (S.J H) U<|x (QW U U)<|xe<|QY rfl (λhb=>?_) (λhb=>?_)
 .refine Qc<|Qb<|Qi ⟨[_],Lb,by unfold Xd;rw[O1 (by have h4:(ls.length:Int)=0:=hb;show ls.length=0;omega)];rfl,H⟩
 have h5:ls.length≠0:=by have h4:¬(ls.length:Int)=0:=hb;omega
 have h6:Xd sz ⟨nm,ls,bd⟩=if Ku sz none ls≠0 then Ku sz none ls else if grt bd=true then 2 else 0:=by unfold Xd;rw[O0 h5]
 rw[h6];refine Qe<|Qd<|Qc<|Qm U ha U U<|QE (S.J H) U<|Qa<|xe<|Q2 (α:=Nat) [(4,6),(14,55)] (λz=>[(14,sS z)]) (λz w'=>z<=ls.length/\sW w2 w'/\Ku sz (pv (ls.map (·.1)) z) (ls.drop z)=Ku sz none ls) (λz=>ls.length - z) 0 Lb
  ⟨Lp _,xj.Y _ _,U⟩ ?_
 rintro k g w3 ⟨hk,T,E⟩;have V:=H.I T;have ht:=ha.J T;have hv:=S.J V;refine Zi rfl U (λhh=>?_) (λhh=>?_)
 .refine Qt ?_;have h7:ls.length<=k:=by have h8:¬(k:Int)<(ls.length:Int):=hh;omega
  rw[Lx h7]at E;have h9:Ku sz none ls=0:=E.symm;rw[h9,O0 (λh=>h rfl)];refine Qd<|Qc<|Qm U ht U U<|Qx<|(QdG bd _).S ?_;rintro r4 w4 ⟨rfl,rfl⟩;refine xe<|Q6 U (λhi=>?_) (λhi=>?_)
  .rw[O1 hi];refine Qc<|Qb<|Qi ⟨[_],Lb,U,V⟩
  rw[O0 (by simp[hi])];refine Qe<|Qc<|Qb<|Qi ⟨[_],Lb,U,V⟩
 have Y:k<ls.length:=by have h8:(k:Int)<(ls.length:Int):=hh;omega
 rw[QfH Y]at E;refine Qe<|Qd<|Qn<|Qj<|xp Yw hv U U Y λhK hw=>?_;refine Zd (ls[k]'Y) λe he=>?_;rw[he]at hw E;refine x (Qu hw U U)<|QL [sS 0,sS 0] λb6 w4 hA hB I=>x Qh<|QJ (QD e) I oB λw5 hC I=>xe ?_;have J:sW w3 w5:=hA.Q hC hB;have hy:=T.I J;refine Qn<|QX (α:=Bool) [(19,30)] (λz=>[(19,.bool z)]) (λz w'=>w'=w5/\z=decide (e.1<0\/(sz.length:Int)<=e.1)) om ?_ ?_
 .refine Qq<|Qm U I U U<|xb (YA U U) (λhD=>?_) (λhD=>?_)
  .refine Qa<|Zm<|Zm<|QB U<|Qb<|⟨_,Lb,U,by first|exact bT oa|exact bF oa|exact bD oa⟩
  refine Qa<|Qm U I U U<|Qm U ((Z.J T).J J) U U<|QE ((hS.J V).J J) U<|x (YI U U) <|
   QB rfl<|Qb<|⟨_,Lb,U,by first|exact bT oa|exact bF oa|exact bD oa⟩
 rintro z g w6 ⟨rfl,rfl⟩;refine QY rfl (λhj=>?_) (λhj=>?_)
 .rw[O1 hj]at E;refine Qc<|Qb<|Qi ⟨[_],Lb,by rw[<-E,O1 oh];rfl,H.I hy⟩
 rw[O0 hj]at E;refine QX (α:=Bool) [(31,45)] (λz=>[(31,.bool z)]) (λz w'=>sW w6 w'/\z=j0 (pv (ls.map (·.1)) k) e.1) om ?_ ?_
 .refine ZH [] (Xf 0 15 [])<|p QA<|pb (λ_=>ZX U U) (λhm=>?_) (λhm=>?_)
  .have hn:k≠0:=by have hE:(0:Int)<(k:Int):=hm;omega
   have hk1:((k:Int) - 1)=((k - 1:Nat):Int):=oa
   have ho:k - 1<ls.length:=oa
   refine p QA<|p (QF U)<|pq (λ_ O=>Qk (I.J O) U U)<|p (QF U)<|pq (λ_ O=>Qk ((ht.J J).J O) U U) <|
    p QA<|p (λ_=>X1 U U ⟨oa,oa⟩)<|Lg.pig (g:=QD) (i:=k - 1) U Yw (hv.J J) U (O2 sS hk1) ho λhL hF=>p (λ_=>Zp U) <|
    pq (λ_ O=>Qy ((hF.fld 0 _ U).J O) U)<|p (λ_=>KL U U)<|p (Z9 U)<|p ZL<|pe ?_
   refine⟨_,Lb,xj.X _ _,?_⟩;have:pv (ls.map (·.1)) k=some (ls[k - 1]'ho).1:=by simp[pv,hn,ho]
   rw[this];rfl
  have hn:k=0:=by have hE:¬(0:Int)<(k:Int):=hm;omega
  refine p QA<|ps<|ps<|ps<|ps<|ps<|ps<|ps<|ps<|ps<|ps<|p (Z9 U)<|p ZL<|pe ?_;exact⟨false,Lb,xj.X _ _,by simp[pv,hn,j0]⟩
 rintro z g w7 ⟨hz,rfl⟩;have h0:=hy.I hz;refine Q6 rfl (λhp=>?_) (λhp=>?_)
 .rw[O1 hp]at E;refine Qc<|Qb<|Qi ⟨[_],Lb,by rw[<-E,O1 oh];rfl,H.I h0⟩
 rw[O0 (by simp[hp])]at E;have h1:=I.J hz;refine QX (α:=Bool) [(46,54)] (λz=>[(46,.bool z)]) (λz w'=>sW w7 w'/\z=decide (e.2=0\/grt e.2=true)) om ?_ ?_
 .refine Qq<|Qm U h1 U U<|xb (QW U U) (λhq=>?_) (λhq=>?_)
  .refine Qa<|Zm<|QB U<|Qb<|⟨_,Lb,xj.Y _ _,bT (.inl hq)⟩
  refine Qa<|Qm U h1 U U<|Qx<|(QdG e.2 _).S ?_;rintro r9 w9 ⟨rfl,rfl⟩;refine QB U<|Qb<|⟨grt e.2,Lb,xj.Y _ _,?_⟩;cases hg:grt e.2 with
  | true=>exact bT (.inr U)
  | false=>exact bF (λh=>by rcases h with h|h;exact hq h;cases h)
 rintro z g w8 ⟨hG,rfl⟩;have h2:=h0.I hG;refine QY rfl (λhr=>?_) (λhr=>?_)
 .rw[O1 hr]at E;refine Qc<|Qb<|Qi ⟨[_],Lb,by rw[<-E,O1 oh];rfl,H.I h2⟩
 rw[O0 hr]at E;refine Qe<|Qq<|QH U U<|Qa<|xe ?_;exact⟨k+1,oa,Lb,Y,h2,E⟩
open Go.RowKit
def QeI:Fr->LN->LV->Fr
 | f,p::ps,v::vs=>QeI (upd f p v) ps vs
 | f,_,_=>f
theorem qG {n:Nat}{ds:LN}:∀(ps:LN) (vs:LV) (a:Act) (f:Fr),Xh n ds a f->(∀p∈ps,p<n) ->
  Xh n ds { tmps:=(ps.zip vs).foldl (λt (x:Nat×O9)=>t.setIfInBounds x.1 x.2) a.tmps,defers:=a.defers } (QeI f ps vs)
 | [],_,a,f,h,_=>by cases h;exact⟨by assumption,by assumption,by assumption⟩
 | p::ps,[],a,f,h,_=>by cases h;exact⟨by assumption,by assumption,by assumption⟩
 | p::ps,v::vs,a,f,h,E=>by
  exact qG ps vs _ _ (h.put (dst:=some p) (λd e=>by cases e;exact E p Lr) v) (λq H=>E q (Ll _ H))
def rdE {α:Type}(B:Nat)(L:LN)(I:List α->O8->Prop)(X:Exit->List α->O8->Prop)(xs:List α)(W:O8):Exit->LN->Fr->O8->Prop
 | .normal,_,_,W'=>Vl B L W W'/\I xs W'
 | .ret,_,_,W'=>Vl B L W W'/\X .ret xs W'
 | .exit i,_,_,W'=>Vl B L W W'/\X (.exit i) xs W'
 | _,_,_,_=>False
theorem QmF {m:Nat}{Q:Exit->LN->Fr->O8->Prop}{g:xd}{ps:LN}{assign body:Code}(L:LN)(Y:1<=m)
    [hF:Fu P gf fn]  (hg:ev f g=.func (.func gf) #[] capt.toArray) {encs:α->LV} {S Sp:List α->Prop}  (hp:∀p∈ps,p<n) (hj:∀x,(encs x).length=ps.length)
  (hm:SeqStopsK (fen none) (m - 1) P gf capt.toArray (λx=>(encs x).toArray) (Lw ↑w L) S Sp N w)
  (I:List α->O8->Prop) (hI:∀s,YL ↑w (I s)) (X:Exit->List α->O8->Prop) (hX:∀e s,YL ↑w (X e s)) (h0:I [] w) (A:Fr->α->Fr->O8->Prop) (hA:∀x E,YL ↑w (A f x E))
  (hb:∀l pre x W,I pre W->WG (some l) (m - 1 - 1) P n assign (QeK (λZ E W'=>Z=[]/\Vl ↑w L W W'/\I pre W'/\A f x E W') (λ_ _ _ _=>False)) [] (QeI f ps (encs x)) W)
  (hc:∀l pre x E W,I pre W->A f x E W->pre.length<N->WG (some l) (m - 1 - 1) P n body (rdE ↑w L I X (pre++[x]) W) [] E W)
  (hn:∀D xs W,↑w<=D->S xs->I xs W->W.heap[D]?=some (.deferred (some []))->Q .normal (D::ds) f W)
  (he:∀D e pre W,↑w<=D->Sp pre->X e pre W->W.heap[D]?=some (.deferred (some []))->(e=.ret\/∃i,e=.exit i)->Q e (D::ds) f W):
  WG none m P n (.rangeFunc g ps.toArray assign body) Q ds f w:=by
 unfold WG at hb hc ⊢;intro a O;have eg:∀args w,(callFunc gf args).run P w=.ok (.enter gf args) w:=by
  intro args w;have Y:¬fn.name = "runtime.NumGoroutine" := by simpa using hF.nm
  have T:¬fn.body=none:=by have:=hF.b;intro e;rw[e]at this;cases this
  simp[callFunc,hF.f,Y,T]
 have keep:∀{W W':O8},Vl ↑w L W W'->KeepsFrom ↑w W W':=λh=>⟨h.lw.size,λk o _ hk ho=>h.other k o hk ho⟩;refine wpIn_rangeFunc_ownH (F:=fen none) U Y (gf:=gf) (lb:=capt.toArray) (by rw[O.eval];exact hg) La eg hm (λh k=>h.I k)
  (λW l o o' hl ho _ _=>⟨U,U,U,oe,λk hk _=>World.putObj_heap_other oa⟩) (Below.refl _ _) (λx=>by simp[hj x]) I
  (λc pre W=>match c with| .ret=>X .ret pre W| .exit i=>X (.exit i) pre W|_=>False) (YL.own hI) (λc=>YL.own λs=>?_) h0
  (λx V W=>∃E,Xh n [] V E/\A f x E W) (λx V=>YL.own λ_=>YL.ex λE=>YL.and (YL.pure _) (hA x E)) ?_ ?_ ?_ ?_
 .cases c <;> first|exact hX _ s|exact YL.pure _
 .intro l pre x W K hi hK;have hr:Xh n [] { tmps:=(ps.toArray.zip (encs x).toArray).foldl (λt (p,v)=>t.setIfInBounds p v) a.tmps,defers:=[] } (QeI f ps (encs x)):=by
   have T:Xh n [] { a with defers:=[] } f:=⟨O.size,U,O.get⟩
   have J:=qG ps (encs x) _ _ T hp;have e:(ps.toArray.zip (encs x).toArray).foldl (λt (p,v)=>t.setIfInBounds p v) a.tmps=(ps.zip (encs x)).foldl (λt (x:Nat×O9)=>t.setIfInBounds x.1 x.2) a.tmps:=oe
   rw[e];exact J
  refine wpIn_mono (hb l pre x W hi _ hr) ?_;rintro e V W' ⟨Z,E,T,_,J⟩;cases e with
  | normal=>obtain⟨rfl,h4,H,h6⟩:=J;exact hK V W' (keep h4) h4.lw H ⟨E,T,h6⟩
  | exit id=>exact J.elim
  | goto l=>exact J.elim
  | ret=>exact J.elim
  | panic ch=>exact J.elim
  | outgrown=>exact J.elim
 .rintro l pre x V W _ _ hi ⟨E,T,J⟩ hq;refine wpIn_mono (hc l pre x E W hi J hq V T) ?_;rintro e hs W' ⟨Z,ht,h4,_,H⟩;cases e with
  | normal=>exact⟨keep H.1,H.1.lw,H.2⟩
  | exit id=>exact⟨keep H.1,H.2⟩
  | goto l=>exact H.elim
  | ret=>exact⟨keep H.1,H.2⟩
  | panic ch=>exact H.elim
  | outgrown=>exact H.elim
 .intro D xs W hD hS hi hd;exact⟨D::ds,f,⟨O.size,by rw[show coll (D::ds)={ target:=.collected D,args:=#[] }::coll ds from rfl,O.defers],O.get⟩,λ_ _=>rfl,hn D xs W hD hS hi hd⟩
 intro D c pre W hD hS hx hd;have hh:Xh n (D::ds) { a with defers:={ target:=.collected D,args:=#[] }::a.defers } f:=⟨O.size,by rw[show coll (D::ds)={ target:=.collected D,args:=#[] }::coll ds from rfl,O.defers],O.get⟩
 cases c with
 | ret=>exact wpIn_ret ⟨_,f,hh,λ_ _=>U,he D .ret pre W hD hS hx hd (.inl U)⟩
 | exit i=>exact wpIn_exit ⟨_,f,hh,λ_ _=>U,he D (.exit i) pre W hD hS hx hd (.inr ⟨i,U⟩)⟩
 | _=>exact hx.elim
theorem QaT {α:Type}(g:α->LV)(sz:Nat)(E:∀x,(g x).length=sz):∀(l:List α) (k:Nat),(l.flatMap g).take (k*sz)=(l.take k).flatMap g
 | [],k=>oe
 | e::l,0=>oe
 | e::l,k+1=>by
  simp only[Od,List.take_succ_cons,Ot,Nat.one_mul];rw[Ny,OR,E,show sz+k*sz - sz=k*sz by omega,QaT g sz E l k,Lt (by rw[E];omega)]
theorem QgD [Fu sV gf fn]{nms:List ByteArray}{s:ByteArray}(ho:JE s)
  (hp:∀(w':O8) (L:LN),sW w w'->(∀b∈L,↑w<=b)->SeqStopsK (fen none) 9 sV gf capt.toArray (λx:{ x:ByteArray // x∈nms }=>[Value.string x.1].toArray) (Lw ↑w' L) (λys=>ys.map (·.1)=nms) (λ_=>True) N w'):
  QZ sV 139 [.string s,.func (.func gf) #[] capt.toArray] w λr w'=>r=sS (Js nms s)/\sW w w':=by
 refine QZ.of_G 10 func139 U ntmps139 results139 oe ?_;refine Zh<|QM om om<|Zg [.string s] λb2 w1 hq hv hi=>QL [sS 0] λO w2 hj hw hg=>xe ?_;have Z:=hq.I hj;have hz:=hg.lt;have hl:=hi.J hj;have h0:=hi.lt;refine Zh<|Zh<|QM om om<|Xe hl U U<|Qbo<|(Uc s ho _).S ?_;rintro r3 w3 ⟨rfl,rfl⟩;refine x (Zr U)<|xe<|UH rfl (λh8=>?_) (λh8=>?_)
 .have hn:YE s=false:=by simpa using h8
  have hr:Js nms s=7:=by unfold Js;rw[O1 hn]
  refine Zh<|QM om om<|Qo<|Qw (j:=0) (u:=sS 7) hg U U oh U λw4 V ha=>xe ?_;refine VT ⟨λ_ h=>(by cases h),MY,[sS 7],λW' S=>⟨⟨⟨_,rfl,Xm (At.one ((ha.J S).at (L:=[]) oe))⟩,La⟩,by rw[hr];rfl,(Z.Q V oa).I S⟩⟩
 have hn:¬YE s=false:=by simpa using h8
 refine YV<|Zh<|Zh<|QM om om<|Qa<|xe<|Z5<|QmF (α:={ x:ByteArray // x∈nms }) (ps:=[10]) [O] oa (capt:=capt) U (encs:=λx=>[.string x.1]) oe (λ_=>rfl)
  (hp w3 [O] Z (λb H=>by simp at H;omega))
  (λpre W=>xj [O] w3 W/\QP ↑W b2 9 [.string s]/\QP ↑W O 48 [sS 0]/\∀x∈pre,x.1≠s)
  (λpre=>(YL.O (Lu _)).and (YL.blk.and (YL.blk.and (YL.pure _))))
  (λe pre W=>e=.ret/\xj [O] w3 W/\QP ↑W O 48 [sS 8]/\s∈nms)
  (λe pre=>(YL.pure _).and ((YL.O (Lu _)).and (YL.blk.and (YL.pure _))))
  ⟨xj.Y _ _,hl,hg,λx hx=>by cases hx⟩
  (λf x f' W=>f'=upd (QeI f [10] [.string x.1]) 5 (.string x.1)) (λx f'=>YL.pure _) ?_ ?_ ?_ ?_
 .rintro l pre x W ⟨I,h2,J,Y⟩;refine QM om om<|Lg.Qb<|⟨U,Vl.refl _ _ _,⟨I,h2,J,Y⟩,U⟩
 .rintro l pre x f' W ⟨I,h2,J,Y⟩ rfl _;refine Z5<|Zh<|QM om om<|Lg.Qa<|Lg.x (Qk h2 U U)<|Lg.x (XI U U)<|xe<|QpA U (λhh=>?_) (λhh=>?_)
  .refine Zh<|QM om om<|Qo<|Qw (j:=0) (u:=sS 8) J U U oh U λw4 V ha=>xe ?_;refine VT ?_;exact⟨Vl.blk V I.size J (.inl oe),rfl,I.V V,ha,by rw[<-hh];exact x.2⟩
  refine YV<|⟨Vl.refl _ _ _,I,h2,J,λy T=>?_⟩;rcases Lh.1 T with T|T
  .exact Y y T
  simp only[oJ]at T;subst T;exact hh
 .rintro D xs W hD hs ⟨I,h2,J,Y⟩ hc;have hr:Js nms s=0:=by
   unfold Js;rw[O0 hn,O0];intro hm;rw[<-hs]at hm;obtain⟨y,T,e⟩:=Ly.1 hm;exact Y y T e
  refine Zh<|QM om om<|Qo<|Qw (j:=0) (u:=sS 0) J U U oh U λw4 V ha=>xe ?_;have he:D≠O:=oa
  have ht:w4.heap[D]?=some (.deferred (some [])):=by rw[V.block D (LP.1 hc).1 (oA he)];exact hc
  refine VT ⟨λE hE=>by simp only[oJ]at hE;subst hE;exact ht,oe,[sS 0],λW' S=>?_⟩;refine⟨⟨⟨_,U,Xm (At.one ((ha.O S (oA he.symm)).at (L:=[]) oe))⟩,La⟩,by rw[hr];rfl,?_⟩;exact((Z.G I (λb H=>.inr (by simp at H;omega))).Q V oa).G S (λb H=>.inr (by simp at H;have:=Z.size;omega))
 rintro D e pre W hD _ ⟨rfl,I,J,Y⟩ hc _;have hr:Js nms s=8:=by unfold Js;rw[O0 hn,O1 Y]
 have he:D≠O:=oa
 refine⟨λE hE=>by simp only[oJ]at hE;subst hE;exact hc,oe,[sS 8],λW' S=>?_⟩;refine⟨⟨⟨_,U,Xm (At.one ((J.O S (oA he.symm)).at (L:=[]) oe))⟩,La⟩,by rw[hr];rfl,?_⟩;exact(Z.G I (λb H=>.inr (by simp at H;omega))).G S (λb H=>.inr (by simp at H;have:=Z.size;omega))
theorem Ki.pre3 {m:Nat}{o1 o2 o3:Oper}{l2:xK}(h:XL P ops (λf w=>Ki P m ops K l2 f w) [o1,o2,o3] f w):Ki P m ops K (o1::o2::o3::l2) f w:=Ki.pre [o1,o2,o3] f w h
theorem Qlo {m:Nat}{qs:List XV}{nms:List ByteArray}(ho:QP ↑w b1 196 [vs,vx,vk])(hp:QP ↑w b2 3 [sS i])(Y:jT L ↑w vx qs)(hi:i<=qs.length)(hn:nms=(qs.take i).map (·.nm)):
  SeqStopsK (fen none) m sV 138 #[sP b1,sP b2] (λx:{ x:ByteArray // x∈nms }=>[Value.string x.1].toArray) (Lw ↑w L)
   (λys=>ys.map (·.1)=nms) (λ_=>True) (nms.length+1) w:=by
 intro l J Jx W hr hJ hs hY h0;have Z:sW w W:=xj.of_below hr;have ab:∀{ys:List { x:ByteArray // x∈nms }} {W1 W2:O8},J ys W1->sW W1 W2->J ys W2:=λ{ys W1 W2} hj I=>hJ ys W1 W2 none hj ⟨I.os,I.tape,I.output,I.size,λk hk _=>I.block k hk oe⟩ (λr e=>by cases e);have h6:=Y.arr.le;have h7:nms.length=i:=by rw[hn];simp;omega
 have key:QZ sV 138 [.func (.yield l) #[] #[],sP b1,sP b2] W (λ_ W'=>(∃ys,ys.map (·.1)=nms/\J ys W')\/(∃pre,True/\Jx pre W')):=by
  refine QZ.of_G m func138 U ntmps138 results138 oe ?_;refine Zh<|QM om om<|Qm U (ho.J Z) U U<|Xe (hp.J Z) U U<|Qqd Y.arr U U hi λv9 hg=>QE hg U<|Qa<|xe ?_;have ht:(qs.take i).length=i:=by simp;omega
  have hS:Zk L ↑w v9 (qs.take i).length 2 ((qs.take i).flatMap Q0):=by
   rw[ht,<-QaT Q0 2 XG];exact hg
  refine Z5<|zn (α:=Nat×List { x:ByteArray // x∈nms }) [(5,5),(11,20)] (λz=>[(11,sS z.1)]) (λz ds W'=>ds=[]/\z.1<=i/\xj L w W'/\z.2.map (·.1)=nms.take z.1/\J z.2 W') (λz=>i - z.1) om (0,[]) Lb
   ⟨U,Lp _,Z.any,U,h0⟩ ?_
  rintro⟨k,ys⟩ g ds w1 ⟨rfl,hk,hh,O,ha⟩;simp only[]at hk O ha;refine Zh<|QM om om<|Ye U U<|xe<|Zh<|Qbl U (λhl=>?_) (λhl=>?_)
  .refine VU ?_;rw[Lt oa]at O;exact⟨λ_ h=>(by cases h),MY,[],λW' E=>⟨La,.inl ⟨ys,O,ab ha E⟩⟩⟩
  refine YV ?_;have hv:k<i:=by have hb:(k:Int)<(i:Int):=hl;omega
  have T:k<(qs.take i).length:=oa
  have V:k<nms.length:=oa
  have hc:nms.take (k+1)=nms.take k++[nms[k]'V]:=Lo V;have h8:ys.length=k:=by have:=O2 oR O;rw[Lj,LB]at this;omega
  have hw:nms[k]'V=((qs.take i)[k]'T).nm:=by subst hn;simp
  have S:=Lm V;rw[hw]at hc S;refine Zh<|Z5<|Zh<|QM om om<|xp XG (i:=k) (hS.st hh) U U T λh9 hb=>?_;refine Zd ((qs.take i)[k]'T) λq hq=>?_;rw[hq]at hb hc S;refine x (Qu hb U U)<|QL [.string .empty,nS] λb5 w2 hy hz h2=>QJ (Q0 q) h2 ⟨U,((Y.each q (L8 (by rw[<-hq];exact Lm T))).one),La⟩ λw3 h3 h4=>xe ?_;have hm:sW w1 w3:=hy.Q h3 hz;refine Zh<|Ud om ?_;refine Ki.pre3 ?_;refine Qa<|Qm U h4 U U<|xe<|xy (l:=l) U (hY ys ⟨q.nm,S⟩ w3 (ab ha hm) oa) λen W3 h5=>Or.elim h5 (λH=>⟨.bool true,H.1,?_⟩) (λH=>⟨.bool false,H.1,?_⟩)
  .refine Ki.of_XL<|x (Zr U)<|xe<|Ue U<|YV ?_;refine QM om om<|QH U U<|Qa<|xe ?_;exact⟨(k+1,ys++[⟨q.nm,S⟩]),og,Lb,U,hv,(hh.I hm).lw H.2.2,by rw[hc,Ls,O];rfl,H.2.1⟩
  refine Ki.of_XL<|x (Zr U)<|xe<|QcB U ?_;refine VT ⟨λ_ h=>(by cases h),MY,[],λW' E=>⟨La,.inr ⟨ys++[⟨q.nm,S⟩],La,?_⟩⟩⟩;exact hs _ W3 W' none H.2 ⟨E.os,E.tape,E.output,E.size,λk hk _=>E.block k hk oe⟩ (λr e=>by cases e)
 refine(callsIn_wide (n:=m)).2 ?_;have ea:(#[.func (.yield l) #[] #[]]++[sP b1,sP b2].toArray:Array O9)=#[.func (.yield l) #[] #[],sP b1,sP b2]:=oe
 rw[ea];unfold QZ at key;refine Calls.mono key λe w' he=>?_;cases e with
 | returned v=>exact⟨⟨v,U⟩,he⟩
 | panicked c=>exact he.elim
 | outgrown=>exact he.elim
theorem QlO {m:Nat}{qs:List KV}{nms:List ByteArray}(ho:QP ↑w b1 196 [vs,vx,vk])(hp:QP ↑w b2 3 [sS i])(Y:jK L ↑w vk qs)(hi:i<=qs.length)(hn:nms=(qs.take i).map (·.nm)):
  SeqStopsK (fen none) m sV 141 #[sP b1,sP b2] (λx:{ x:ByteArray // x∈nms }=>[Value.string x.1].toArray) (Lw ↑w L)
   (λys=>ys.map (·.1)=nms) (λ_=>True) (nms.length+1) w:=by
 intro l J Jx W hr hJ hs hY h0;have Z:sW w W:=xj.of_below hr;have ab:∀{ys:List { x:ByteArray // x∈nms }} {W1 W2:O8},J ys W1->sW W1 W2->J ys W2:=λ{ys W1 W2} hj I=>hJ ys W1 W2 none hj ⟨I.os,I.tape,I.output,I.size,λk hk _=>I.block k hk oe⟩ (λr e=>by cases e);have h6:=Y.arr.le;have h7:nms.length=i:=by rw[hn];simp;omega
 have key:QZ sV 141 [.func (.yield l) #[] #[],sP b1,sP b2] W (λ_ W'=>(∃ys,ys.map (·.1)=nms/\J ys W')\/(∃pre,True/\Jx pre W')):=by
  refine QZ.of_G m func141 U ntmps141 results141 oe ?_;refine Zh<|QM om om<|Qm U (ho.J Z) U U<|Xe (hp.J Z) U U<|Qqd Y.arr U U hi λv9 hg=>QE hg U<|Qa<|xe ?_;have ht:(qs.take i).length=i:=by simp;omega
  have hS:Zk L ↑w v9 (qs.take i).length 3 ((qs.take i).flatMap Q5):=by
   rw[ht,<-QaT Q5 3 Xs];exact hg
  refine Z5<|zn (α:=Nat×List { x:ByteArray // x∈nms }) [(5,5),(11,20)] (λz=>[(11,sS z.1)]) (λz ds W'=>ds=[]/\z.1<=i/\xj L w W'/\z.2.map (·.1)=nms.take z.1/\J z.2 W') (λz=>i - z.1) om (0,[]) Lb
   ⟨U,Lp _,Z.any,U,h0⟩ ?_
  rintro⟨k,ys⟩ g ds w1 ⟨rfl,hk,hh,O,ha⟩;simp only[]at hk O ha;refine Zh<|QM om om<|Ye U U<|xe<|Zh<|Qbl U (λhl=>?_) (λhl=>?_)
  .refine VU ?_;rw[Lt oa]at O;exact⟨λ_ h=>(by cases h),MY,[],λW' E=>⟨La,.inl ⟨ys,O,ab ha E⟩⟩⟩
  refine YV ?_;have hv:k<i:=by have hb:(k:Int)<(i:Int):=hl;omega
  have T:k<(qs.take i).length:=oa
  have V:k<nms.length:=oa
  have hc:nms.take (k+1)=nms.take k++[nms[k]'V]:=Lo V;have h8:ys.length=k:=by have:=O2 oR O;rw[Lj,LB]at this;omega
  have hw:nms[k]'V=((qs.take i)[k]'T).nm:=by subst hn;simp
  have S:=Lm V;rw[hw]at hc S;refine Zh<|Z5<|Zh<|QM om om<|xp Xs (i:=k) (hS.st hh) U U T λh9 hb=>?_;refine Zd ((qs.take i)[k]'T) λq hq=>?_;rw[hq]at hb hc S;refine x (Qu hb U U)<|QL [.string .empty,nS,sS 0] λb5 w2 hy hz h2=>QJ (Q5 q) h2 ⟨U,((Y.each q (L8 (by rw[<-hq];exact Lm T))).one),U,La⟩ λw3 h3 h4=>xe ?_;have hm:sW w1 w3:=hy.Q h3 hz;refine Zh<|Ud om ?_;refine Ki.pre3 ?_;refine Qa<|Qm U h4 U U<|xe<|xy (l:=l) U (hY ys ⟨q.nm,S⟩ w3 (ab ha hm) oa) λen W3 h5=>Or.elim h5 (λH=>⟨.bool true,H.1,?_⟩) (λH=>⟨.bool false,H.1,?_⟩)
  .refine Ki.of_XL<|x (Zr U)<|xe<|Ue U<|YV ?_;refine QM om om<|QH U U<|Qa<|xe ?_;exact⟨(k+1,ys++[⟨q.nm,S⟩]),og,Lb,U,hv,(hh.I hm).lw H.2.2,by rw[hc,Ls,O];rfl,H.2.1⟩
  refine Ki.of_XL<|x (Zr U)<|xe<|QcB U ?_;refine VT ⟨λ_ h=>(by cases h),MY,[],λW' E=>⟨La,.inr ⟨ys++[⟨q.nm,S⟩],La,?_⟩⟩⟩;exact hs _ W3 W' none H.2 ⟨E.os,E.tape,E.output,E.size,λk hk _=>E.block k hk oe⟩ (λr e=>by cases e)
 refine(callsIn_wide (n:=m)).2 ?_;have ea:(#[.func (.yield l) #[] #[]]++[sP b1,sP b2].toArray:Array O9)=#[.func (.yield l) #[] #[],sP b1,sP b2]:=oe
 rw[ea];unfold QZ at key;refine Calls.mono key λe w' he=>?_;cases e with
 | returned v=>exact⟨⟨v,U⟩,he⟩
 | panicked c=>exact he.elim
 | outgrown=>exact he.elim
theorem jn {sz:LI}{qx:List XV}{ks:List KV}(hS:QG [] ↑w vs sz)(hX:jT [] ↑w vx qx)(hK:jK [] ↑w vk ks):
  QZ sV 76 [.agg #[vs,vx,vk]] w λr w'=>r=sS (Ys sz (qx.map (·.x)) (ks.map (·.k)))/\sW w w':=by
 have hZ:=hS.le;have ga:=hX.arr.le;have gb:=hK.arr.le;refine Zt func76 ?_;refine Qc<|Zg [vs,vx,vk] λb1 w1 H gc V=>Qb<|Qd<|Qc<|Qm U V U U<|QE (hS.J H) U<|x (ZX U U)<|xe<|QY rfl (λh2=>?_) (λh2=>?_)
 .refine Qc<|Qb<|Qi ⟨[_],Lb,by unfold Ys;rw[O1 (by have hM:(8:Int)<(sz.length:Int):=h2;omega)];rfl,H⟩
 have h0:¬8<sz.length:=by have hM:¬(8:Int)<(sz.length:Int):=h2;omega
 refine Qe<|Qd<|Qc<|Qm U V U U<|QE (hS.J H) U<|Qa<|xe<|Q2 (α:=Nat) [(2,2),(4,4),(22,32)] (λz=>[(22,sS z)]) (λz w'=>z<=sz.length/\w'=w1/\(sz.drop z).any KY=sz.any KY) (λz=>sz.length - z) 0 Lb
  ⟨Lp _,U,U⟩ ?_
 rintro k g w2 ⟨hk,rfl,ha⟩;refine Zi rfl U (λh3=>?_) (λh3=>?_)
 .refine Qt ?_;have hl:sz.length<=k:=by have h1:¬(k:Int)<(sz.length:Int):=h3;omega
  rw[Lx hl]at ha;have h4:¬sz.any KY=true:=by rw[<-ha];decide
  refine Qd<|QX (α:=Bool) [(33,42)] (λz=>[(42,.bool z)]) (λz w'=>w'=w2/\z=decide (32<qx.length\/32<ks.length)) om ?_ ?_
  .refine Qq<|Qm U V U U<|QE (hX.J H).arr U<|xb (ZX U U) (λhN=>?_) (λhN=>?_)
   .refine Qa<|Zm<|K4<|QB U<|xe ?_;exact⟨_,Lb,U,by first|exact bT oa|exact bF oa|exact bD oa⟩
   refine Qa<|Qm U V U U<|QE (hK.J H).arr U<|x (ZX U U)<|QB U<|xe ?_;exact⟨_,Lb,U,by first|exact bT oa|exact bF oa|exact bD oa⟩
  rintro z g Y ⟨rfl,rfl⟩;refine QY U (λh5=>?_) (λh5=>?_)
  .refine Qc<|Qb<|Qi ⟨[_],Lb,by unfold Ys;rw[O0 h0,O0 h4,O1 (oA h5)];rfl,H⟩
  have hH:¬(32<(qx.map (·.x)).length\/32<(ks.map (·.k)).length):=by simpa using h5
  have hI:Yc sz [] (qx.map (·.x))≠0->Ys sz (qx.map (·.x)) (ks.map (·.k))=Yc sz [] (qx.map (·.x)):=λh=>by
   unfold Ys;rw[O0 h0,O0 h4,O0 hH,O1 h]
  have hO:Yc sz [] (qx.map (·.x))=0->Ys sz (qx.map (·.x)) (ks.map (·.k))=YQ sz [] (ks.map (·.k)):=λh=>by
   unfold Ys;rw[O0 h0,O0 h4,O0 hH,O0 (by rw[h];exact λh=>h U)]
  refine Qe<|Qd<|Qc<|Qm U (V.J (xj.Y [] Y)) U U<|QE ((hX.J H).J (xj.Y [] Y)).arr U<|Qa<|xe<|Q2 (α:=Nat) [(2,2),(5,9),(46,65)] (λz=>[(46,sS z)]) (λz w'=>z<=qx.length/\sW Y w'/\Yc sz ((qx.take z).map (·.nm)) ((qx.drop z).map (·.x))=Yc sz [] (qx.map (·.x))) (λz=>qx.length - z) 0 Lb
   ⟨Lp _,(xj.Y [] Y),U⟩ ?_
  rintro k g wA ⟨hk,I,J⟩;refine Zi U U (λhc=>?_) (λhc=>?_)
  .refine Qt ?_;have hl:qx.length<=k:=by have h6:¬(k:Int)<(qx.length:Int):=hc;omega
   rw[Lx hl]at J;have hP:Yc sz [] (qx.map (·.x))=0:=J.symm;have h7:=hO hP;refine Qd<|Qc<|Qm U (V.J I) U U<|QE ((hK.J H).J I).arr U<|Qa<|xe<|Q2 (α:=Nat) [(2,2),(10,14),(69,88)] (λz=>[(69,sS z)]) (λz w'=>z<=ks.length/\sW Y w'/\YQ sz ((ks.take z).map (·.nm)) ((ks.drop z).map (·.k))=YQ sz [] (ks.map (·.k))) (λz=>ks.length - z) 0 Lb
    ⟨Lp _,I,U⟩ ?_
   rintro k g wA ⟨hk,I,J⟩;refine Zi U U (λhc=>?_) (λhc=>?_)
   .refine Qt ?_;have hl:ks.length<=k:=by have h6:¬(k:Int)<(ks.length:Int):=hc;omega
    rw[Lx hl]at J;have hQ:YQ sz [] (ks.map (·.k))=0:=J.symm;refine Qc<|Qb<|Qi ⟨[_],Lb,by rw[h7,hQ];rfl,H.I I⟩
   have E:k<ks.length:=by have h6:(k:Int)<(ks.length:Int):=hc;omega
   have hm:(ks.take (k+1)).map (·.nm)=(ks.take k).map (·.nm)++[(ks[k]'E).nm]:=by rw[Lo E,Ls];rfl
   rw[Zz E,LO]at J;have he:=Lm E;have O:=(hK.J H).J I;have hR:=V.J I;refine Qe<|Qd<|Qn<|Qj<|xp Xs O.arr U U E λaA hA=>?_;refine Zd (ks[k]'E) λq hq=>?_;rw[hq]at hA J hm he;have ho:=O.each q he;refine x (Qu hA U U)<|QL [sS 0] λb5 Y hp h8 hg=>QL [.string .empty,nS,sS 0] λb6 w4 hr hT h9 =>
    Qo<|Qw (j:=0) (u:=sS k) (hg.J hr) U U oh U λw5 hs hB=>QJ (Q5 q) (h9.O hs (by have:=hg.lt;simp;omega)) ⟨U,ho.one,U,La⟩ λw6 ht hv=>xe ?_
   have hU:b5<b6:=by have:=hg.lt;omega
   have hh:sW wA w6:=((hp.I hr).Q hs h8).Q ht (ov hp.size);have hC:QP ↑w6 b5 3 [sS k]:=hB.O ht (by simp;omega);have hw:=hR.J hh;have hV:=O.J hh;refine Qc<|x ZC<|Qb<|Qd<|Qc<|Qm U hv U U<|Qa<|Qx<|(QgD (nms:=(ks.take k).map (·.nm)) (capt:=[sP b1,sP b5]) (O.nm q he) (λw' L hi hL=>QlO (hw.J hi) (hC.J hi) ((hV.up (λb hb=>.inr (hL b hb))).J hi) hk U)).S ?_;rintro r7 w7 ⟨rfl,hj⟩;refine Qb ?_;have S:=hh.I hj;refine Qj<|Zu U U<|xe<|QY U (λZ=>?_) (λZ=>?_)
   .have e1:YQ sz [] (ks.map (·.k))=Js ((ks.take k).map (·.nm)) q.nm:=by rw[<-J];exact O1 Z
    refine Qj<|Qb<|Qi ⟨[_],Lb,by rw[h7,e1];rfl,H.I (I.I S)⟩
   have hy:(if Xd sz q.k≠0 then Xd sz q.k else YQ sz ((ks.take k).map (·.nm)++[q.nm]) ((ks.drop (k+1)).map (·.k)))=YQ sz [] (ks.map (·.k)):=by rw[<-J];exact(O0 Z).symm
   refine Qe ?_;have hW:=hw.J hj;have hY:=hv.J hj;refine Qc<|QV hW U U<|QV hY U U<|Qx<|(UD (((hS.J H).J I).J S) (ho.J S)).S ?_;rintro r8 w8 ⟨rfl,hD⟩;refine Qb ?_;have hz:=S.I hD;refine Qj<|Zu U U<|xe<|QY U (λT=>?_) (λT=>?_)
   .have e1:YQ sz [] (ks.map (·.k))=Xd sz q.k:=by rw[<-hy];exact O1 T
    have hJ:Xd sz q.k≠0:=T;refine Qj<|Qb<|Qi ⟨[_],Lb,by rw[h7,e1];rfl,H.I (I.I hz)⟩
   have hE:YQ sz ((ks.take k).map (·.nm)++[q.nm]) ((ks.drop (k+1)).map (·.k))=YQ sz [] (ks.map (·.k)):=by rw[<-hy];exact(O0 T).symm
   refine Qe<|Qq<|QH U U<|Qa<|xe ?_;exact⟨k+1,oa,Lb,E,I.I hz,by rw[hm];exact hE⟩
  have E:k<qx.length:=by have h6:(k:Int)<(qx.length:Int):=hc;omega
  have hm:(qx.take (k+1)).map (·.nm)=(qx.take k).map (·.nm)++[(qx[k]'E).nm]:=by rw[Lo E,Ls];rfl
  rw[Zz E,LO]at J;have he:=Lm E;have O:=(hX.J H).J I;refine Qe<|Qd<|Qn<|Qj<|xp XG O.arr U U E λaA hA=>?_;refine Zd (qx[k]'E) λq hq=>?_;rw[hq]at hA J hm he;have ho:=O.each q he;refine x (Qu hA U U)<|QL [sS 0] λb5 Y hp h8 hg=>QL [.string .empty,nS] λb6 w4 hr hT h9 =>
   Qo<|Qw (j:=0) (u:=sS k) (hg.J hr) U U oh U λw5 hs hB=>QJ (Q0 q) (h9.O hs (by have:=hg.lt;simp;omega)) ⟨U,ho.one,La⟩ λw6 ht hv=>xe ?_
  have hU:b5<b6:=by have:=hg.lt;omega
  have hh:sW wA w6:=((hp.I hr).Q hs h8).Q ht (ov hp.size);have hC:QP ↑w6 b5 3 [sS k]:=hB.O ht (by simp;omega);have hw:=(V.J I).J hh;refine Qc<|x ZC<|Qb<|Qd<|Qc<|Qm U hv U U<|Qa<|Qx<|(QgD (nms:=(qx.take k).map (·.nm)) (capt:=[sP b1,sP b5]) (O.nm q he) (λw' L hi hL=>Qlo (hw.J hi) (hC.J hi) (((O.J hh).up (λb hb=>.inr (hL b hb))).J hi) hk U)).S ?_;rintro r7 w7 ⟨rfl,hj⟩;refine Qb ?_;have S:=hh.I hj;refine Qj<|Zu U U<|xe<|QY U (λZ=>?_) (λZ=>?_)
  .have e1:Yc sz [] (qx.map (·.x))=Js ((qx.take k).map (·.nm)) q.nm:=by rw[<-J];exact O1 Z
   refine Qj<|Qb<|Qi ⟨[_],Lb,by rw[hI (by rw[e1];exact Z),e1];rfl,H.I (I.I S)⟩
  have hy:(if XR sz q.ls≠0 then XR sz q.ls else Yc sz ((qx.take k).map (·.nm)++[q.nm]) ((qx.drop (k+1)).map (·.x)))=Yc sz [] (qx.map (·.x)):=by rw[<-J];exact(O0 Z).symm
  refine Qe<|Qc<|QV (hw.J hj) U U<|QV (hv.J hj) U U<|Qx<|(qj (((hS.J H).J I).J S) (ho.J S)).S ?_;rintro r8 w8 ⟨rfl,hD⟩;refine Qb ?_;have hz:=S.I hD;refine Qj<|Zu U U<|xe<|QY U (λT=>?_) (λT=>?_)
  .have e1:Yc sz [] (qx.map (·.x))=XR sz q.ls:=by rw[<-hy];exact O1 T
   have hJ:XR sz q.ls≠0:=T;refine Qj<|Qb<|Qi ⟨[_],Lb,by rw[hI (by rw[e1];exact hJ),e1];rfl,H.I (I.I hz)⟩
  have hE:Yc sz ((qx.take k).map (·.nm)++[q.nm]) ((qx.drop (k+1)).map (·.x))=Yc sz [] (qx.map (·.x)):=by rw[<-hy];exact(O0 T).symm
  refine Qe<|Qq<|QH U U<|Qa<|xe ?_;exact⟨k+1,oa,Lb,E,I.I hz,by rw[hm];exact hE⟩
 have E:k<sz.length:=by have h1:(k:Int)<(sz.length:Int):=h3;omega
 rw[Zz E,List.any_cons]at ha;refine Qe<|Qd<|Qn<|Qc<|xii (hS.J H) U U E λgg h1=>?_;refine Zd (sz[k]'E) λn hn=>?_;rw[hn]at h1 ha;refine x (Qy h1 U)<|Qb<|QX (α:=Bool) [(26,31)] (λz=>[(31,.bool z)]) (λz w'=>w'=w2/\z=KY n) om ?_ ?_
 .refine Qq<|Qa<|xb (YA U U) (λhF=>?_) (λhF=>?_)
  .refine Qa<|Z6<|QB U<|xe ?_;exact⟨_,Lb,U,by unfold KY;rw[O4 hF];rfl⟩
  refine Qa<|Qa<|x (ZX U U)<|QB U<|xe ?_;exact⟨_,Lb,U,by unfold KY;rw[O6 hF];rfl⟩
 rintro z g Y ⟨rfl,rfl⟩;refine Q6 rfl (λhG=>?_) (λhG=>?_)
 .refine Qc<|Qb<|Qi ⟨[_],Lb,by unfold Ys;rw[O0 h0,O1 (by rw[<-ha,hG];rfl)];rfl,H⟩
 rw[hG,Bool.false_or]at ha;refine Qe<|Qq<|QH U U<|Qa<|xe ?_;exact⟨k+1,oa,Lb,E,U,ha⟩
theorem Qft {α:Type}(q:α->Bool):∀(l:List α) (i:Nat),fix q i l=-1\/((i:Int)<=fix q i l/\fix q i l<(i:Int)+l.length)
 | [],i=>.inl U
 | a::l,i=>by
  rw[YP];split
  .right;simp only[oV];omega
  rcases Qft q l (i+1)with h|h
  .exact .inl h
  right;simp only[oV];omega
theorem jk {α:Type}(q:α->Bool)(m:List α):∀(l:List α) (i:Nat),fix q i (l++m)=if 0<=fix q i l then fix q i l else fix q (i+l.length) m
 | [],i=>by
  show fix q i m=if(0:Int)<=-1 then(-1)else fix q i m
  rw[O0 oh]
 | a::l,i=>by
  rw[MN,YP,YP];by_cases h:q a=true
  .rw[O1 h,O1 h,O1 oa]
  rw[O0 h,O0 h,jk q m l (i+1),LX];rw[show i+1+l.length=i+(l.length+1) by omega]
theorem QaV {α:Type}(q:α->Bool)(d:Nat):∀(l:List α) (i:Nat),fix q (i+d) l=if 0<=fix q i l then fix q i l+d else -1
 | [],i=>rfl
 | a::l,i=>by
  rw[YP,YP];by_cases h:q a=true
  .rw[O1 h,O1 h,O1 oa];omega
  rw[O0 h,O0 h,show i+d+1=(i+1)+d by omega,QaV q d l (i+1)]
theorem V1 {α β:Type}(q:β->Bool)(g:α->β):∀(l:List α) (i:Nat),fix q i (l.map g)=fix (λa=>q (g a)) i l
 | [],i=>rfl
 | a::l,i=>by rw[LO,YP,YP,V1 q g l (i+1)]
theorem Qq7 [Fu sV gp fn]{cap:LV}{q:(Int×Int)->Bool}{v:O9}{l:xF}(h:Zk L ↑w v l.length 2 (l.flatMap QD))
  (hk:∀e∈l,∀(E:O8),sW w E->QZ sV gp ([sT (QD e)]++cap) E λr w'=>r=.bool (q e)/\sW E w'):
  QZ sV 330 [v,.func (.func gp) #[] cap.toArray] w λr w'=>r=sS (fix q 0 l)/\sW w w' :=
 ixG ⟨_,U,func330⟩ Yw (ldA Yw) h hk
theorem QrI [Fu sV gp fn]{cap:LV}{q:(Int×Int)->Bool}{v:O9}{l:xF}(h:Zk L ↑w v l.length 2 (l.flatMap QD))
  (hk:∀e∈l,∀(E:O8),sW w E->QZ sV gp ([sT (QD e)]++cap) E λr w'=>r=.bool (q e)/\sW E w'):
  QZ sV 294 [v,.func (.func gp) #[] cap.toArray] w λr w'=>r=.bool (l.any q)/\sW w w':=by
 refine Zt func294 ?_;refine Qc<|Qb<|Qj<|Qa<|Qbo<|(Qq7 h hk).S ?_;rintro r1 E ⟨rfl,H⟩;refine x (YI U U)<|Qb<|Qi ⟨[_],Lb,O2 Value.bool (yj q l 0),H⟩
theorem Vh (sz:LI):∀(ls:xF) (pr:Option Int),X3 sz pr ls=0->(∀p∈ls,0<=p.1/\p.1<(sz.length:Int))/\Yp (ls.map (·.1))/\∀y,pr=some y->∀p∈ls,y<p.1
 | [],pr,_=>⟨λp E=>(by cases E),List.Pairwise.nil,λy _ p E=>(by cases E)⟩
 | l::ls,pr,h=>by
  unfold X3 at h;split at h
  .cases h
  rename_i V;split at h
  .cases h
  rename_i I;split at h
  .cases h
  obtain⟨J,O,S⟩:=Vh sz ls (some l.1) h;have H:=S l.1 U;refine⟨λp E=>?_,L6.2 ⟨λx hx=>?_,O⟩,λy T p E=>?_⟩
  .rcases Lk.1 E with rfl|E
   .omega
   exact J p E
  .obtain⟨p,E,rfl⟩:=Ly.1 hx;exact H p E
  subst T;have Y:¬l.1<=y:=λe=>I (O4 e);rcases Lk.1 E with rfl|E
  .omega
  have:=H p E;omega
theorem Vf (sz:LI):∀(ls:xF) (pr:Option Int),Ku sz pr ls=0->(∀p∈ls,0<=p.1/\p.1<(sz.length:Int)/\-65536<=p.2/\p.2<=65536)/\Yp (ls.map (·.1))/\∀y,pr=some y->∀p∈ls,y<p.1
 | [],pr,_=>⟨λp E=>(by cases E),List.Pairwise.nil,λy _ p E=>(by cases E)⟩
 | l::ls,pr,h=>by
  unfold Ku at h;split at h
  .cases h
  rename_i h1;split at h
  .cases h
  rename_i J;split at h
  .cases h
  rename_i O;obtain⟨S,T,V⟩:=Vf sz ls (some l.1) h;have H:=V l.1 U;have I:grt l.2=false:=by cases Y:grt l.2 with|true=>exact O3 (.inr Y) O|false=>rfl
  unfold grt at I;simp only[Og,decide_eq_false_iff_not]at I;refine⟨λp E=>?_,L6.2 ⟨λx hx=>?_,T⟩,λy Z p E=>?_⟩
  .rcases Lk.1 E with rfl|E
   .omega
   exact S p E
  .obtain⟨p,E,rfl⟩:=Ly.1 hx;exact H p E
  subst Z;have h8:¬l.1<=y:=λe=>J (O4 e);rcases Lk.1 E with rfl|E
  .omega
  have:=H p E;omega
theorem Jo (sz:LI):∀(l:List Uf) (sn:List ByteArray),Yc sz sn l=0->∀x∈l,XR sz x.ls=0
 | [],_,_,x,hx=>by cases hx
 | a::l,sn,h,x,hx=>by
  unfold Yc at h;split at h
  .rename_i E;exact O3 h E
  split at h
  .rename_i E;exact O3 h E
  rename_i E;rcases Lk.1 hx with rfl|hx
  .exact Lq.1 E
  exact Jo sz l _ h x hx
theorem Kw (sz:LI):∀(l:List xT) (sn:List ByteArray),YQ sz sn l=0->∀x∈l,Xd sz x=0
 | [],_,_,x,hx=>by cases hx
 | a::l,sn,h,x,hx=>by
  unfold YQ at h;split at h
  .rename_i E;exact O3 h E
  split at h
  .rename_i E;exact O3 h E
  rename_i E;rcases Lk.1 hx with rfl|hx
  .exact Lq.1 E
  exact Kw sz l _ h x hx
structure Quo (sz:LI)(ex:List Uf)(cs:List xT):Prop where
 s8:sz.length<=8
 s:∀n∈sz,1<=n/\n<=4096
 xl:ex.length<=32
 kl:cs.length<=32
 x:∀e∈ex,∀p∈e.ls,0<=p.1/\p.1<(sz.length:Int)
 k:∀e∈cs,(∀p∈e.ts,0<=p.1/\p.1<(sz.length:Int)/\-65536<=p.2/\p.2<=65536)/\e.ts.length<=8
theorem VQ {sz:LI}{ex:List Uf}{cs:List xT}(h:Ys sz ex cs=0):Quo sz ex cs:=by
 unfold Ys at h;split at h
 .cases h
 rename_i Z;split at h
 .cases h
 rename_i S;split at h
 .cases h
 rename_i ha;split at h
 .rename_i hx;exact O3 h hx
 rename_i hx;refine⟨oa,λn T=>?_,oa,oa,λe I p H=>?_,λe I=>?_⟩
 .have E:KY n=false:=by
   cases V:KY n with
   | false=>rfl
   | true=>exact O3 (NK.2 ⟨n,T,V⟩) S
  unfold KY at E;simp only[Og,decide_eq_false_iff_not]at E;omega
 .have E:=Jo sz ex [] (Lq.1 hx) e I;unfold XR at E;split at E
  .cases E
  exact(Vh sz e.ls none E).1 p H
 have E:=Kw sz cs [] h e I;unfold Xd at E;split at E
 .cases E
 split at E
 .rename_i J;exact O3 E J
 rename_i J;obtain⟨O,Y,_⟩:=Vf sz e.ts none (Lq.1 J);refine⟨O,?_⟩;have:=xO sz.length (e.ts.map (·.1)) (List.Pairwise.imp (λ{a b} (h:a<b)=>(by omega:a≠b)) Y) (λx hx=>by
  obtain⟨p,H,rfl⟩:=Ly.1 hx;exact⟨(O p H).1,(O p H).2.1⟩)
 rw[Lj]at this;omega
def Qpx (sz t:LI):Prop:=t.length=sz.length/\∀i,i<t.length->0<=xo t i/\xo t i<xo sz i
theorem QhJ (t:LI)(p:Int×Int)(l:xF)(s:Int):(l++[p]).foldl (λs p=>s+p.2*t.getD p.1.toNat 0) s=l.foldl (λs p=>s+p.2*t.getD p.1.toNat 0) s+p.2*xo t p.1.toNat:=by
 rw[Mk];rfl
theorem Qjl {nm:ByteArray}{ts:xF}{bd:Int}{t:LI}(Y:P2s [] ↑w vl ts)(ht:QG [] ↑w vt t)
  (hi:∀p∈ts,0<=p.1/\p.1<(t.length:Int)/\-65536<=p.2/\p.2<=65536) (h8:ts.length<=8) (hj:∀i,i<t.length->0<=xo t i/\xo t i<=4096):
  QZ sV 297 [.agg #[.string nm,vl,sS bd],vt] w λr w'=>r=sS (Qso t ⟨nm,ts,bd⟩)/\sW w w':=by
 refine Zt func297 ?_;refine Qc<|Zg [.string nm,vl,sS bd] λb2 w1 Z hw hm=>Qb<|Qc<|Qb<|Qd<|Qc<|Qm U hm U U<|QE (Y.J Z) U<|Qa<|xe<|Q2 (α:=Nat×Int) [(5,5),(7,7),(11,25)] (λz=>[(5,sS z.2),(11,sS z.1)]) (λz w'=>z.1<=ts.length/\sW w w'/\z.2=(ts.take z.1).foldl (λs p=>s+p.2*t.getD p.1.toNat 0) 0/\-(268435456*(z.1:Int))<=z.2/\z.2<=268435456*(z.1:Int)) (λz=>ts.length - z.1) (0,0) oB
  ⟨Lp _,Z,U,og,og⟩ ?_
 rintro⟨k,s⟩ g w2 ⟨hk,O,S,hy,hz⟩;refine Zi rfl U (λT=>?_) (λT=>?_)
 .refine Qt ?_;have hn:ts.length<=k:=by have I:¬(k:Int)<(ts.length:Int):=T;omega
  rw[Lt hn]at S;refine Qj<|Qb<|Qi ⟨[_],Lb,by rw[S];rfl,O⟩
 have E:k<ts.length:=by have I:(k:Int)<(ts.length:Int):=T;omega
 have V:=hi _ (Lm E);have ha:ts.take (k+1)=ts.take k++[ts[k]'E]:=Lo E;refine Qe<|Qd<|Qn<|Qc<|xp Yw (Y.J O) U U E λh0 I=>?_;refine Zd (ts[k]'E) λe he=>?_;rw[he]at I V ha;refine x (Qu I U U)<|QL [sS 0,sS 0] λb7 w3 ho hp J=>QJ (QD e) J oB λw4 hq J=>xe ?_;have hr:sW w2 w4:=ho.Q hq hp;have hb:=O.I hr;have hs:e.1=((e.1.toNat:Nat):Int):=oa
 have hg:e.1.toNat<t.length:=oa
 have hh:=hj _ hg;have h3:-268435456<=e.2*xo t e.1.toNat/\e.2*xo t e.1.toNat<=268435456:=by
  have h1:(-65536)*xo t e.1.toNat<=e.2*xo t e.1.toNat:=Int.mul_le_mul_of_nonneg_right V.2.2.1 hh.1;have h2:e.2*xo t e.1.toNat<=65536*xo t e.1.toNat:=Int.mul_le_mul_of_nonneg_right V.2.2.2 hh.1;omega
 refine Zd (e.2*xo t e.1.toNat) λpr h4=>?_;refine ZH [] (Xf 0 11 [])<|p QA<|p (QF U)<|pq (λ_ H=>Qk (J.J H) U U)<|p QA<|p (QF U) <|
  pq (λ_ H=>Qk (J.J H) U U)<|pic (i:=e.1.toNat) U (ht.J hb) U (O2 sS hs) hg λh5 hv=>pq (λ_ H=>Qy (hv.J H) U) <|
  p (λ_=>QjY U U ⟨oa,oa⟩)<|p (λ_=>X2 U U ⟨oa,oa⟩)<|p ZL<|pe ?_
 refine Qq<|QH U U<|Qa<|xe<|⟨(k+1,s+e.2*xo t e.1.toNat),og,oB,E,hb.I (xj.X _ _),?_,og,og⟩;simp only[];rw[ha,QhJ,<-S]
theorem Qln {bt:Nat}{t:LI}(J:QP ↑w bt 63 [vt])(O:QG [] ↑w vt t)(e:Int×Int)(Y:0<=e.1/\e.1<(t.length:Int)):
  QZ sV 295 ([sT (QD e)]++[sP bt]) w λr w'=>r=.bool (!decide (t.getD e.1.toNat 0=e.2))/\sW w w':=by
 refine Zt func295 ?_;refine Qc<|Zg (QD e) λb2 Z H ha I=>Qb ?_;have S:e.1=((e.1.toNat:Nat):Int):=oa
 have T:e.1.toNat<t.length:=oa
 refine Qd<|ZH [] (Xf 0 9 [])<|pq (λ_ E=>Qk ((J.J H).J E) U U)<|p (QF U)<|pq (λ_ E=>Qk (I.J E) U U)<|pic (i:=e.1.toNat) U (O.J H) U (O2 sS S) T λa7 V =>
  pq (λ_ E=>Qy (V.J E) U)<|p (QF U)<|pq (λ_ E=>Qk (I.J E) U U)<|p (λ_=>YS U U) <|
  p ZL<|pe ?_
 refine Qi ⟨[_],Lb,?_,H.I (xj.X _ _)⟩;show Value.bool (decide (¬xo t e.1.toNat=e.2))=_;unfold xo;simp
theorem Qjj (t:LI)(x:Uf):(!(x.ls.any λl=>!decide (t.getD l.1.toNat 0=l.2)))=Us t x:=by
 unfold Us;induction x.ls with
 | nil=>rfl
 | cons a l ih=>rw[List.any_cons,M4,<-ih];cases decide (t.getD a.1.toNat 0=a.2) <;> simp
theorem QoF {q:XV}{t:LI}(J:QP ↑w b 105 (Q0 q))(O:P2s [] ↑w q.v q.ls)(I:QG [] ↑w vt t)(S:∀p∈q.ls,0<=p.1/\p.1<(t.length:Int)):
  QZ sV 293 ([vt]++[sP b]) w λr w'=>r=.bool (Us t q.x)/\sW w w':=by
 refine Zt func293 ?_;refine Qc<|Qo<|QaD (us:=[vt]) I.cells λb2 Z E ha T=>Qb<|Qc<|Qm U (J.J E) U U<|x ZC<|Qx<|(QrI (q:=λl=>!decide (t.getD l.1.toNat 0=l.2)) (cap:=[sP b2]) (O.J E) (λe V Y H=>Qln (T.J H) ((I.J E).J H) e (S e V))).S ?_;rintro r2 Y ⟨rfl,H⟩;refine x (Zr U)<|Qb<|Qi ⟨[_],Lb,O2 Value.bool (Qjj t q.x),E.I H⟩
theorem QoE {q:KV}{t:LI}(H:QP ↑w b 110 (Q5 q))(J:P2s [] ↑w q.v q.ts)(O:QG [] ↑w vt t)
  (S:∀p∈q.ts,0<=p.1/\p.1<(t.length:Int)/\-65536<=p.2/\p.2<=65536) (T:q.ts.length<=8) (V:∀i,i<t.length->0<=xo t i/\xo t i<=4096):
  QZ sV 296 ([vt]++[sP b]) w λr w'=>r=.bool (qz t q.k)/\sW w w':=by
 refine Zt func296 ?_;refine Qc<|Qb ?_;have hd:sW w { w with drawn:=w.drawn+1 }:=xj.X _ _
 refine Qd<|UF (sW { w with drawn:=w.drawn+1 }) [oE 0,oE 1,oE 3,oE 4,oF 2,oE 5,oE 6] mixed om od (xj.Y _ _) ?_
 refine pq (λ_ E=>ZN ((H.J hd).J E) U U)<|p QA<|p (QF U)<|pq (λ_ E=>Qk ((H.J hd).J E) U U)<|pk<|xg<|(Qjl (J.J hd) (O.J hd) S T V).S ?_;rintro r1 Y ⟨rfl,I⟩;refine⟨I,?_⟩;refine p (λ_=>ZX U U)<|p ZL<|pe ?_;exact Qi ⟨[_],Lb,U,hd.I I⟩
inductive Cd where
 | ex (b:Nat) (q:XV)
 | co (b:Nat) (q:KV)
def Cd.val:Cd->O9
 | .ex b _=>.func (.func 293) #[] #[.pointer (some ⟨b,0,none⟩)]
 | .co b _=>.func (.func 296) #[] #[.pointer (some ⟨b,0,none⟩)]
def Cd.src:Cd->Sum XV KV
 | .ex _ q=>.inl q
 | .co _ q=>.inr q
def QhK (t:LI):Sum XV KV->Bool
 | .inl q=>Us t q.x
 | .inr q=>qz t q.k
def Cd.vio (t:LI)(c:Cd):Bool:=QhK t c.src
abbrev qm (c:Cd):LV:=[c.val]
theorem QrJ (c:Cd):(qm c).length=1:=rfl
def CdA (H:xI):Cd->Prop
 | .ex b q=>QP H b 105 (Q0 q)/\P2s [] H q.v q.ls
 | .co b q=>QP H b 110 (Q5 q)/\P2s [] H q.v q.ts
theorem CdA.J {w w':O8}{c:Cd}(h:CdA ↑w c)(E:sW w w'):CdA ↑w' c:=by
 cases c with
 | ex b q=>exact⟨h.1.J E,h.2.J E⟩
 | co b q=>exact⟨h.1.J E,h.2.J E⟩
def Cd.rg (n:Nat):Cd->Prop
 | .ex _ q=>∀p∈q.ls,0<=p.1/\p.1<(n:Int)
 | .co _ q=>(∀p∈q.ts,0<=p.1/\p.1<(n:Int)/\-65536<=p.2/\p.2<=65536)/\q.ts.length<=8
theorem QdK {q:XV}(w:O8):QZ sV 254 [sT (Q0 q)] w λr w'=>sW w w'/\∃b,r=(Cd.ex b q).val/\↑w<=b/\QP ↑w' b 105 (Q0 q):=by
 refine Zt func254 ?_;refine Qc<|Zg (Q0 q) λb1 J E H I=>Qb<|Qc<|x ZC<|Qb<|Qi ⟨[_],Lb,E,b1,U,H,I⟩
theorem Qfw {q:KV}(w:O8):QZ sV 255 [sT (Q5 q)] w λr w'=>sW w w'/\∃b,r=(Cd.co b q).val/\↑w<=b/\QP ↑w' b 110 (Q5 q):=by
 refine Zt func255 ?_;refine Qc<|Zg (Q5 q) λb1 J E H I=>Qb<|Qc<|x ZC<|Qb<|Qi ⟨[_],Lb,E,b1,U,H,I⟩
def CdB (H:xI):Cd->Prop
 | .ex b q=>QP H b 105 (Q0 q)
 | .co b q=>QP H b 110 (Q5 q)
def Cd.blk:Cd->Nat
 | .ex b _=>b
 | .co b _=>b
theorem CdB.lt {H:xI}{c:Cd}(h:CdB H c):c.blk<H.size:=by cases c <;> exact QP.lt h
theorem CdB.O {X:LN}{w w':O8}{c:Cd}(h:CdB ↑w c)(E:xj X w w')(H:c.blk∉X):CdB ↑w' c:=by
 cases c <;> exact QP.O h E H
structure CdL (base:Nat)(w:O8)(v:O9)(cds:List Cd):Prop where
 own:w.ownsRow base 400 1 v cds.length (cds.flatMap qm)
 bx:∀c∈cds,CdB ↑w c/\c.blk∉ob v
theorem CdL.add {base:Nat}{E H:O8}{v I:O9}{cds:List Cd}{c:Cd}(h:CdL base w v cds)(S:sW w E)(T:CdB ↑E c)(hb:↑w<=c.blk)
  (V:H.ownsRow base 400 1 I (cds.length+1) (cds.flatMap qm++[c.val])) (Y:xj (ob v) E H) (Z:∀b∈ob I,b∈ob v\/↑E<=b):CdL base H I (cds++[c]):=by
 have ha:c.blk∉ob v:=λJ=>ov ((Q3 h.own) _ J)
 refine⟨?_,λd hd=>?_⟩
 .rw[Ln,LC];simpa using V
 have key:CdB ↑E d/\d.blk∉ob v:=by
  rcases Lh.1 hd with hd|hd
  .exact⟨(h.bx d hd).1.O S oe,(h.bx d hd).2⟩
  simp only[oJ]at hd;subst hd;exact⟨T,ha⟩
 refine⟨key.1.O Y key.2,λJ=>?_⟩;rcases Z _ J with O|O
 .exact key.2 O
 have:=key.1.lt;omega
theorem QlN {qx:List XV}{ks:List KV}(hX:jT [] ↑w vx qx)(hK:jK [] ↑w vk ks)(hH:qx.length<=32)(hI:ks.length<=32):
  QZ sV 184 [.agg #[vs,vx,vk]] w λr w'=>sW w w'/\∃cds,CdL ↑w w' r cds/\cds.map Cd.src=qx.map Sum.inl++ks.map Sum.inr:=by
 refine Zt func184 ?_;refine Qc<|Zg [vs,vx,vk] λb1 O I hJ h3=>Qb<|Qc<|Qb<|Qd<|Qc<|Qm U h3 U U<|QE (hX.J I).arr U<|Qa<|xe<|Q2 (α:=Nat×O9×List Cd) [(3,3),(5,5),(11,20)] (λz=>[(3,z.2.1),(11,sS z.1)]) (λz w'=>z.1<=qx.length/\sW O w'/\CdL ↑O w' z.2.1 z.2.2/\z.2.2.map Cd.src=(qx.take z.1).map Sum.inl) (λz=>qx.length - z.1) (0,nS,[]) oB
  ⟨Lp _,xj.Y _ _,⟨QI _ _ _ _,λc hc=>(by cases hc)⟩,rfl⟩ ?_
 rintro⟨k,vo,cds⟩ g wA ⟨hk,J,Y,Z⟩;simp only[]at hk Y Z;have hM:cds.length=k:=by have:=O2 oR Z;simp at this;omega
 refine Zi rfl U (λhl=>?_) (λhl=>?_)
 .refine Qt ?_;have h8:qx.length<=k:=by have hm:¬(k:Int)<(qx.length:Int):=hl;omega
  rw[Lt h8]at Z;refine Qd<|Qc<|Qm U (h3.J J) U U<|QE ((hK.J I).J J).arr U<|Qa<|xe<|Q2 (α:=Nat×O9×List Cd) [(3,3),(7,7),(24,33)] (λz=>[(3,z.2.1),(24,sS z.1)]) (λz w'=>z.1<=ks.length/\sW O w'/\CdL ↑O w' z.2.1 z.2.2/\z.2.2.map Cd.src=qx.map Sum.inl++(ks.take z.1).map Sum.inr) (λz=>ks.length - z.1) (0,vo,cds) oB
   ⟨Lp _,J,Y,by simp only[];rw[Z];simp⟩ ?_
  rintro⟨j,vp,cdt⟩ g wB ⟨hj,ha,S,he⟩;simp only[]at hj S he;have hN:cdt.length=qx.length+j:=by have:=O2 oR he;simp at this;omega
  refine Zi U U (λhn=>?_) (λhn=>?_)
  .refine Qt ?_;have h9:ks.length<=j:=by have hm:¬(j:Int)<(ks.length:Int):=hn;omega
   rw[Lt h9]at he;refine Qj<|Qb<|Qi ⟨[_],Lb,I.I ha,cdt,⟨Zv S.own I.size,S.bx⟩,he⟩
  have T:j<ks.length:=by have hm:(j:Int)<(ks.length:Int):=hn;omega
  have h4:=Lm T;have h5:ks.take (j+1)=ks.take j++[ks[j]'T]:=Lo T;refine Qe<|Qd<|Qn<|Qc<|xp Xs ((hK.J I).J ha).arr U U T λaA hA=>?_;refine Zd (ks[j]'T) λq hq=>?_;rw[hq]at hA h4 h5;have ho:=((hK.J I).J ha).each q h4;refine x (Qu hA U U)<|QL [.string .empty,nS,sS 0] λb7 w4 hp hr hs=>QJ (Q5 q) hs ⟨U,ho.one,U,La⟩ λw5 ht hv=>xe ?_;have hg:sW wB w5:=hp.Q ht hr;refine Qq<|Qa<|QV hv U U<|Qx<|(Qfw w5).S ?_;rintro r6 w6 ⟨hw,E,rfl,hB,hy⟩;refine Qo<|Zb [[(Cd.co E q).val]] λhC w7 hh hD hz=>?_;have H:=(hg.I hw).I hh;have hE:=(ha.I H).size;have hF:=hg.size;refine Qo<|Q9 (news:=[(Cd.co E q).val]) (L:=[]) (Ql S.own H) U U U (hz.at oe) (by simp[Cd.val,Value.oneCell']) oa oa λv8 w8 h0 hi h1 =>
   Qb ?_
  have hge:=Qg S.own;have hG:=S.add (c:=Cd.co E q) H (QP.J hy hh) (by show _<=E;omega) h0 hi h1;have h2:sW O w8:=(ha.I H).G hi (λb hb=>.inr (hge b hb).1);refine Qq<|QH U U<|Qa<|xe ?_;exact⟨(j+1,v8,cdt++[Cd.co E q]),og,oB,T,h2,hG,by simp only[];rw[Ls,he,h5];simp[Cd.src]⟩
 have V:k<qx.length:=by have hm:(k:Int)<(qx.length:Int):=hl;omega
 have h6:=Lm V;have h7:qx.take (k+1)=qx.take k++[qx[k]'V]:=Lo V;refine Qe<|Qd<|Qn<|Qc<|xp XG ((hX.J I).J J).arr U U V λaA hA=>?_;refine Zd (qx[k]'V) λq hq=>?_;rw[hq]at hA h6 h7;have ho:=((hX.J I).J J).each q h6;refine x (Qu hA U U)<|QL [.string .empty,nS] λb7 w4 hp hr hs=>QJ (Q0 q) hs ⟨U,ho.one,La⟩ λw5 ht hv=>xe ?_;have hg:sW wA w5:=hp.Q ht hr;refine Qq<|Qa<|QV hv U U<|Qx<|(QdK w5).S ?_;rintro r6 w6 ⟨hw,E,rfl,hB,hy⟩;refine Qo<|Zb [[(Cd.ex E q).val]] λhC w7 hh hD hz=>?_;have H:=(hg.I hw).I hh;have hE:=(J.I H).size;have hF:=hg.size;refine Qo<|Q9 (news:=[(Cd.ex E q).val]) (L:=[]) (Ql Y.own H) U U U (hz.at oe) (by simp[Cd.val,Value.oneCell']) oa oa λv8 w8 h0 hi h1 =>
  Qb ?_
 have h2:sW O w8:=(J.I H).G hi (λb hb=>.inr ((Qg Y.own) b hb).1);refine Qq<|QH U U<|Qa<|xe ?_;exact⟨(k+1,v8,cds++[Cd.ex E q]),og,oB,V,h2,(Y.add (c:=Cd.ex E q) H (QP.J hy hh) (by show _<=E;omega) h0 hi h1),by simp only[];rw[Ls,Z,h7];simp[Cd.src]⟩
theorem Qrb [Fu sV gp fn]{cap:LV}{q:Cd->Bool}{v:O9}{l:List Cd}(h:Zk L ↑w v l.length 1 (l.flatMap qm))
  (hk:∀e∈l,∀(E:O8),sW w E->QZ sV gp ([e.val]++cap) E λr w'=>r=.bool (q e)/\sW E w'):
  QZ sV 252 [v,.func (.func gp) #[] cap.toArray] w λr w'=>r=sS (fix q 0 l)/\sW w w' :=
 ixG ⟨_,U,func252⟩ QrJ (ld1 λ_=>U) h hk
theorem Qpa {c:Cd}{t:LI}(E:CdA ↑w c)(I:QG [] ↑w vt t)(H:c.rg t.length)(J:∀i,i<t.length->0<=xo t i/\xo t i<=4096):
  ∃g fn cap,c.val=.func (.func g) #[] #[cap]/\Fu sV g fn/\QZ sV g ([vt]++[cap]) w λr w'=>r=.bool (c.vio t)/\sW w w':=by
 cases c with
 | ex b q=>exact⟨_,_,_,U,inferInstance,QoF E.1 E.2 I H⟩
 | co b q=>exact⟨_,_,_,U,inferInstance,QoE E.1 E.2 I H.1 H.2 J⟩
theorem Qjh {bt:Nat}{c:Cd}{t:LI}(E:QP ↑w bt 63 [vt])(H:CdA ↑w c)(I:QG [] ↑w vt t)(J:c.rg t.length)(O:∀i,i<t.length->0<=xo t i/\xo t i<=4096):
  QZ sV 253 ([c.val]++[sP bt]) w λr w'=>r=.bool (c.vio t)/\sW w w':=by
 obtain⟨gq,fn,cap,S,hF,hcall⟩:=Qpa H I J O;rw[S];refine Zt func253 ?_;refine Qc<|Qb<|Qj<|Xe E U U<|Qo<|xc (g:=gq) (fn:=fn) (first:=[]) (capt:=[cap]) U<|hcall.S ?_;rintro r1 V ⟨rfl,T⟩;refine Qb<|Qi ⟨[_],Lb,U,T⟩
theorem QcM {v:O9}{cds:List Cd}{t:LI}(h:Zk L ↑w v cds.length 1 (cds.flatMap qm))(O:∀c∈cds,CdA ↑w c)(I:QG [] ↑w vt t)(S:∀c∈cds,c.rg t.length)(T:∀i,i<t.length->0<=xo t i/\xo t i<=4096):
  QZ sV 183 [v,vt] w λr w'=>r=sS (fix (Cd.vio t) 0 cds)/\sW w w':=by
 refine Zt func183 ?_;refine Qc<|Qo<|QaD (us:=[vt]) I.cells λV w1 H ha Y=>Qb<|Qj<|x ZC<|Qx<|(Qrb (q:=Cd.vio t) (cap:=[sP V]) (h.J H) (λc J Z E=>Qjh (Y.J E) (((O c J).J H).J E) ((I.J H).J E) (S c J) T)).S ?_;rintro r2 Z ⟨rfl,E⟩;refine Qb<|Qi ⟨[_],Lb,U,H.I E⟩
theorem QlZ {sz t:LI}(hS:QG [] ↑w vs sz)(H:QG [] ↑w vt t)(h:Qpx sz t):
  QZ sV 251 [.agg #[vs,vx,vk],vt] w λr w'=>r=sS 0/\sW w w':=by
 have hc:=H.le;have h0:=h.1;refine Zt func251 ?_;refine Qc<|Zg [vs,vx,vk] λb2 T E he J=>Qb<|Qd<|Qj<|QE (H.J E) U<|Qm U J U U<|QE (hS.J E) U<|x (YS U U) <|
  xe ?_
 refine ZI rfl (λO=>?_) (λO=>?_)
 .refine Qe<|Qd<|Qj<|QE (H.J E) U<|Qa<|xe<|Q2 (α:=Nat) [(4,6),(15,31)] (λz=>[(15,sS z)]) (λz w'=>z<=t.length/\w'=T) (λz=>t.length - z) 0 Lb ⟨Lp _,U⟩ ?_;rintro k g V ⟨hk,rfl⟩;refine Zi U U (λS=>?_) (λS=>?_)
  .refine Qt<|Qc<|Qb<|Qi ⟨[_],Lb,U,E⟩
  have I:k<t.length:=by have hg:(k:Int)<(t.length:Int):=S;omega
  have hb:=h.2 k I;refine Qe<|Qd<|Qn<|Qj<|xic (i:=k) (H.J E) U U I λhh Y=>x (Qy Y U)<|x Qh<|Qb<|QX (α:=Unit) [(20,30)] (λz=>[(30,.bool false)]) (λz w'=>w'=V) om ?_ ?_
  .refine Qq<|Qa<|xb (YA U U) (λZ=>oa) (λZ=>?_);refine Qa<|Qa<|Qm U J U U<|Qa<|xic (i:=k) (hS.J E) U U oa λhi ha=>x (Qy ha U) <|
    x (YI rfl U)<|QB U<|xe ?_
   exact⟨(),⟨O2 Value.bool (O6 oa),La⟩,U⟩
  rintro _ g w3 rfl;refine Zl U<|Qe<|Qq<|QH U U<|Qa<|xe ?_;exact⟨k+1,oa,Lb,I,U⟩
 exact O3 (show(t.length:Int)=(sz.length:Int) by omega) O
theorem Qaf {sz t:LI}{qx:List XV}{ks:List KV}(hS:QG [] ↑w vs sz)(S:jT [] ↑w vx qx)(hK:jK [] ↑w vk ks)(T:QG [] ↑w vt t)(V:Ys sz (qx.map (·.x)) (ks.map (·.k))=0)(h:Qpx sz t):
  QZ sV 182 [.agg #[vs,vx,vk],vt] w λr w'=>r=sS 0/\sW w w':=by
 refine Zt func182 ?_;refine Qc<|Zg [vs,vx,vk] λb2 Z E ha I=>Qb<|Qd<|Qc<|QV I U U<|Qx<|(jn (hS.J E) (S.J E) (hK.J E)).S ?_;rintro r2 w2 ⟨J,O⟩;rw[V]at J;subst J;refine Qb<|Qj<|Zu U U<|xe<|Zl rfl<|Qe ?_;have H:=E.I O;refine Qc<|QV (I.J O) U U<|Qa<|Qx<|(QlZ (hS.J H) (T.J H) h).S ?_;rintro r3 w3 ⟨rfl,Y⟩;refine Qb<|Qi ⟨[_],Lb,U,H.I Y⟩
def UM (qx:List Uf)(ks:List xT)(t:LI):Int×Int×Bool :=
 if 0<=fix (Us t) 0 qx then(1,fix (Us t) 0 qx,true)else if 0<=fix (qz t) 0 ks then(2,fix (qz t) 0 ks,true)else(0,0,false)
theorem QoB {cds:List Cd}{qx:List XV}{ks:List KV}(t:LI)(h:cds.map Cd.src=qx.map Sum.inl++ks.map Sum.inr):
  fix (Cd.vio t) 0 cds=if 0<=fix (Us t) 0 (qx.map (·.x))then fix (Us t) 0 (qx.map (·.x))else if 0<=fix (qz t) 0 (ks.map (·.k))then fix (qz t) 0 (ks.map (·.k))+qx.length else -1:=by
 have E:fix (Cd.vio t) 0 cds=fix (QhK t) 0 (cds.map Cd.src):=(V1 (QhK t) Cd.src cds 0).symm;rw[E,h,jk,V1,Lj,QaV,V1 (QhK t) Sum.inr ks 0];have e1:fix (λa=>QhK t (Sum.inl a)) 0 qx=fix (Us t) 0 (qx.map (·.x)):=(V1 (Us t) XV.x qx 0).symm;have e2:fix (λa=>QhK t (Sum.inr a)) 0 ks=fix (qz t) 0 (ks.map (·.k)):=(V1 (qz t) KV.k ks 0).symm;rw[e1,e2]
theorem Qqh {P:Int×Int×Bool}{a b:Int}{c:Bool}(h:P=(a,b,c)):(Value.tuple #[sS a,sS b,.bool c,sS 0])=.tuple #[sS P.1,sS P.2.1,.bool P.2.2,sS 0]:=by rw[h]
theorem zz {sz t:LI}{qx:List XV}{ks:List KV}(hS:QG [] ↑w vs sz)(T:jT [] ↑w vx qx)(hK:jK [] ↑w vk ks)(ht:QG [] ↑w vt t)(hc:Ys sz (qx.map (·.x)) (ks.map (·.k))=0)(h:Qpx sz t):
  QZ sV 108 [.agg #[vs,vx,vk],vt] w λr w'=>sW w w'/\r=.tuple #[sS (UM (qx.map (·.x)) (ks.map (·.k)) t).1,sS (UM (qx.map (·.x)) (ks.map (·.k)) t).2.1,.bool (UM (qx.map (·.x)) (ks.map (·.k)) t).2.2,sS 0]:=by
 have V:=VQ hc;have hy:qx.length<=32:=by have:=V.xl;simpa using this
 have hz:ks.length<=32:=by have:=V.kl;simpa using this
 refine Zt func108 ?_;refine Qc<|Zg [vs,vx,vk] λb2 w1 Y h8 hl=>x Qh<|x Qh<|x Qh<|Qb<|Qd<|Qc<|QV hl U U<|Qa<|Qx<|(Qaf (hS.J Y) (T.J Y) (hK.J Y) (ht.J Y) hc h).S ?_;rintro r2 w2 ⟨rfl,hn⟩;refine Qb<|Qj<|Zu U U<|xe<|Zl rfl<|Qe ?_;have he:=Y.I hn;have ho:=hl.J hn;refine Qc<|QV ho U U<|Qx<|(QlN (T.J he) (hK.J he) hy hz).S ?_;rintro r3 w3 ⟨hp,cds,hL,hg⟩;have hb:=he.I hp;have h9:cds.length=qx.length+ks.length:=by have:=O2 oR hg;simpa using this
 have h0:∀i,i<t.length->0<=xo t i/\xo t i<=4096:=λi hi=>by
  have I:=h.2 i hi;have Z:i<sz.length:=by rw[<-h.1];exact hi
  have h3:=V.s _ (Lm Z);rw[Zx Z]at h3;omega
 have hs:∀c∈cds,c.src∈qx.map Sum.inl++ks.map Sum.inr:=λc J=>by rw[<-hg];exact LK J
 have h4:∀c∈cds,CdA ↑w3 c:=λc J=>by
  have I:=hs c J;have Z:=(hL.bx c J).1;cases c with
  | ex b q =>
   have H:q∈qx:=by simpa[Cd.src]using I
   exact⟨Z,(T.each q H).J hb⟩
  | co b q =>
   have H:q∈ks:=by simpa[Cd.src]using I
   exact⟨Z,(hK.each q H).J hb⟩
 have h5:∀c∈cds,c.rg t.length:=λc J=>by
  have I:=hs c J;rw[h.1];cases c with
  | ex b q =>
   have H:q∈qx:=by simpa[Cd.src]using I
   exact V.x q.x (LK H)
  | co b q =>
   have H:q∈ks:=by simpa[Cd.src]using I
   exact V.k q.k (LK H)
 have g1:=Qft (Us t) (qx.map (·.x)) 0;have g2:=Qft (qz t) (ks.map (·.k)) 0;simp only[o6]at g1 g2;refine Qa<|Qx<|(QcM (QC (L:=[]) hL.own oa oe) h4 (ht.J hb) h5 h0).S ?_;rintro r4 w4 ⟨rfl,hv⟩;rw[(QoB t hg)];have ha:=hb.I hv;refine Zd (UM (qx.map (·.x)) (ks.map (·.k)) t) λP O=>?_;rw[O];unfold UM at O;refine Zd (fix (Us t) 0 (qx.map (·.x))) λS hh=>?_;refine Zd (fix (qz t) 0 (ks.map (·.k))) λi2 hj=>?_;rw[hh,hj]at O;rw[hh]at g1;rw[hj]at g2;refine Zd (if 0<=S then S else if 0<=i2 then i2+(qx.length:Int)else -1) λr E=>?_
 rw[hh,hj,E];refine Qb<|Qn<|Qj<|Ye U U<|Qb<|QY U (λh6=>?_) (λh6=>?_)
 .have n1:¬0<=S:=λh=>by rw[O1 h]at E;omega
  have n2:¬0<=i2:=λh=>by rw[O0 n1,O1 h]at E;omega
  refine Qc<|x Qh<|x Qh<|x Qh<|Qb<|Qi ⟨[_,_,_,_],oD,ha,Qqh (by rw[<-O,O0 n1,O0 n2])⟩
 have hw:=(ho.J hp).J hv;refine Qj<|Qm U hw U U<|QE (T.J ha).arr U<|Ye U U<|Qb<|QY U (λh7=>?_) (λh7=>?_)
 .have p1:0<=S:=by
   refine Lq.1 λn1=>?_;by_cases h:0<=i2
   .rw[O0 n1,O1 h]at E;omega
   rw[O0 n1,O0 h]at E;omega
  have e:r=S:=by rw[O1 p1]at E;exact E.symm
  refine Qj<|x Qh<|x Qh<|x Qh<|Qb<|Qi ⟨[_,_,_,_],oD,ha,Qqh (by rw[<-O,O1 p1,e])⟩
 have n1:¬0<=S:=λh=>by rw[O1 h]at E;omega
 have p2:0<=i2:=by
  refine Lq.1 λn2=>?_;rw[O0 n1,O0 n2]at E;omega
 have e:r - (qx.length:Int)=i2:=by rw[O0 n1,O1 p2]at E;omega
 refine Qd<|ZH [] (Xf 0 9 [])<|p QA<|p (QF U)<|pq (λ_ hc=>Qk (hw.J hc) U U)<|p (λ_=>Xr (T.J ha).arr U) <|
  p (λ_=>X1 U U ⟨oa,oa⟩)<|p ZL<|p ZL<|p ZL<|p ZL <|
  pe ?_
 exact Qi ⟨[_,_,_,_],oD,ha.I (xj.X _ _),Qqh (by rw[<-O,O0 n1,O1 p2,<-e])⟩
def Yl (base:Nat)(av:LN)(H:xI)(v:O9)(n sz:Nat)(cs:LV):Prop:=∀L:LN,(∀b∈L,b<base\/b∈av)->Zk L H v n sz cs
theorem Yl.J {base:Nat}{av:LN}{w w':O8}{v:O9}{n sz:Nat}{cs:LV}(h:Yl base av ↑w v n sz cs)(E:sW w w'):Yl base av ↑w' v n sz cs:=λL H=>(h L H).J E
theorem Yl.app {base:Nat}{J:LN}{v:O9}(h:Yl base av ↑w v n sz cs)(O:xj av w w')(S:∀b∈J,b∈av\/↑w<=b):Yl base J ↑w' v n sz cs:=by
 intro L T;have V:Zk (av++L.filter λb=>decide (b<base)) ↑w v n sz cs:=h _ (λb E=>by
  rcases Lh.1 E with E|E
  .exact .inr E
  exact .inl (by simpa using(LY.1 E).2))
 refine V.grow O (λb E=>Lh.2 (.inl E)) λb E=>?_;rcases T b E with H|H
 .exact .inl (Lh.2 (.inr (LY.2 ⟨E,oA H⟩)))
 rcases S b H with I|I
 .exact .inl (Lh.2 (.inl I))
 exact .inr I
theorem Yl.of_own {base:Nat}{v:O9}{e:Nat}(h:w.ownsRow N e sz v n cs)(I:n<=1099511627776)(E:base<=N)(J:∀b∈av,b<N):Yl base av ↑w v n sz cs:=λL O =>
 QC h I λb E hbL=>by
  have S:=(Qg h b E).1;rcases O b hbL with H|H
  .omega
  have:=J b H;omega
structure YH {α:Type}(g:α->LV)(sz T:Nat)(p:α->O9×Nat×Nat×LV)(base:Nat)(w:O8)(v:O9)(l:List α):Prop where
 own:w.ownsRow base T sz v l.length (l.flatMap g)
 each:∀q∈l,Yl base (ob v) ↑w (p q).1 (p q).2.1 (p q).2.2.1 (p q).2.2.2
theorem YH.nil {g:α->LV}{p:α->O9×Nat×Nat×LV}{base:Nat}:YH g sz T p base w (nS) []:=⟨QI _ _ _ _,λq E=>by cases E⟩
theorem YH.J {α:Type}{g:α->LV}{sz T:Nat}{p:α->O9×Nat×Nat×LV}{base:Nat}{w w':O8}{v:O9}{l:List α}(h:YH g sz T p base w v l)(E:sW w w'):YH g sz T p base w' v l:=⟨Ql h.own E,λq H=>(h.each q H).J E⟩
theorem YH.app {α:Type}{g:α->LV}{sz T:Nat}{p:α->O9×Nat×Nat×LV}{base N e:Nat}{w E H:O8}{v I:O9}{l:List α}{q:α}(h:YH g sz T p base w v l)(V:sW w E)
  (Y:E.ownsRow N e (p q).2.2.1 (p q).1 (p q).2.1 (p q).2.2.2) (Z:(p q).2.1<=1099511627776) (hN:↑w<=N) (J:base<=↑w)
  (ho:H.ownsRow base T sz I (l.length+1) (l.flatMap g++g q)) (O:xj (ob v) E H) (S:∀b∈ob I,b∈ob v\/↑E<=b):YH g sz T p base H I (l++[q]):=by
 refine⟨?_,λd hd=>?_⟩
 .rw[Ln,LC];simpa using ho
 rcases Lh.1 hd with hd|hd
 .exact((h.each d hd).J V).app O S
 simp only[oJ]at hd;subst hd;exact(Yl.of_own Y Z oa (λb J=>ov ((Q3 h.own) b J))).app O S
theorem Qex {ha hb hc:O9}{b:QU}(h:ZE L ↑w va vm ve a)(h':ZE L' ↑w ha hb hc b):
  QZ sV 16 [.agg #[va,sS a.st,vm,ve],.agg #[ha,sS b.st,hb,hc]] w λr w'=>r=.bool (decide (a.st=b.st/\a.al=b.al/\a.mr=b.mr/\a.ed=b.ed))/\sW w w':=by
 refine Zt func16 ?_;refine Qc<|Zg [va,sS a.st,vm,ve] λb2 w1 hi hn hj=>Zg [ha,sS b.st,hb,hc] λb3 w2 he E I=>Qb ?_;have J:=hi.I he;have O:=hj.J he;refine QX (α:=Bool) [(4,30)] (λz=>[(4,.bool z)]) (λz w'=>sW w w'/\z=decide (a.st=b.st/\a.al=b.al/\a.mr=b.mr/\a.ed=b.ed)) om ?_ ?_
 .refine Qq<|Qm U O U U<|Qm U I U U<|xb (QW U U) (λh9=>?_) (λh9=>?_)
  .refine Qa<|Qm U O U U<|Qm U I U U<|Qx<|(JR (h.al.J J) (h'.al.J J)).S ?_;rintro r3 w3 ⟨S,T⟩;have V:=J.I T;refine Qlq (decide (a.al=b.al)) (λE=>?_) (λE=>?_)
   .rw[E]at S;subst S;refine QB U<|Qa<|Qm U (O.J T) U U<|Qm U (I.J T) U U<|Qx<|(JR (h.mr.J V) (h'.mr.J V)).S ?_;rintro r4 w4 ⟨Y,hg⟩;have Z:=V.I hg;have hh:=T.I hg;refine Qlq (decide (a.mr=b.mr)) (λH=>?_) (λH=>?_)
    .rw[H]at Y;subst Y;refine QB U<|Qa<|Qm U (O.J hh) U U<|Qm U (I.J hh) U U<|Qx<|(QaX (h.ed.J Z) (h'.ed.J Z)).S ?_;rintro r5 w5 ⟨rfl,hl⟩;refine QB U<|Qb<|⟨_,Lb,Z.I hl,bD ⟨λe=>⟨h9,O5 E,O5 H,e⟩,λe=>e.2.2.2⟩⟩
    rw[H]at Y;subst Y;refine QB U<|Qa<|Zm<|Z6<|QB U<|Qb<|⟨_,Lb,Z,bF (λe=>O7 H e.2.2.1)⟩
   rw[E]at S;subst S;refine QB U<|Qa<|Zm<|Z6<|QB U<|Qa<|Zm<|Z6<|x (qJ U) <|
    Qb<|⟨_,Lb,V,bF (λe=>O7 E e.2.1)⟩
  refine Qa<|Zm<|Z6<|QB U<|Qa<|Zm<|Z6<|x (qJ U) <|
   Qa<|Zm<|Z6<|QB U<|Qb<|⟨_,Lb,J,bF (λe=>h9 e.1)⟩
 rintro z g w6 ⟨hm,rfl⟩;exact Qi ⟨[_],Lb,U,hm⟩
theorem QmE (h:ZE L ↑w va vm ve a):
  QZ sV 132 [.agg #[va,sS a.st,vm,ve]] w λr w'=>r=.bool (VL a)/\sW w w':=by
 refine Zt func132 ?_;refine Qc<|Zg [va,sS a.st,vm,ve] λb1 T hb hh H=>Qb<|QX (α:=Bool) [(2,11)] (λz=>[(2,.bool z)]) (λz w'=>sW w w'/\z=VL a) om ?_ ?_
 .refine ZH [] (Xf 0 10 [1,6,7]) ?_;have V:=hb.I (xj.X [] T);refine pq (λ_ E=>ZN (H.O E oe) rfl rfl)<|pk<|xg<|(XS (h.J V)).S ?_;rintro r2 w2 ⟨rfl,Y⟩;have I:=V.I Y;have J:=(xj.X [] T).I Y;refine⟨J,?_⟩;refine pb (λ_=>QW U U) (λO=>?_) (λO=>?_)
  .have E:Jt a=0:=O;refine p QA<|pq (λ_ E=>ZN (H.O E oe) rfl rfl)<|pq (λ_ E=>ZN (H.O E oe) rfl rfl) <|
    pk<|xg<|(JJ (h.J I) ((Z0 a).1 E)).S ?_
   rintro r3 w3 ⟨S,hi,hj,hl,rfl,he⟩;have Z:=I.I S;refine⟨J.I S,?_⟩;refine pk<|xg<|(Qex (h.J Z) (he [] oe)).S ?_;rintro r4 w4 ⟨rfl,ha⟩;refine⟨(J.I S).I ha,?_⟩;refine p (Z9 U)<|p ZL<|pe ?_;refine⟨_,Lb,Z.I ha,?_⟩;unfold VL;rw[O4 E,OU];exact bD ⟨λe=>⟨e.1.symm,e.2.1.symm,e.2.2.1.symm,e.2.2.2.symm⟩,λe=>⟨e.1.symm,e.2.1.symm,e.2.2.1.symm,e.2.2.2.symm⟩⟩
  have E:¬Jt a=0:=O;refine p QA<|ps<|ps<|ps<|ps<|p (Z9 U)<|p ZL<|pe ?_;exact⟨_,Lb,I,by unfold VL;rw[O6 E];rfl⟩
 rintro z g w5 ⟨hg,rfl⟩;exact Qi ⟨[_],Lb,U,hg⟩
section
variable {pS:String}
theorem Q7 [Ag P t sz]{x:xd}{o:Nat}(h:QP ↑w b T cs)(hx:ev f x=.pointer (some ⟨b,o,none⟩))(H:us.length=sz)(hu:(cs.drop o).take sz=us):
  sR P f w d (.load t x) ty pS af gd (sT us):=z7 hx H λj v E=>by
 rw[KP,JT,h.cell];rw[<-hu,L3]at E;split at E
 .simpa using E
 cases E
end
theorem Qfn {v:O9}{qs:List IV}(h:XX L ↑w v qs):
  QZ sV 178 [v] w λr w'=>sW w w'/\w'.ownsRow ↑w 66 4 r (qs.map (·.p)).length ((qs.map (·.p)).flatMap Zq):=by
 have hp:=h.arr.le;refine Zt func178 ?_;refine Qc<|Qb<|Qc<|Qb<|Qd<|Qj<|QE h.arr U<|Qa<|xe<|Q2 (α:=Nat×O9) [(3,3),(5,5),(8,17)] (λz=>[(3,z.2),(8,sS z.1)]) (λz w'=>z.1<=qs.length/\sW w w'/\w'.ownsRow ↑w 66 4 z.2 z.1 (((qs.take z.1).map (·.p)).flatMap Zq)) (λz=>qs.length - z.1) (0,nS) oB
  ⟨Lp _,xj.Y _ _,QI _ _ _ _⟩ ?_
 rintro⟨k,vo⟩ g w1 ⟨hk,I,O⟩;refine Zi rfl U (λS=>?_) (λS=>?_)
 .refine Qt ?_;have hc:k=qs.length:=by have J:¬(k:Int)<(qs.length:Int):=S;omega
  subst hc;rw[Lt (Lu _)]at O;refine Qj<|Qb<|Qi ⟨[_],Lb,I,by rw[Lj];exact O⟩
 have E:k<qs.length:=by have J:(k:Int)<(qs.length:Int):=S;omega
 have Y:=Lm E;have Z:qs.take (k+1)=qs.take k++[qs[k]'E]:=Lo E;refine Qe<|Qd<|Qn<|Qc<|xp Yj (h.arr.J I) U U E λhr J=>?_;refine Zd (qs[k]'E) λq hq=>?_;rw[hq]at J Y Z;have H:=h.each q Y;refine x (Qu J U U)<|QL [.string .empty,nS,sS 0,nS,nS] λb5 w2 he hg T=>QJ (QK q) T ⟨U,H.al.one,U,H.mr.one,H.ed.one,La⟩ λw3 hh T =>
  xe ?_
 have hi:sW w1 w3:=he.Q hh hg;refine Qq<|Qa<|QN U<|x (Q7 (us:=Zq q.p) T U U U)<|Qo<|Zb [Zq q.p] λhs w4 hj ht hl=>?_;have V:=hi.I hj;have ha:=Ql O V;have hv:=(I.I V).size;have hm:∀u∈Zq q.p,u.oneCell'=true:=by
  intro u hu;simp only[oM,oL,or_false]at hu;rcases hu with rfl|rfl|rfl|rfl
  .exact H.al.one
  .rfl
  .exact H.mr.one
  exact H.ed.one
 refine Qo<|Q9 (news:=Zq q.p) (L:=[]) ha U U U (hl.at oe) hm oa oa λv5 w5 hn ho hw=>Qb<|Qq<|QH rfl rfl<|Qa<|xe<|⟨(k+1,v5),og,oB,E,(I.I V).G ho (λb hb=>.inr ((Qg ha) b hb).1),?_⟩;simp only[];rw[Z,Ls,LC];simpa using hn
theorem QkY {r:O9}{base e:Nat}{ps:List AV}(h:w.ownsRow base e 4 r ps.length (ps.flatMap Zq))(E:ps.length<=1099511627776)(H:∀b∈L,b<base)(I:∀p∈ps,ZE L ↑w p.va p.vm p.ve p.a):JL L ↑w r ps :=
 ⟨QC h E (λb J hbL=>oy (Qg h b J).1 (H b hbL)),I⟩
theorem QkX {n m:Int}(E:QP ↑w b 3 [sS m]):
  QZ sV 134 ([sS n]++[sP b]) w λr w'=>r=.bool (decide (m<=n))/\sW w w':=by
 refine Zt func134 ?_;refine Qc<|Qb<|Qj<|Xe E U U<|x (YI U U)<|Qb<|Qi ⟨[_],Lb,U,xj.Y _ _⟩
theorem QgT {q:IV}{nev:Nat}{vg:O9}{amg:LI}{bm:Nat}{seen:List ByteArray}(hA:ZE L ↑w q.p.va q.p.vm q.p.ve q.p.a)(h4:JE q.nm)(hg:QG L' ↑w vg amg)(hD:amg.length<=4096)(hm:Yh J2 ↑w bm (nmM seen))(hbL:bm∈L)(h5:bm∈L'):
  QZ sV 74 [sT (QK q),sS nev,vg,.map (some bm)] w λr w'=>r=sS (Z1 nev amg seen q.it)/\xj [bm] w w'/\(Z1 nev amg seen q.it=0->Yh J2 ↑w' bm (nmM (seen++[q.nm]))):=by
 have E:Z1 nev amg seen q.it=(if YE q.nm=false then 7 else if q.nm∈seen then 8 else if Jt q.p.a≠0 then Jt q.p.a else if VL q.p.a=false then 6 else if q.p.a.st=0 then 12 else
  if(q.p.a.al.any λe=>decide ((nev:Int)<=e))=true then 2 else if(mns q.p.a.al amg).length≠0 then 9 else 0):=rfl
 refine Zd (Z1 nev amg seen q.it) λR hR=>?_;rw[hR]at E ⊢;refine Zt func74 ?_;refine Qc<|Zg (QK q) λb4 w1 hw hE h6=>Zg [sS nev] λb5 w2 V hF h7=>Qb ?_;have Y:=hw.I V;have Z:=h6.J V;refine Qd<|Qn<|Qc<|Qm U Z U U<|Qx<|(Uc q.nm h4 w2).S ?_;rintro r3 w3 ⟨rfl,rfl⟩;refine x (Zr U)<|Qb<|Q6 U (λhj=>?_) (λhj=>?_)
 .have H:YE q.nm=false:=by simpa using hj
  rw[O1 H]at E;subst E;refine Qc<|Qb<|Qi ⟨[_],Lb,U,Y.any,λe=>O3 e oh⟩
 have H:¬YE q.nm=false:=by simpa using hj
 rw[O0 H]at E;have hy:=hm.J Y;refine Qj<|Qm U Z U U<|x (Qdh hy U U)<|Qb<|QY U (λha=>?_) (λha=>?_)
 .rw[O1 ha]at E;subst E;refine Qc<|Qb<|Qi ⟨[_],Lb,U,Y.any,λe=>O3 e oh⟩
 rw[O0 ha]at E;refine Qe ?_;have hG:=hm.lt;refine Qj<|Qm U Z U U<|Qo<|XN (k:=q.nm) hy U U λw4 hl hz=>xe ?_;rw[show ev _ _=Value.bool true from rfl,QgB ha]at hz;have I:xj [bm] w w4:=Y.any.V hl;have hH:=hw.size;have hc:=Z.O hl (by simp;omega);have hh:ZE L ↑w4 q.p.va q.p.vm q.p.ve q.p.a:=hA.st (I.S (λb J=>by simp at J;subst J;exact hbL));have h8:QG L' ↑w4 vg amg:=hg.st (I.S (λb J=>by simp at J;subst J;exact h5));refine Qd<|Qc<|QN U<|x (Q7 (us:=Zq q.p) hc U U U)<|Qx<|(XS hh).S ?_;rintro r5 w5 ⟨rfl,hi⟩;refine Qb<|Qj<|Zu U U<|xe<|QY rfl (λO=>?_) (λO=>?_)
 .rw[O1 O]at E;subst E;refine Qj<|Qb<|Qi ⟨[_],Lb,U,I.I hi,λe=>O3 e O⟩
 rw[O0 O]at E;refine Qe<|Qd<|Qn<|Qc<|QN U<|x (Q7 (us:=Zq q.p) (hc.J hi) U U U)<|Qx<|(QmE (hh.J hi)).S ?_;rintro r6 w6 ⟨rfl,h9⟩;have S:=hi.I h9;have h0:=I.I S;have h1:=hc.J S;refine x (Zr U)<|Qb<|Q6 U (λho=>?_) (λho=>?_)
 .have H:VL q.p.a=false:=by simpa using ho
  rw[O1 H]at E;subst E;refine Qc<|Qb<|Qi ⟨[_],Lb,U,h0,λe=>O3 e oh⟩
 have H:¬VL q.p.a=false:=by simpa using ho
 rw[O0 H]at E;refine Qc<|QN U<|Qm U h1 U U<|x (QW U U)<|Qb<|QY U (λhp=>?_) (λhp=>?_)
 .have hq:q.p.a.st=0:=hp;rw[O1 hq]at E;subst E;refine Qc<|Qb<|Qi ⟨[_],Lb,U,h0,λe=>O3 e oh⟩
 have hq:¬q.p.a.st=0:=hp;rw[O0 hq]at E;refine Qc<|QN U<|Qm U h1 U U<|x ZC<|Qx<|(Ql6 (q:=λe=>decide ((nev:Int)<=e)) (cap:=[sP b5]) (QG.fl (hh.al.J S)) (λe he w2 V=>QkX (((h7.O hl (by simp;omega)).J S).J V))).S ?_;rintro r7 w7 ⟨rfl,hB⟩;have T:=S.I hB;refine Qb<|Q6 U (λhs=>?_) (λhs=>?_)
 .rw[O1 hs]at E;subst E;refine Qc<|Qb<|Qi ⟨[_],Lb,U,(I.I T),λe=>O3 e oh⟩
 rw[O0 (by rw[hs];decide)]at E;have hI:=((Z0 q.p.a).1 (Lq.1 O)).al_le;refine Qc<|QN U<|Qm U (hc.J T) U U<|Qa<|Qx<|(QiW (hh.al.J T) (h8.J T) oa).S ?_;rintro r8 w8 ⟨hC,rfl⟩;have h2:=T.I hC;have h3:=I.I h2;refine x (yM U)<|Qb<|QY U (λht=>?_) (λht=>?_)
 .have hv:(mns q.p.a.al amg).length≠0:=λe=>ht (LA e);rw[O1 hv]at E;subst E;refine Qc<|Qb<|Qi ⟨[_],Lb,U,h3,λe=>O3 e oh⟩
 have hv:¬(mns q.p.a.al amg).length≠0:=λe=>ht (λh=>e (by rw[show mns q.p.a.al amg=[] from h];rfl));rw[O0 hv]at E;subst E;refine Qe<|Qc<|Qb<|Qi ⟨[_],Lb,U,h3,λ_=>hz.J h2⟩
theorem Qa3 {v:O9}{l:xF}(h:P2s L ↑w v l):
  QZ sV 82 [v] w λr w'=>sW w w'/\w'.ownsRow ↑w 107 2 r l.length (l.flatMap QD):=
 J9 ⟨_,U,func82⟩ h (Qgw (c:=QD) (λ_=>oB) l)
theorem Qa2 {v:O9}{l:xF}(h:P2s L ↑w v l):
  QZ sV 83 [v] w λr w'=>sW w w'/\w'.ownsRow ↑w 112 2 r l.length (l.flatMap QD):=
 J9 ⟨_,U,func83⟩ h (Qgw (c:=QD) (λ_=>oB) l)
theorem Yl.low {base:Nat}{X:LN}{v:O9}(h:Yl base av ↑w v n sz cs)(H:xj X w w')(I:∀b∈X,b<base):Yl base av ↑w' v n sz cs:=by
 intro L J;have O:Zk (X++L) ↑w v n sz cs:=h _ (λb E=>by
  rcases Lh.1 E with E|E
  .exact .inl (I b E)
  exact J b E)
 exact(O.O H (λb E=>Lh.2 (.inl E))).up (λb E=>.inl (Lh.2 (.inr E)))
theorem YH.low {α:Type}{g:α->LV}{sz T:Nat}{p:α->O9×Nat×Nat×LV}{base:Nat}{X:LN}{w w':O8}{v:O9}{l:List α}(h:YH g sz T p base w v l)(E:xj X w w')(H:∀b∈X,b<base):YH g sz T p base w' v l :=
 ⟨Qf h.own E (λb I J=>oy (Qg h.own b I).1 (H b J)),λq O=>(h.each q O).low E H⟩
theorem YH.arr {g:α->LV}{p:α->O9×Nat×Nat×LV}{base:Nat}{v:O9}{l:List α}(h:YH g sz T p base w v l)(E:l.length<=1099511627776)(H:∀b∈L,b<base):Zk L ↑w v l.length sz (l.flatMap g):=
 QC h.own E (λb I hbL=>oy (Qg h.own b I).1 (H b hbL))
abbrev xvP (q:XV):O9×Nat×Nat×LV:=(q.v,q.ls.length,2,q.ls.flatMap QD)
abbrev kvP (q:KV):O9×Nat×Nat×LV:=(q.v,q.ts.length,2,q.ts.flatMap QD)
abbrev XvN (base:Nat)(w:O8)(v:O9)(l:List XV):Prop:=YH Q0 2 105 xvP base w v l
abbrev KvN (base:Nat)(w:O8)(v:O9)(l:List KV):Prop:=YH Q5 3 110 kvP base w v l
theorem XvN.xcs {base:Nat}{v:O9}{l:List XV}{qs:List XV}(h:XvN base w v l)(O:l.map (·.x)=qs.map (·.x))(E:∀q∈qs,JE q.nm)(S:l.length<=1099511627776)(H:∀b∈L,b<base):jT L ↑w v l:=by
 refine⟨h.arr S H,λq E=>h.each q E L (λb T=>.inl (H b T)),λq V=>?_⟩;have Y:q.x∈qs.map (·.x):=by rw[<-O];exact LK V
 obtain⟨I,Z,e⟩:=Ly.1 Y;have J:=E I Z;have h3:I.nm=q.nm:=O2 Uf.nm e;rw[h3]at J;exact J
theorem KvN.kcs {base:Nat}{v:O9}{l:List KV}{qs:List KV}(h:KvN base w v l)(O:l.map (·.k)=qs.map (·.k))(E:∀q∈qs,JE q.nm)(S:l.length<=1099511627776)(H:∀b∈L,b<base):jK L ↑w v l:=by
 refine⟨h.arr S H,λq E=>h.each q E L (λb T=>.inl (H b T)),λq V=>?_⟩;have Y:q.k∈qs.map (·.k):=by rw[<-O];exact LK V
 obtain⟨I,Z,e⟩:=Ly.1 Y;have J:=E I Z;have h3:I.nm=q.nm:=O2 xT.nm e;rw[h3]at J;exact J
theorem Qr {base e:Nat}{v:O9}(h:w.ownsRow base e sz v n cs):v.oneCell'=true:=by
 rcases h.2 with⟨E,_⟩|⟨g,cap,cur,E,_⟩ <;> subst E <;> rfl
theorem xS {base e:Nat}{v:O9}(h:w.ownsRow base e sz v n cs):v.cells=#[v]:=by
 rcases h.2 with⟨E,_⟩|⟨g,cap,cur,E,_⟩ <;> subst E <;> rfl
theorem Qbn {q:XV}(h:q.v.oneCell'=true):∀u∈Q0 q,u.oneCell'=true:=by
 intro u hu;simp only[oM,oL,or_false]at hu;rcases hu with rfl|rfl
 .rfl
 exact h
theorem QgN {q:KV}(h:q.v.oneCell'=true):∀u∈Q5 q,u.oneCell'=true:=by
 intro u hu;simp only[oM,oL,or_false]at hu;rcases hu with rfl|rfl|rfl
 .rfl
 .exact h
 rfl
def Qun (N:Nat)(w:O8)(r:O9)(sz:LI)(ex:List Uf)(cs:List xT):Prop:=∃vs vx vk qx ks,r=.agg #[vs,vx,vk]/\qx.map (·.x)=ex/\ks.map (·.k)=cs/\∀L:LN,(∀b∈L,b<N)->QG L ↑w vs sz/\jT L ↑w vx qx/\jK L ↑w vk ks
theorem Qbd {c:CL}(h:ZG L ↑w c):
  QZ sV 77 [c.val] w λr w'=>sW w w'/\Qun ↑w w' r (szs c.Z.co) c.Z.ex c.Z.cs:=by
 have pa:=h.co.arr.le;have pc:=h.ex.arr.le;have pd:=h.cs.arr.le;refine Zt func77 ?_;refine Qc<|Zg c.cells λb1 w1 gb pf gc=>QL [nS,nS,nS] λb2 w2 gg pg gh=>xe ?_;have ph:=gb.size;have pj:=gc.lt;have pm:=gh.lt;refine Qc<|x (Qv La)<|QL [nS,nS,nS] λH w3 g9 ka h9=>QJ [nS,nS,nS] h9 oC λw4 kb h9 =>
  xe ?_
 have pn:=h9.lt;have Y:sW w2 w4:=g9.Q kb ka;have gi:sW w w4:=(gb.I gg).I Y;have gj:=(gc.J gg).J Y;have kc:=gh.J Y;have h4:=h.J gi;have po:b1<H:=oa
 have pp:b2<H:=oa
 have ke:↑w<=H:=oa
 have hK:∀{wa wb:O8},xj [H] wa wb->sW w wa->sW w wb:=λha E=>E.Q ha ke;refine Qd<|Qc<|Qm U gj U U<|QE h4.co.arr U<|Qa<|xe<|Q2 (α:=Nat×O9) [(5,5),(14,26)] (λz=>[(14,sS z.1)]) (λz w'=>z.1<=c.co.length/\xj [H] w4 w'/\QP ↑w' H 196 [z.2,nS,nS]/\Qp 3 ↑w4 w' z.2 ((c.co.take z.1).map (·.p.a.st))) (λz=>c.co.length - z.1) (0,nS) Lb
  ⟨Lp _,xj.Y _ _,h9,QI _ _ _ _⟩ ?_
 rintro⟨k,vs⟩ g w5 ⟨hk,hw,hA,S⟩;simp only[]at hk hA S;have gk:=hK hw gi;have h5:=h.J gk;have gl:=gj.O hw (by simp;omega);have kf:=kc.O hw (by simp;omega);have pu:=hw.size;refine Zi rfl U (λhM=>?_) (λhM=>?_)
 .refine Qt ?_;have kg:c.co.length<=k:=by have V:¬(k:Int)<(c.co.length:Int):=hM;omega
  rw[Lt kg]at S;refine Qd<|Qc<|Qm U gl U U<|QE h5.ex.arr U<|Qa<|xe<|Q2 (α:=Nat×O9×List XV) [(7,7),(30,45)] (λz=>[(30,sS z.1)]) (λz w'=>z.1<=c.ex.length/\xj [H] w5 w'/\QP ↑w' H 196 [vs,z.2.1,nS]/\XvN ↑w5 w' z.2.1 z.2.2/\z.2.2.map (·.x)=(c.ex.take z.1).map (·.x)) (λz=>c.ex.length - z.1) (0,nS,[]) Lb
   ⟨Lp _,xj.Y _ _,hA,YH.nil,U⟩ ?_
  rintro⟨j,vx,qx⟩ g w6 ⟨hj,Z,hN,hg,hh⟩;simp only[]at hj hN hg hh;have gm:=hK Z gk;have h6:=h.J gm;have kh:=gl.O Z (by simp;omega);have ki:=kf.O Z (by simp;omega);have pw:=Z.size;have pz:qx.length=j:=by have:=O2 oR hh;simp at this;omega
  refine Zi U U (λhO=>?_) (λhO=>?_)
  .refine Qt ?_;have kj:c.ex.length<=j:=by have V:¬(j:Int)<(c.ex.length:Int):=hO;omega
   rw[Lt kj]at hh;refine Qd<|Qc<|Qm U kh U U<|QE h6.cs.arr U<|Qa<|xe<|Q2 (α:=Nat×O9×List KV) [(9,9),(49,66)] (λz=>[(49,sS z.1)]) (λz w'=>z.1<=c.cs.length/\xj [H] w6 w'/\QP ↑w' H 196 [vs,vx,z.2.1]/\KvN ↑w6 w' z.2.1 z.2.2/\z.2.2.map (·.k)=(c.cs.take z.1).map (·.k)) (λz=>c.cs.length - z.1) (0,nS,[]) Lb
    ⟨Lp _,xj.Y _ _,hN,YH.nil,U⟩ ?_
   rintro⟨i,vk,ks⟩ g w7 ⟨hi,hl,hP,hn,ho⟩;simp only[]at hi hP hn ho;have gn:=hK hl gm;have h7:=h.J gn;have kk:=ki.O hl (by simp;omega);have p0:=hl.size;have p1:ks.length=i:=by have:=O2 oR ho;simp at this;omega
   refine Zi U U (λhQ=>?_) (λhQ=>?_)
   .refine Qt ?_;have kn:c.cs.length<=i:=by have V:¬(i:Int)<(c.cs.length:Int):=hQ;omega
    rw[Lt kn]at ho;have ko:Zj [vs,vx,vk]:=⟨Qr S,Qr hg.own,Qr hn.own,La⟩;refine Qc<|QV hP U U<|QJ [vs,vx,vk] kk ko λw8 hB kq=>xe ?_;refine Qi ⟨[.agg #[vs,vx,vk]],⟨YO kq,La⟩,gn.Q hB oa,?_⟩;have kr:=Qf ((Qf S Z (λb E I=>by have:=(Qg S b E).1;simp at I;omega))) hl (λb E I=>by have:=(Qg S b E).1;simp at I;omega);have kt:=Qf kr hB (λb E I=>by have:=(Qg S b E).1;simp at I;omega);have ku:=(YH.low hg hl (by simp;omega)).low hB (by simp;omega);have kv:=YH.low hn hB (by simp;omega);refine⟨vs,vx,vk,qx,ks,U,hh,ho,λL hL=>⟨?_,XvN.xcs ku hh h.ex.nm oa (λb E=>ov (hL b E)),KvN.kcs kv ho h.cs.nm oa (λb E=>ov (hL b E))⟩⟩;have he:szs c.Z.co=c.co.map (·.p.a.st):=by show((c.co.map IV.it).map _)=_;rw[L4];rfl
    rw[he];exact Qp.ints kt (by rw[Lj];omega) (λb E=>ov (hL b E))
   have hp:i<c.cs.length:=by have V:(i:Int)<(c.cs.length:Int):=hQ;omega
   have go:=Lm hp;have gp:c.cs.take (i+1)=c.cs.take i++[c.cs[i]'hp]:=Lo hp;refine Qe<|Qd<|Qn<|Qc<|xp Xs h7.cs.arr U U hp λp2 gq=>?_;refine Zd (c.cs[i]'hp) λq hq=>?_;rw[hq]at gq go gp;have O:=h7.cs.each q go;refine x (Qu gq U U)<|QL [.string .empty,nS,sS 0] λb9 w9 kw kx hy=>QJ (Q5 q) hy ⟨U,O.one,U,La⟩ λhr kz hy =>
    xe ?_
   have hC:sW w7 hr:=kw.Q kz kx;have gr:=hP.J hC;have hR:=Qg hn.own;have T:H∉ob vk:=λI=>ov (hR H I).1
   have hS:b9∉ob vk:=λI=>ov (hR b9 I).2
   refine ZH (ob vk) [oE 0,oE 1,oE 2,oE 3,oE 4,oE 5,oE 7,oE 8,oF 6,oE 9,oF 10,oF 11,oE 12,oF 13] ?_;have k0:=hC.I (xj.X [] hr);refine p (QF U)<|pq (λ_ J=>Qk (gr.O J T) U U)<|p (QF U)<|pq (λ_ J=>Qk (hy.O J hS) U U) <|
    p (QF rfl)<|pq (λ_ J=>Qk (hy.O J hS) U U)<|p (QF U)<|pq (λ_ J=>Qk (hy.O J hS) U U) <|
    pk<|xg<|(Qa2 (O.J k0)).S ?_
   rintro hz p3 ⟨k4,hT⟩;have h0:=(xj.X [] hr).I k4;refine⟨h0.any,?_⟩;refine p (λ_=>Qv ⟨U,xS hT,U,La⟩)<|pk<|Zb [Q5 ⟨q.nm,hz,q.ts,q.bd⟩] λp4 p5 h1 p6 k5=>⟨(h0.I h1).any,?_⟩;have hD:=(hC.I h0).I h1;have hU:↑hr=({ hr with drawn:=hr.drawn+1 }:O8).heap.size:=rfl
   have p7:=hC.size;have p8:=hD.size;refine pk<|Q9 (news:=Q5 ⟨q.nm,hz,q.ts,q.bd⟩) (L:=[]) (Ql hn.own hD) U U U (k5.at oe) (QgN (q:=⟨q.nm,hz,q.ts,q.bd⟩) (Qr hT)) oa oa λhV gs gt hE k6=>⟨((h0.I h1).any (L:=ob vk)).V hE,?_⟩;have k7:KvN ↑w6 gs hV (ks++[⟨q.nm,hz,q.ts,q.bd⟩]):=YH.app hn hD (Ql hT h1) O.le (by rw[<-hU];omega) oa gt hE k6;have k8:=(gr.O ((h0.I h1).any (L:=ob vk)) T).O hE T;refine p (QF U)<|pkk<|Qw (j:=2) (u:=hV) k8 U U oe (Qr gt) λp9 gu k9=>pe ?_;have ma:xj [H] w6 gs:=(hl.I hD).G hE (λb E=>.inr (hR b E).1);refine Qq<|QH U U<|Qa<|xe<|⟨(i+1,hV,ks++[⟨q.nm,hz,q.ts,q.bd⟩]),og,Lb,hp,?_,k9,YH.low k7 gu (by simp;omega),?_⟩
   .exact ma.V gu
   simp only[];rw[Ls,ho,gp,Ls];rfl
  have hs:j<c.ex.length:=by have V:(j:Int)<(c.ex.length:Int):=hO;omega
  have gv:=Lm hs;have gw:c.ex.take (j+1)=c.ex.take j++[c.ex[j]'hs]:=Lo hs;refine Qe<|Qd<|Qn<|Qc<|xp XG h6.ex.arr U U hs λqc gx=>?_;refine Zd (c.ex[j]'hs) λq hq=>?_;rw[hq]at gx gv gw;have O:=h6.ex.each q gv;refine x (Qu gx U U)<|QL [.string .empty,nS] λb7 qf mf mg hF=>QJ (Q0 q) hF ⟨U,O.one,La⟩ λht mh hF =>
   xe ?_
  have hG:sW w6 ht:=mf.Q mh mg;have gy:=hN.J hG;have hW:=Qg hg.own;have T:H∉ob vx:=λI=>ov (hW H I).1
  have gz:b7∉ob vx:=λI=>ov (hW b7 I).2
  refine ZH (ob vx) (Xf 0 12 [6,8,9,11]) ?_;have mj:=hG.I (xj.X [] ht);refine p (QF U)<|pq (λ_ J=>Qk (gy.O J T) U U)<|p (QF U)<|pq (λ_ J=>Qk (hF.O J gz) U U) <|
   p (QF rfl)<|pq (λ_ J=>Qk (hF.O J gz) U U)<|pk<|xg<|(Qa3 (O.J mj)).S ?_
  rintro h2 ql ⟨mo,hX⟩;have h3:=(xj.X [] ht).I mo;refine⟨h3.any,?_⟩;refine p (λ_=>Qv ⟨U,xS hX,La⟩)<|pk<|Zb [Q0 ⟨q.nm,h2,q.ls⟩] λqo qr h8 q0 mq=>⟨(h3.I h8).any,?_⟩;have hH:=(hG.I h3).I h8;have hU:↑ht=({ ht with drawn:=ht.drawn+1 }:O8).heap.size:=rfl
  have q1:=hG.size;have q2:=hH.size;refine pk<|Q9 (news:=Q0 ⟨q.nm,h2,q.ls⟩) (L:=[]) (Ql hg.own hH) U U U (mq.at oe) (Qbn (q:=⟨q.nm,h2,q.ls⟩) (Qr hX)) oa oa λhY g0 g2 hI ms=>⟨((h3.I h8).any (L:=ob vx)).V hI,?_⟩;have mt:XvN ↑w5 g0 hY (qx++[⟨q.nm,h2,q.ls⟩]):=YH.app hg hH (Ql hX h8) O.le (by rw[<-hU];omega) oa g2 hI ms;have mu:=(gy.O ((h3.I h8).any (L:=ob vx)) T).O hI T;have mv:xj [H] w5 g0:=(Z.I hH).G hI (λb E=>.inr (hW b E).1);refine p (QF U)<|pkk<|Qw (j:=1) (u:=hY) mu U U oe (Qr g2) λq3 g3 mw=>pe ?_;refine Qq<|QH U U<|Qa<|xe<|⟨(j+1,hY,qx++[⟨q.nm,h2,q.ls⟩]),og,Lb,hs,?_,mw,YH.low mt g3 (by simp;omega),?_⟩
  .exact mv.V g3
  simp only[];rw[Ls,hh,gw,Ls];rfl
 have hv:k<c.co.length:=by have V:(k:Int)<(c.co.length:Int):=hM;omega
 have g4:=Lm hv;have g5:c.co.take (k+1)=c.co.take k++[c.co[k]'hv]:=Lo hv;have q4:((c.co.take k).map (·.p.a.st)).length=k:=by simp;omega
 refine Qe<|Qd<|Qn<|Qc<|xp Yj h5.co.arr U U hv λq5 V=>?_;refine Zd (c.co[k]'hv) λq hq=>?_;rw[hq]at V g4 g5;have O:=h5.co.each q g4;refine x (Qu V U U)<|QL [.string .empty,nS,sS 0,nS,nS] λb5 za my mz hZ=>QJ (QK q) hZ ⟨U,O.al.one,U,O.mr.one,O.ed.one,La⟩ λm2 m3 hZ =>
  xe ?_
 have g6:sW w5 m2:=my.Q m3 mz;have m4:=hA.J g6;refine Qq<|Qm U m4 U U<|QN U<|Qm U hZ U U<|Qo<|Zb [[sS q.p.a.st]] λzb zv m5 z1 m6=>?_;have hJ:=g6.I m5;have z2:=hJ.size;have g7:=Qg S;have T:H∉ob vs:=λI=>ov (g7 H I).1
 refine Qo<|Q9 (news:=[sS q.p.a.st]) (L:=[]) (Ql S hJ) U U U (m6.at oe) oq oa oa λv24 m7 ga Y z3=>?_;have m8:xj [H] w4 m7:=(hw.I hJ).G Y (λb E=>.inr (g7 b E).1);refine QN rfl<|Qo<|Qw (j:=0) (u:=v24) ((hA.J hJ).O Y T) U U oe (Qr ga) λz5 g8 m9 =>
  xe ?_
 refine Qq<|QH U U<|Qa<|xe<|⟨(k+1,v24),og,Lb,hv,m8.V g8,m9,?_⟩;simp only[];rw[g5,Ls];exact Qp.snoc (n:=q.p.a.st) (Qf ga g8 (λb E I=>by have:=(Qg ga b E).1;simp at I;omega))
theorem QcO (n:Nat):Vs (n+1)=Vs n++[(n:Int)]:=by unfold Vs;rw[Nl,Ls];rfl
theorem Qbq (n:Nat):(Vs n).length=n:=by unfold Vs;simp
theorem Kq {k:Nat}{l:List IV}(h:k<l.length):(l.drop k).map (·.it)=(l[k]'h).it::(l.drop (k+1)).map (·.it):=by rw[Zz h];rfl
theorem jw {s:List ByteArray}{x:Y0}(h:Z1 n u s x=0):Zo x.a:=by
 unfold Z1 at h;split at h
 .cases h
 split at h
 .cases h
 split at h
 .rename_i E H;exact O3 h H
 rename_i E;exact(Z0 _).1 (Lq.1 E)
theorem Kc {s:List ByteArray}{x:Y0}{l:List Y0}:Yr n al s u (x::l)=if Z1 n al s x≠0 then(Z1 n al s x,s,u)else Yr n al (s++[x.nm]) (mrg (· || ·) u x.a.al) l:=rfl
theorem Vg {s:List ByteArray}{x:Y0}{l:List Y0}:Jv n u s (x::l)=if Z1 n u s x≠0 then Z1 n u s x else Jv n u (s++[x.nm]) l:=rfl
theorem Xz {c:CL}(h:ZG L ↑w c):
  QZ sV 32 [c.val] w λr w'=>r=sS (Zf c.Z)/\sW w w':=by
 have kf:=h.co.arr.le;have kg:=h.rq.arr.le;have E:Zf c.Z=(if KG c.ev≠0 then KG c.ev else if c.co.length=0 then 12 else if 8<c.co.length\/12<c.co.length+c.rq.length then 3 else
  if(Yr c.ev.length (Vs c.ev.length) [] [] (c.co.map (·.it))).1≠0 then(Yr c.ev.length (Vs c.ev.length) [] [] (c.co.map (·.it))).1 else
  if Jv c.ev.length (Yr c.ev.length (Vs c.ev.length) [] [] (c.co.map (·.it))).2.2 (Yr c.ev.length (Vs c.ev.length) [] [] (c.co.map (·.it))).2.1 (c.rq.map (·.it))≠0 then Jv c.ev.length (Yr c.ev.length (Vs c.ev.length) [] [] (c.co.map (·.it))).2.2 (Yr c.ev.length (Vs c.ev.length) [] [] (c.co.map (·.it))).2.1 (c.rq.map (·.it))else
  Ys (szs c.Z.co) c.Z.ex c.Z.cs):=by
  unfold Zf;rw[show c.Z.co.length=c.co.length from Lj ..,show c.Z.rq.length=c.rq.length from Lj ..];rfl
 refine Zd (Zf c.Z) λR hR=>?_;rw[hR]at E ⊢;refine Zd (Yr c.ev.length (Vs c.ev.length) [] [] (c.co.map (·.it))) λCO h8=>?_;rw[h8]at E;refine Zt func32 ?_;refine Qc<|Zg c.cells λb1 w1 h9 kh hA=>Qb<|Qd<|Qc<|Qm U hA U U<|Qx<|(jo (h.ev.J h9)).S ?_;rintro r2 w2 ⟨rfl,hB⟩;refine Qb ?_;have Z:=h9.I hB;have hm:=hA.J hB;have h2:=h.J Z;refine Qj<|Zu U U<|xe<|QY rfl (λho=>?_) (λho=>?_)
 .rw[O1 ho]at E;subst E;refine Qj<|Qb<|Qi ⟨[_],Lb,U,Z⟩
 rw[O0 ho]at E;have ki:c.ev.length<=32:=by
  refine Lq.1 λhn=>?_;apply ho;unfold KG;rw[O1 oa];decide
 refine Qe<|Qd<|Qc<|Qm U hm U U<|QE h2.co.arr U<|Qb<|Qn<|Qj<|x (QW U U)<|Qb<|QY U (λhw=>?_) (λhw=>?_)
 .have hy:c.co.length=0:=by have hZ:(c.co.length:Int)=0:=hw;omega
  rw[O1 hy]at E;subst E;refine Qc<|Qb<|Qi ⟨[_],Lb,U,Z⟩
 have hy:¬c.co.length=0:=by have hZ:¬(c.co.length:Int)=0:=hw;omega
 rw[O0 hy]at E;refine QX (α:=Bool) [(27,37)] (λz=>[(27,.bool z)]) (λz w'=>w'=w2/\z=decide (8<c.co.length\/12<c.co.length+c.rq.length)) om ?_ ?_
 .refine Qq<|Qa<|xb (ZX U U) (λga=>?_) (λga=>?_)
  .refine Qa<|Zm<|Zm<|QB U<|Qb<|⟨_,Lb,U,bT (.inl oa)⟩
  refine Qa<|Qa<|Qm U hm U U<|QE h2.rq.arr U<|x (X2 U U ⟨oa,oa⟩) <|
   x (ZX rfl U)<|QB U<|Qb<|⟨_,Lb,U,bD oa⟩
 rintro z g w3 ⟨rfl,rfl⟩;refine QY rfl (λhz=>?_) (λhz=>?_)
 .rw[O1 hz]at E;subst E;refine Qc<|Qb<|Qi ⟨[_],Lb,U,Z⟩
 rw[O0 hz]at E;refine Qe<|Qc<|Qo<|YZ J2 λbm w4 hC kj hD=>Qb ?_;have kk:=hD.lt;have kn:=hm.lt;have hE:=Z.I hC;have hG:=hm.J hC;have hH:b1≠bm:=oa
 have hge:↑w<=bm:=oa
 have hM:ZG [bm] ↑w c:=h.up (λb hb=>.inr (by simp at hb;omega));have hI:=hM.J hE;refine Qc<|x Qh<|Qb<|Qd<|Qc<|Qm U hG U U<|QE hI.ev.arr U<|Qa<|xe<|Q2 (α:=Nat×O9) [(6,6),(8,8),(42,49)] (λz=>[(6,z.2),(42,sS z.1)]) (λz w'=>z.1<=c.ev.length/\sW w4 w'/\Qp 3 ↑w4 w' z.2 (Vs z.1)) (λz=>c.ev.length - z.1) (0,nS) oB
  ⟨Lp _,xj.Y _ _,QI _ _ _ _⟩ ?_
 rintro⟨k,vg⟩ g w5 ⟨hk,ha,hp⟩;simp only[]at hk hp;have ko:=Qbq k;refine Zi rfl U (λh0=>?_) (λh0=>?_)
 .refine Qt ?_;have hc:k=c.ev.length:=by have he:¬(k:Int)<(c.ev.length:Int):=h0;omega
  subst hc;have gb:QG [bm] ↑w5 vg (Vs c.ev.length):=Qp.ints hp oa (by simp;omega);have gc:=hD.J ha;have hJ:=hG.J ha;have hK:=hI.J ha;have gg:=hE.I ha;refine Qd<|Qc<|Qm U hJ U U<|QE hK.co.arr U<|Qa<|xe<|Q2 (α:=Nat×O9×List ByteArray×LI) [(2,2),(7,7),(10,11),(53,72)] (λz=>[(7,z.2.1),(53,sS z.1)]) (λz w'=>z.1<=c.co.length/\xj [bm] w5 w'/\Yh J2 ↑w' bm (nmM z.2.2.1)/\QG [bm] ↑w' z.2.1 z.2.2.2/\z.2.2.2.length<=32*z.1/\Yr c.ev.length (Vs c.ev.length) z.2.2.1 z.2.2.2 ((c.co.drop z.1).map (·.it))=CO) (λz=>c.co.length - z.1) (0,nS,[],[]) oB
   ⟨Lp _,xj.Y _ _,gc,Zk.nil _ _ _,oe,h8⟩ ?_
  rintro⟨k,vu,sn,u⟩ g w6 ⟨hk,hg,hs,h1,gh,I⟩;simp only[]at hk hs h1 gh I;have hL:sW w w6:=gg.Q hg hge;have h3:=hJ.O hg (oA hH);have T:=hK.st hg;refine Zi U U (λh4=>?_) (λh4=>?_)
  .refine Qt ?_;have hc:k=c.co.length:=by have he:¬(k:Int)<(c.co.length:Int):=h4;omega
   subst hc;rw[Lx (Lu _)]at I;have gi:CO=(0,sn,u):=I.symm;subst gi;rw[O0 oe]at E;simp only[]at E;refine Zd (Jv c.ev.length u sn (c.rq.map (·.it))) λRQ hN=>?_;rw[hN]at E;refine Qd<|Qc<|Qm U h3 U U<|QE T.rq.arr U<|Qa<|xe<|Q2 (α:=Nat×List ByteArray) [(2,2),(13,14),(76,90)] (λz=>[(76,sS z.1)]) (λz w'=>z.1<=c.rq.length/\xj [bm] w6 w'/\Yh J2 ↑w' bm (nmM z.2)/\Jv c.ev.length u z.2 ((c.rq.drop z.1).map (·.it))=RQ) (λz=>c.rq.length - z.1) (0,sn) Lb
    ⟨Lp _,xj.Y _ _,hs,hN⟩ ?_
   rintro⟨k,sm⟩ g w7 ⟨hk,hh,hO,J⟩;simp only[]at hk hO J;have hP:sW w w7:=hL.Q hh hge;have hQ:=h3.O hh (oA hH);have hi:=T.st hh;have gj:=h1.st hh;refine Zi U U (λh5=>?_) (λh5=>?_)
   .refine Qt ?_;have hc:c.rq.length<=k:=by have he:¬(k:Int)<(c.rq.length:Int):=h5;omega
    rw[Lx hc]at J;have gk:RQ=0:=J.symm;rw[O0 (by rw[gk];decide)]at E;refine Qc<|QV hQ U U<|Qx<|(Qbd hi).S ?_;rintro r8 w8 ⟨gl,vs,vx,vk,qx,ks,rfl,gm,gn,hF⟩;obtain⟨go,gp,gq⟩:=hF [] oe;refine Qx<|(jn go gp gq).S ?_;rintro r9 w9 ⟨rfl,gr⟩;rw[gm,gn,<-E];refine Qb<|Qi ⟨[_],Lb,U,(hP.I gl).I gr⟩
   have H:k<c.rq.length:=by have he:(k:Int)<(c.rq.length:Int):=h5;omega
   have S:=Lm H;rw[Kq H,Vg]at J;refine Qe<|Qd<|Qn<|Qc<|xp Yj hi.rq.arr U U H λkq hS=>?_;refine Zd (c.rq[k]'H) λq hq=>?_;rw[hq]at hS S J;have O:=hi.rq.each q S;refine x (Qu hS U U)<|QL [.string .empty,nS,sS 0,nS,nS] λb13 kr gs gt h6=>QJ (QK q) h6 ⟨U,O.al.one,U,O.mr.one,O.ed.one,La⟩ λgu gv h6 =>
    xe ?_
   have V:sW w7 gu:=gs.Q gv gt;refine Qc<|QV h6 U U<|Qm U (hQ.J V) U U<|QE (hi.ev.J V).arr U<|Qa<|Qa<|Qx<|(QgT (O.J V) (hi.rq.nm q S) (gj.J V) oa (hO.J V) oe oe).S ?_;rintro kt ku ⟨rfl,hT,gw⟩;refine Qb<|Qj<|Zu U U<|xe<|QY U (λhj=>?_) (λhj=>?_)
   .rw[O1 hj]at J;rw[O1 (by rw[<-J];exact hj)]at E;refine Qj<|Qb<|Qi ⟨[_],Lb,by rw[E,<-J];rfl,(hP.I V).Q hT hge⟩
   rw[O0 hj]at J;refine Qe<|Qq<|QH U U<|Qa<|xe ?_;exact⟨(k+1,sm++[q.nm]),og,Lb,H,(hh.I V).V hT,gw (Lq.1 hj),J⟩
  have H:k<c.co.length:=by have he:(k:Int)<(c.co.length:Int):=h4;omega
  have S:=Lm H;rw[Kq H,Kc]at I;refine Qe<|Qd<|Qn<|Qc<|xp Yj T.co.arr U U H λkv hU=>?_;refine Zd (c.co[k]'H) λq hq=>?_;rw[hq]at hU S I;have O:=T.co.each q S;have gx:=gb.st hg;refine x (Qu hU U U)<|QL [.string .empty,nS,sS 0,nS,nS] λkw kx gy gz ht=>QJ (QK q) ht ⟨U,O.al.one,U,O.mr.one,O.ed.one,La⟩ λg0 g2 ht =>
   xe ?_
  have Y:sW w6 g0:=gy.Q g2 gz;have kz:=hs.lt;refine Qd<|Qc<|QV ht U U<|Qm U (h3.J Y) U U<|QE (T.ev.J Y).arr U<|Qa<|Qa<|Qx<|(QgT (O.J Y) (T.co.nm q S) (gx.J Y) oa (hs.J Y) oe oe).S ?_;rintro k0 g3 ⟨rfl,h7,g4⟩;refine Qb<|Qj<|Zu U U<|xe<|QY U (λhl=>?_) (λhl=>?_)
  .rw[O1 hl]at I;rw[O1 (by rw[<-I];exact hl)]at E;refine Qj<|Qb<|Qi ⟨[_],Lb,by rw[E,<-I];rfl,(hL.I Y).Q h7 hge⟩
  rw[O0 hl]at I;have hV:Z1 c.ev.length (Vs c.ev.length) sn q.it=0:=Lq.1 hl;have g5:=(jw hV).al_le;have k4:q.p.a.al.length<=32:=g5;refine Qe ?_;have hv:xj [bm] w6 g3:=Y.any.V h7;have g6:=h1.st hv;have k5:=hv.size;refine Qq<|Qa<|QN U<|Qm U (ht.O h7 (by simp;omega)) U U<|Qx<|(Qet g6 (T.st hv |>.co.each q S |>.al) oa).S ?_;rintro g7 k6 ⟨hW,g8⟩;refine Qb ?_;have k7:=QbW (· || ·) u q.p.a.al;refine Qq<|QH U U<|Qa<|xe ?_;exact⟨(k+1,g7,sn++[q.nm],mrg (· || ·) u q.p.a.al),og,oB,H,(hg.V hv).I hW,(g4 hV).J hW,Qp.ints g8 (by show(mrg _ _ _).length<=_;omega) (by simp;omega),og,I⟩
 have H:k<c.ev.length:=by have he:(k:Int)<(c.ev.length:Int):=h0;omega
 refine Qe<|Qd<|Qn<|Qj<|Qb<|Qq<|Qa<|Qa<|Qo<|Zb [[sS k]] λk8 k9 hX ma g9=>?_;have hY:=ha.I hX;have mf:=hY.size;have ka:=Qg hp;refine Qo<|Q9 (news:=[sS k]) (L:=[]) (Ql hp hX) U U U (g9.at oe) oq oa oa λkb mg kc ke mh =>
  Qb<|Qq<|QH U U<|Qa<|xe ?_
 refine⟨(k+1,kb),og,oB,H,hY.G ke (λb hb=>.inr (ka b hb).1),?_⟩;simp only[];rw[QcO];exact Qp.snoc (n:=(k:Int)) kc
theorem QtT {pS:String}{C:xH}{pl:xD}
  {e bys:Nat}  {x I J:xd}  {v:O9}   {H:xI} {k:IntKind}  [h:Sl P t e sz bys z]
  (O:Za ops E=⟨d,.slice t x none (some I) (some J),ty,pS,af,gd⟩) (hA:Zk L H v n sz cs) (hx:ev f x=v) (S:ev f I=.int k hi) (T:ev f J=.int k' hi) (V:hi<=n)
  (hK:∀v',Zk L H v' hi sz (cs.take (hi*sz))->XP P ops C K pl (QT f d v') w)
  (Y:Z4 ops f (Za ops E)=true:=by rfl):XP P ops C K ((E,true)::pl) f w:=by
 obtain⟨v',Z,h4⟩:=QjW (P:=P) (d:=d) (ty:=ty) (pS:=pS) (af:=af) (gd:=gd) (t:=t) hA hx S T V;exact Lg.p (λw'=>by rw[O];exact h4 w') (by rw[O];exact hK v' Z) Y
structure QmJ (c:Zy):Prop where
 ev:c.ev.length<=32
 c0:c.co.length≠0
 c8:c.co.length<=8
 cr:c.co.length+c.rq.length<=12
 co:∀x∈c.co,Zo x.a
 rq:∀x∈c.rq,Zo x.a
 ce:∀x∈c.co,∀e∈x.a.al,e<(c.ev.length:Int)
 re:∀x∈c.rq,∀e∈x.a.al,e<(c.ev.length:Int)
 cd:Ys (szs c.co) c.ex c.cs=0
 e0:KG c.ev=0
theorem Qeb {s:List ByteArray}{x:Y0}(h:Z1 n u s x=0):∀e∈x.a.al,e<(n:Int):=by
 unfold Z1 at h;split at h
 .cases h
 split at h
 .cases h
 split at h
 .rename_i E H;exact O3 h H
 split at h
 .cases h
 split at h
 .cases h
 split at h
 .cases h
 rename_i E;intro e I;refine Lq.1 λJ=>E ?_;rw[NK];exact⟨e,I,O4 oa⟩
theorem Qee {n:Nat}{al:LI}:∀{l:List Y0}{s:List ByteArray}{u:LI},(Yr n al s u l).1=0->∀x∈l,Zo x.a/\∀e∈x.a.al,e<(n:Int)
 | [],_,_,_,x,hx=>by cases hx
 | y::l,s,u,h,x,hx=>by
  rw[Kc]at h;by_cases E:Z1 n al s y≠0
  .rw[O1 E]at h;exact O3 h E
  rw[O0 E]at h;have H:Z1 n al s y=0:=Lq.1 E;rcases Lk.1 hx with rfl|hx
  .exact⟨jw H,Qeb H⟩
  exact Qee h x hx
theorem Qd7 {n:Nat}{u:LI}:∀{l:List Y0}{s:List ByteArray},Jv n u s l=0->∀x∈l,Zo x.a/\∀e∈x.a.al,e<(n:Int)
 | [],_,_,x,hx=>by cases hx
 | y::l,s,h,x,hx=>by
  rw[Vg]at h;by_cases E:Z1 n u s y≠0
  .rw[O1 E]at h;exact O3 h E
  rw[O0 E]at h;have H:Z1 n u s y=0:=Lq.1 E;rcases Lk.1 hx with rfl|hx
  .exact⟨jw H,Qeb H⟩
  exact Qd7 h x hx
theorem ZO {c:Zy}(h:Zf c=0):QmJ c:=by
 unfold Zf at h;by_cases E:KG c.ev≠0
 .rw[O1 E]at h;exact O3 h E
 rw[O0 E]at h;by_cases J:c.co.length=0
 .rw[O1 J]at h;cases h
 rw[O0 J]at h;by_cases O:8<c.co.length\/12<c.co.length+c.rq.length
 .rw[O1 O]at h;cases h
 rw[O0 O]at h;by_cases H:(Yr c.ev.length (Vs c.ev.length) [] [] c.co).1≠0
 .rw[O1 H]at h;exact O3 h H
 rw[O0 H]at h;by_cases I:Jv c.ev.length (Yr c.ev.length (Vs c.ev.length) [] [] c.co).2.2 (Yr c.ev.length (Vs c.ev.length) [] [] c.co).2.1 c.rq≠0
 .rw[O1 I]at h;exact O3 h I
 rw[O0 I]at h;have a4:=Qee (Lq.1 H);have S:=Qd7 (Lq.1 I);have T:c.ev.length<=32:=by
  refine Lq.1 λV=>?_;apply E;unfold KG;rw[O1 oa];decide
 exact⟨T,J,oa,oa,λx hx=>(a4 x hx).1,λx hx=>(S x hx).1,λx hx=>(a4 x hx).2,λx hx=>(S x hx).2,h,Lq.1 E⟩
theorem YY.e {H:xI}{c:Int}(h:YY N H aa va vt c):c=Ug aa:=by
 unfold YY at h;unfold Ug;by_cases E:UK aa≠0
 .rw[O1 E]at h ⊢;exact h.1
 rw[O0 E]at h ⊢;cases I:xz aa with
 | none=>rw[I]at h;exact h.1
 | some z=>rw[I]at h;exact h.1
theorem YY.bad {H:xI}{c:Int}(h:YY N H aa va vt c)(J:c≠0):va=zA/\vt=ZD:=by
 unfold YY at h;by_cases E:UK aa≠0
 .rw[O1 E]at h;exact h.2
 rw[O0 E]at h;cases I:xz aa with
 | none=>rw[I]at h;exact h.2
 | some z=>rw[I]at h;exact O3 h.1 J
theorem YY.good {H:xI}{c:Int}(h:YY N H aa va vt c)(I:c=0):Xi N H va (syA aa)/\QfS N H vt (syQ aa)/\xz aa=some (syA aa,syQ aa)/\UK aa=0:=by
 unfold YY at h;unfold syA syQ;by_cases E:UK aa≠0
 .rw[O1 E]at h;exact O3 (h.1.symm.I I) E
 rw[O0 E]at h;cases J:xz aa with
 | none=>rw[J]at h;rw[h.1]at I;cases I
 | some z=>rw[J]at h;exact⟨h.2.1,h.2.2,U,Lq.1 E⟩
theorem YY.st1 {c:Int}(h:YY N ↑w aa va vt c)(H:b<N)(I:xj [b] w w'):YY N ↑w' aa va vt c:=by
 unfold YY at *;split
 .rename_i E;rw[O1 E]at h;exact h
 rename_i E;rw[O0 E]at h;cases J:xz aa with
 | none=>rw[J]at h;exact h
 | some z=>rw[J]at h;exact⟨h.1,XY h.2.1 H I,Qms h.2.2 H I⟩
theorem YY.S {N M:Nat}{H:xI}{aa:List QU}{va vt:O9}{c:Int}(h:YY N H aa va vt c)(hM:M<=N):YY M H aa va vt c:=by
 unfold YY at *;split
 .rename_i E;rw[O1 E]at h;exact h
 rename_i E;rw[O0 E]at h;cases I:xz aa with
 | none=>rw[I]at h;exact h
 | some z=>rw[I]at h;exact⟨h.1,h.2.1.S hM,h.2.2.S hM⟩
theorem Qnl (c:Zy):Yo c=if Zf c≠0 then Zf c else if Ug (auts c.co)≠0 then Ug (auts c.co)else Ug (auts c.co++auts c.rq):=by
 unfold Yo;split
 .rfl
 have e:Ug (auts c.co)=if UK (auts c.co)≠0 then UK (auts c.co)else match xz (auts c.co)with|none=>3|some _=>0:=rfl
 by_cases E:UK (auts c.co)≠0
 .rw[O1 E]at e;rw[O1 E,e,O1 E]
 rw[O0 E]at e;rw[O0 E];cases H:xz (auts c.co)with
 | none=>rw[H]at e;simp only[]at e;rw[e];rfl
 | some z=>rw[H]at e;simp only[]at e;rw[e];rfl
theorem Qhx (c:CL):(c.co.map (·.p)).map (·.a)=auts c.Z.co:=by unfold auts;show _=(c.co.map IV.it).map _;rw[L4,L4];rfl
theorem Qpr (c:CL):(c.rq.map (·.p)).map (·.a)=auts c.Z.rq:=by unfold auts;show _=(c.rq.map IV.it).map _;rw[L4,L4];rfl
theorem QbO {ps:List AV}(h:∀p∈ps,Zo p.a):∀p∈ps,p.a.st<=4096:=λp E=>(h p E).st1
def Qbj (N:Nat)(H:xI)(c:Zy)(va vt:O9)(e:Int):Prop:=if Zf c≠0 then e=Zf c/\va=zA/\vt=ZD else YY N H (auts c.co) va vt e
theorem Qmx {c:CL}(h:ZG L ↑w c)(hi:Kb w 4096):
  QZ sV 177 [c.val] w λr w'=>sW w w'/\∃va vt e,r=.tuple #[va,vt,sS e]/\Qbj ↑w ↑w' c.Z va vt e:=by
 refine Zt func177 ?_;refine Qc<|Zg c.cells λb1 w1 Z hv hj=>QL [nS,sS 0,nS,nS] λb2 w2 ha hw O=>x Qh<|Qb ?_;have hb:=Z.I ha;have hy:=Z.size;have hc:=hj.J ha;refine Qd<|Qc<|QV hc U U<|Qx<|(Xz (h.J hb)).S ?_;rintro r3 w3 ⟨rfl,E⟩;refine Qb ?_;have S:=hb.I E;have hz:=O.lt;refine Qj<|Zu U U<|xe<|QY rfl (λI=>?_) (λI=>?_)
 .refine Qc<|x (Qv La)<|Qa<|QJ [nS,sS 0,nS,nS] (O.J E) oD λw4 hl hm=>x Qh<|Qb<|Qi ⟨[zA,ZD,sS (Zf c.Z)],⟨YO hm,U,U,La⟩,S.Q hl oa,zA,ZD,_,U,by unfold Qbj;rw[O1 I];exact⟨U,U,U⟩⟩
 refine Qe<|Qc<|Qm U (hc.J E) U U<|Qx<|(Qfn (h.J S).co).S ?_;rintro r5 w5 ⟨T,hn⟩;have J:=S.I T;have ho:∀p∈c.co.map (·.p),Zo p.a:=λp V=>by
  obtain⟨q,Y,rfl⟩:=Ly.1 V;exact(ZO (Lq.1 I)).co q.it (LK Y)
 have h0:=h.co.arr.le;have hr:JL [] ↑w5 r5 (c.co.map (·.p)):=QkY hn (by rw[Lj];omega) oe (λp V=>by
  obtain⟨q,Y,rfl⟩:=Ly.1 V;exact(((h.co.each q Y).up (L':=[]) oe).J J))
 refine Qx<|(jF (km:=4096) hr (hi.J J) oh (QbO ho)).S ?_;rintro r6 w6 ⟨hg,va,vt,e,rfl,hR⟩;rw[Qhx]at hR;have hs:∃us,va=sT us/\us.length=4/\Zj us:=by
  by_cases he:e=0
  .exact Xw (hR.good he).1
  exact⟨[nS,sS 0,nS,nS],(hR.bad he).1,U,U,U,U,U,La⟩
 refine Exists.elim hs λus H=>?_;refine QS rfl U<|QS U U<|QS U U<|Qo<|ZA (us:=us) ((O.J E).J (T.I hg)) U H.1 H.2.1 U H.2.2 λw7 hh ht =>
  x Qh<|Qb<|Qi ⟨[sT us,vt,sS e],⟨⟨_,U,ZR H.2.1 (ht.at (L:=[]) oe).cells⟩,rfl,rfl,La⟩,(J.I hg).Q hh oa,va,vt,e,by rw[H.1];rfl,?_⟩
 unfold Qbj;rw[O0 I];exact(hR.st1 (oy T.size E.size) hh).S J.size
theorem Qcw {v:O9}{m:Int}(h:QG L ↑w v l)(S:Kb w m)(hb:∀n∈l,0<=n/\n<m)(hl:l.length<=1000000):
  QZ sV 107 [v] w λr w'=>r=.string ⟨(Kg l).toArray⟩/\sW w w':=by
 refine Zt func107 ?_;refine Qc<|Qb<|Qc<|QL [.pointer none,nS] λI w1 ha T hc=>xe ?_;refine Qd<|Qj<|QE h U<|Qa<|xe<|Q2 (α:=Nat×O9) [(5,5),(8,16)] (λz=>[(8,sS z.1)]) (λz w'=>z.1<=l.length/\sW w w'/\(z.2=.pointer none\/z.2=me I)/\Bl z.2 I (Kg (l.take z.1)) w'/\(Kg (l.take z.1)).length<=8*z.1) (λz=>l.length - z.1) (0,.pointer none) Lb
  ⟨Lp _,ha,.inl U,⟨_,hc,QI _ _ _ _⟩,Lu _⟩ ?_
 rintro⟨k,p⟩ g w2 ⟨hk,E,J,H,he⟩;simp only[]at hk J H he;refine Zi rfl U (λh9=>?_) (λh9=>?_)
 .refine Qt<|Qc ?_;rw[Lt oa]at H;refine Qbo<|(Qam E T J H).S ?_;rintro r3 w3 ⟨rfl,hg⟩;refine Qb<|Qi ⟨[.string ⟨(Kg l).toArray⟩],Lb,U,hg⟩
 have O:k<l.length:=oa
 have hn:=hb l[k] (Lm O);obtain⟨q,hq⟩:∃q:Nat,l[k]=q:=⟨l[k].toNat,oa⟩;have hh:l[k].toNat=q:=oa
 have ho:=zc 7 q (ov S.le);have V:Kg (l.take (k+1))=Kg (l.take k)++(Lib.decDigits q++[32]):=by
  rw[Lo O];unfold Kg;rw[LC,List.flatMap_singleton,hh]
 refine Qe<|Qd<|Qn<|Qc<|xii (h.J E) U U O λhr hi=>x (Qy hi U)<|Qb<|Qq<|Qa<|Qo<|xf ?_;refine(show QZ _ _ [sS l[k]] _ _ by rw[hq];exact(QgR q oa w2 (S.J E))).S ?_;rintro r4 w4 ⟨rfl,Y⟩;have hj:(⟨(Lib.decDigits q).toArray⟩:ByteArray).size+(⟨#[32]⟩:ByteArray).size<=1000000000:=by show(Lib.decDigits q).toArray.size+1<=_;simp;omega
 refine x (YU U U hj)<|Qbo<|(Vy (E.I Y) T J (H.J Y) ((⟨(Lib.decDigits q).toArray⟩:ByteArray)++(⟨#[32]⟩:ByteArray)) (by rw[ByteArray.size_append];show _+((Lib.decDigits q).toArray.size+1)<=_;simp;omega)).S ?_;rintro r5 w5 ⟨hm,Z⟩;refine xe<|Qq<|QH U U<|Qa<|xe<|⟨(k+1,me I),og,Lb,og,hm,.inr U,?_,?_⟩
 .simp only[];rw[V];have e:((⟨(Lib.decDigits q).toArray⟩++⟨#[32]⟩:ByteArray)).data.toList=Lib.decDigits q++[32]:=by rw[ByteArray.data_append];simp
  rw[e]at Z;exact Z
 simp only[];rw[V];simp;omega
end Go.Lg
