/- Merged out of 47 texts. -/
import Derived.Test.YtpfnhheoeaiomaaGreatDoorPca
import Derived.Laws.Strings
import Derived.RangeFuncNested
import Derived.RangeFuncLeaves
import Derived.RangeFuncCalls
import Derived.OrdersIn
import Derived.TacticsIn
set_option maxHeartbeats 40000000
set_option maxRecDepth 100000
set_option linter.all false
open Go Go.Lg
open Go.Value renaming int->oB
open Go.IntKind renaming i64->oC
open _root_.List renaming mem_singleton->oF,replicate->oG,not_mem_nil->oH,range->oJ,mem_cons->oK,length_singleton->oL,length_append->oM,range'->oN,getD->oO,length_cons->oQ,getElem?_toArray->oR,map_cons->oS,flatMap_cons->oT,length->oU,getElem?_eq_getElem->oV,mem_append->oW,cons_append->oZ,getElem?_append_left->Oa,all_cons->Ob,headD_cons->Oc,size_toArray->Od,append_assoc->Of,tail_cons->Og,mem_range'_1->Oh,mem_filter->Oi,all_eq_true->Oj,mem_map->Ol,append_nil->Oo,getElem_cons_zero->Ot,singleton_append->Ov,range'_succ->Oz,filter_cons->OA,pairwise_cons->OB,map_nil->OC,take_length->OI
open _root_.Bool renaming and_eq_true->oI,or_eq_false_iff->oY,not_eq_true'->Oe,false_eq_true->Ok,true_and->OK
open _root_.Array renaming replicate->oP
open _root_.Nat renaming zero_add->oX,add_mul->Ou,pow_succ->OH,one_mul->OL,sub_zero->ON,mul_one->OQ,beq->OR
open _root_.Option renaming map_some->OD
open Go renaming World->O1,Value->O2,Operand->O3,Program->O4
open Go.Proofs Go.Proofs.Tryz
open Go.Proofs.Tryz renaming prog->sV
variable {w w' W':O1}{L L' ds ns:LN}{n t i sz base T j N E m g id B kt ty G lo et gp gf M:Nat}{a:Qz}{l o u un hi ul li out rs:LI}{cs us cap capt:LV}{α β:Type}{y:O3}{va ve vm z vt vl vs v' vk vx vr vo:O2}{f:Fr}{P:O4}{aa:List Qz}{fn:Func}{s:Int}{es ed:List Ed}{K:xx}{d:xE}{pS:String}{af:xC}{gd:xq}{k':IntKind}{at_:Array Nat}{ops:xD}
namespace Go.Lg
class Ay (P:O4)(t:Nat)(m e sz:outParam Nat):Prop where
 u:P.underlying t=some (.array m e)
 i:(P.info? e).map (·.size)=some sz
theorem ZV {x:O3}{e:Nat}[h:Ay P t m e sz]{b o:Nat}{k:IntKind}(hx:ev f x=.pointer (some ⟨b,o,none⟩))(G:ev f y=.int k i)(I:i<m):
  (execOp (ev f) ⟨d,.indexAddr t x y,ty,pS,af,gd⟩).run P w=.ok (.value (.pointer (some ⟨b,o+i*sz,none⟩))) w:=by
 have hi:=h.i;cases E:P.info? e with
 | none=>simp[E]at hi
 | some ii =>
  simp[E]at hi;simp[execOp,hx,G,Instr.indexAt,asIntOf,run_underlying h.u,Instr.sureAddr,sizeOf,typeInfo,E,hi,X0];intro J;omega
theorem Qnm {a b:Nat}(E:a<256):inK .u8 ((a &&& b:Nat):Int):=by
 have:a &&& b<=a:=Nat.and_le_left;exact⟨oa,oa⟩
theorem U4 {x:O3}{a b:Nat}(hx:ev f x=.int .u8 a)(I:ev f y=.int .u8 b)(E:a<256)(hb:b<256):
  (execOp (ev f) ⟨d,.binOp .and t x y G,ty,pS,af,gd⟩).run P w=.ok (.value (.int .u8 ((a &&& b:Nat):Int))) w:=by
 refine J7 hx I ?_;simp only[binOp,Op.intBits,BitVec.ofInt_natCast,ne_eq,not_true_eq_false,if_false,Sem.run_pure];rw[BitVec.toNat_and,BitVec.toNat_ofNat,BitVec.toNat_ofNat,NG (show a<2 ^ IntKind.u8.bits from E),NG (show b<2 ^ IntKind.u8.bits from hb),XQ (Qnm E)]
theorem Qat (m i:Nat):((m:Int) / 2 ^ i)=((m / 2 ^ i:Nat):Int):=by rw[Int.natCast_ediv,Int.natCast_pow];rfl
inductive Pt where
 | pl (l:xt)
 | fk (pre:xt) (i j:Nat) (t1 t2:Pt)
def Pt.len:Pt->Nat
 | .pl l=>l.length
 | .fk pre _ _ t1 _=>pre.length+(1+t1.len)
def Jb (all:Array Oper):xt->Array Bool->Bool
 | [],_=>true
 | (k,q)::pl,ls=>q && (Region.ready .any all ls).contains k && Region.free .any all ls k && Jb all pl (ls.setIfInBounds k true)
def ZS:xt->Array Bool->Array Bool
 | [],ls=>ls
 | (k,_)::pl,ls=>ZS pl (ls.setIfInBounds k true)
def Qik (all:Array Oper):Pt->Array Bool->Bool
 | .pl l,ls=>Xk all l ls
 | .fk pre i j t1 t2,ls=>Jb all pre ls && Region.ready .any all (ZS pre ls) == [i,j] && t1.len == t2.len && Qik all t1 ((ZS pre ls).setIfInBounds i true) && Qik all t2 ((ZS pre ls).setIfInBounds j true)
def XT (P:O4)(all:xD)(C:xz)(K:xx):Pt->Fr->O1->Prop
 | .pl l=>XP P all C K l
 | .fk pre i j t1 t2=>XP P all C (λf w=>(Z8 all f (QT all i)=true/\XO P (QT all i) f w λE w'=>C w'/\XT P all C K t1 E w') /\
   (Z8 all f (QT all j)=true/\XO P (QT all j) f w λE w'=>C w'/\XT P all C K t2 E w')) pre
section
variable {all:xD}{C:xz}{B:xx}
theorem YK:∀(pl:xt) (ls:Array Bool),(ZS pl ls).size=ls.size
 | [],_=>rfl
 | (k,q)::pl,ls=>by rw[ZS,YK];simp
theorem YG {m:Nat}(S:Region.noSelect all.toArray=true):∀(pl:xt) (ls:Array Bool) (f:Fr) (w:O1),C w->Jb all.toArray pl ls=true ->
  (∀f,B f w->XA P all C K m (ZS pl ls) f w)->XP P all C B pl f w->XA P all C K (pl.length+m) ls f w
 | [],ls,f,w,hC,T,G,h=>by
  simp only[XP]at h;rw[List.length_nil,LU];exact G f h
 | (I,q)::pl,ls,f,w,hC,T,G,h=>by
  simp only[Jb,oI]at T;obtain⟨⟨⟨rfl,hr⟩,hf⟩,Y⟩:=T;simp only[XP]at h;have U:I∈Region.ready .any all.toArray ls:=by simpa using hr
  have e:(oU ((I,true)::pl))+m=(pl.length+m)+1:=by simp;omega
  rw[e];cases E:all[I]? with
  | none =>
   exfalso;obtain⟨_,o,he,_⟩:=mem_ready.1 U;simp[E]at he
  | some o =>
   rw[ZJ E]at h;have ha:∀(j:Nat) (o:Oper) cs b,all[j]?=some o->o.op≠.select cs b:=λj o cs b V=>Region.noSelect_spec S j o cs b (ou V);have hc:=λj oj V=>Region.free_spec (ops:=all.toArray) (md:=.any) (i:=I) (oi:=o) (listed:=ls) (ou E) hf j oj (ou V);cases J:Z8 all f o with
   | false =>
    rw[J]at h;exact Ko (v:=undef) (D:=λw=>y9 o=true->C w) E (λ_ h=>h) ha _ ls f w (λ_=>hC) hc U (.inr ⟨J,O⟩) (YG S pl _ _ _ hC Y G h)
   | true =>
    rw[J]at h;simp only[cond_true]at h;obtain⟨v,hv,hx⟩:=h;exact Ko (v:=v) (D:=λw=>y9 o=true->C w) E (λ_ h=>h) ha _ ls f w (λ_=>hC) hc U (.inl ⟨J,hv⟩) (YG S pl _ _ _ hC Y G hx)
theorem VZ (E:Region.noSelect all.toArray=true):∀(t:Pt) (ls:Array Bool) (f:Fr) (w:O1),ls.size=all.length->C w->Qik all.toArray t ls=true->XT P all C K t f w->XA P all C K t.len ls f w
 | .pl l,ls,f,w,I,hC,G,h=>Yq E l ls f w I (.inl hC) G h
 | .fk pre i j t1 t2,ls,f,w,I,hC,G,h=>by
  simp only[Qik,oI,beq_iff_eq]at G;obtain⟨⟨⟨⟨hq,J⟩,hl⟩,h1⟩,h2⟩:=G;rw[Pt.len];refine YG (B:=λf w=>(Z8 all f (QT all i)=true/\XO P (QT all i) f w λS w'=>C w'/\XT P all C K t1 S w') /\
   (Z8 all f (QT all j)=true/\XO P (QT all j) f w λS w'=>C w'/\XT P all C K t2 S w')) E pre ls f w hC hq (λf T=>?_) h
  have U:∀k,((ZS pre ls).setIfInBounds k true).size=all.length:=λk=>by simp[YK,I]
  rw[MV 1];refine JU (λh0=>(by rw[h0]at J;cases J)) ?_;rw[J];intro k V o Y;simp only[oK,oH,or_false]at V;rcases V with rfl|rfl
  ·have:=T.1;rw[ZJ Y]at this;rw[this.1,cond_true];exact this.2.S λv w' hx=>⟨.inr (.inr hx.1),VZ E t1 _ _ _ (U _) hx.1 h1 hx.2⟩
  have:=T.2;rw[ZJ Y]at this;rw[this.1,cond_true,hl];exact this.2.S λv w' hx=>⟨.inr (.inr hx.1),VZ E t2 _ _ _ (U _) hx.1 h2 hx.2⟩
end
theorem YA.lt_of {a:Int}(h:YA (a::l)){x:Int}(hx:x∈l):a<x:=(L6.1 h).1 x hx
theorem YA.tail {a:Int}(h:YA (a::l)):YA l:=(L6.1 h).2
theorem Ql5 (keep:Bool->Bool->Bool):∀(n:Nat) (a b:LI),a.length+b.length<=n->YA a->YA b->∀x,x∈mrg keep a b↔(x∈a\/x∈b)/\keep (decide (x∈a)) (decide (x∈b))=true:=by
 intro n;induction n with
 | zero =>
  intro a b h _ _ x;have U:a=[]:=Lt oa;have hb:b=[]:=Lt oa;subst U hb;simp[Kz]
 | succ n ih =>
  intro a b I ia ib x;cases a with
  | nil =>
   cases b with
   | nil=>simp[Kz]
   | cons y b =>
    rw[Kg keep od];have:=ih [] b (by simp at I ⊢;omega) ia ib.tail x;have G:y∉b:=λh=>oo (ib.lt_of h)
    simp only[Jd,tl,hx,cond_true,cond_false,Og,Oc,oW];rw[this];by_cases e:x=y
    ·subst e;cases E:keep false true <;> simp[E,G]
    cases keep false true <;> simp[e]
  | cons u a =>
   cases b with
   | nil =>
    rw[Kg keep od];have:=ih a [] (by simp at I ⊢;omega) ia.tail ib x;have G:u∉a:=λh=>oo (ia.lt_of h)
    simp only[Jd,tl,hx,cond_true,cond_false,Og,Oc,oW];rw[this];by_cases e:x=u
    ·subst e;cases E:keep true false <;> simp[E,G]
    cases keep true false <;> simp[e]
   | cons y b =>
    rw[Kg keep od];have T:u∉a:=λh=>oo (ia.lt_of h)
    have G:y∉b:=λh=>oo (ib.lt_of h)
    rcases Int.lt_trichotomy u y with J|J|J
    ·have S:u∉y::b:=λh=>by
      rcases Ln.1 h with h|h
      ·omega
      have:=ib.lt_of h;omega
     have:=ih a (y::b) (by simp at I ⊢;omega) ia.tail ib x;have e1:decide (u<=y)=true:=OX oa;have e2:decide (y<=u)=false:=OZ oa;simp only[Jd,tl,hx,e1,e2,cond_true,cond_false,Og,Oc,oW];rw[this];by_cases e:x=u
     ·subst e;cases E:keep true false <;> simp[E,T,S]
     cases keep true false <;> simp[e]
    ·subst J;have:=ih a b (by simp at I ⊢;omega) ia.tail ib.tail x;have e1:decide (u<=u)=true:=OX oa;simp only[Jd,tl,hx,e1,cond_true,Og,Oc,oW];rw[this];by_cases e:x=u
     ·subst e;cases E:keep true true <;> simp[E,T,G]
     cases keep true true <;> simp[e]
    have S:y∉u::a:=λh=>by
     rcases Ln.1 h with h|h
     ·omega
     have:=ia.lt_of h;omega
    have:=ih (u::a) b (by simp at I ⊢;omega) ia ib.tail x;have e1:decide (u<=y)=false:=OZ oa;have e2:decide (y<=u)=true:=OX oa;simp only[Jd,tl,hx,e1,e2,cond_true,cond_false,Og,Oc,oW];rw[this];by_cases e:x=y
    ·subst e;cases E:keep false true <;> simp[E,G,S]
    cases keep false true <;> simp[e]
theorem Up {keep:Bool->Bool->Bool}{a b:LI}(ia:YA a)(ib:YA b)(x:Int):x∈mrg keep a b↔(x∈a\/x∈b)/\keep (decide (x∈a)) (decide (x∈b))=true :=
 Ql5 keep _ a b (Lp _) ia ib x
def setK (m k:Nat):LI:=((oN 0 k).filter λi=>decide (((m / 2 ^ i) &&& 1)=1)).map λi:Nat=>(i:Int)
theorem jw (m k:Nat):setK m (k+1)=if(m / 2 ^ k) &&& 1=1 then setK m k++[(k:Int)]else setK m k:=by
 unfold setK;rw[Mm,LT,Lv,LU];by_cases h:(m / 2 ^ k) &&& 1=1
 ·rw[OU h,L5,OU (OX h)];rfl
 rw[OT h,L5,OT (by rw[OZ h];simp),MJ,Nj,LF]
theorem V9 (m:Nat):∀k,(setK m k).length<=k
 | 0=>by simp[setK]
 | k+1=>by
  have:=V9 m k;rw[jw];split
  ·simp;omega
  omega
theorem QbT (m k:Nat):YA (setK m k):=by
 unfold setK YA;rw[Ma];refine List.Pairwise.sublist ML ?_;exact(M5 (s:=0) (n:=k)).imp (λh=>oa)
instance ayCx1:Ay sV 183 4 5 1:=⟨oc,oc⟩
theorem qQ {e bys:Nat}[h:Sl P t e sz bys z]{v:O2}(E:w.ownsRow base e sz v n cs):
  (Builtin.append_ #[t,t] ty #[v,nS]).run P w=.ok v w:=by
 obtain⟨i,hi,_,I,_⟩:=Sl.info h;rcases E.2 with⟨rfl,rfl⟩|⟨g,cap,cur,rfl,J,S,G,T,U,V⟩
 ·simp[Builtin.append_,run_underlying h.u,sizeOf,typeInfo,hi,Builtin.lenOf,Builtin.firstCells]
 simp[Builtin.append_,run_underlying h.u,sizeOf,typeInfo,hi,Builtin.lenOf,Builtin.firstCells,G,storeCells]
theorem QaL {e bys:Nat}[h:Sl P t e sz bys z]{s:O3}{v:O2}(E:w.ownsRow base e sz v n cs)(G:ev f s=v)
  {I:O2}  {news:LV}  (hA:Zt L ↑w I m sz news) (J:ev f y=I) (S:∀u∈news,u.oneCell'=true)
  (hb:n+m<=1099511627776) (T:base<=↑w)
  (hK:∀v' w',w'.ownsRow base e sz v' (n+m) (cs++news)->O5 (ob v) w w'->(∀b∈ob v',b∈ob v\/↑w<=b)->K (QP f d v') w') (U:bys<=128:=by decide):
  XO P ⟨d,.call ⟨.builtin .append,#[s,y],#[t,t]⟩,ty,pS,af,gd⟩ f w K:=by
 rcases hA.2.2 with⟨e1,e2⟩|⟨a,c,e1,_,e3⟩
 ·subst e2;have V:news=[]:=Lt (by have:=hA.1;simpa using this);subst V;have Y:(execOp (ev f) ⟨d,.call ⟨.builtin .append,#[s,y],#[t,t]⟩,ty,pS,af,gd⟩).run P w=.ok (.value v) w:=by
   simp[execOp,resolve,invoke,builtin,G,J,e1,qQ (ty:=ty) E]
  exact xv Y (hK v w (ou E) (O5.Y _ _) (λb hb=>.inl hb))
 exact Q8 E G (J.D e1) hA.1 e3 S hb T hK U
theorem Qfs {v:O2}(h:Qu L ↑w v l)(x:Int):
  QR sV 274 [v,sS x] w λr w'=>r=.bool (decide (x∈l))/\w'=w:=by
 have U:=h.le;refine Zm func274 ?_;refine Qc<|Lg.Qb<|Qd<|Qc<|Lg.Qb<|QW (α:=Nat) [(4,17)] (λk=>[(5,sS k)]) (λk w'=>w'=w/\k<=l.length/\(x∈l↔x∈l.drop k)) (λk=>l.length - k) 0 La ⟨O,Lo _,od⟩ ?_;rintro k g w' ⟨rfl,V,G⟩;refine Qd<|Qc<|Lg.Qa<|Lg.Qa<|Lg.x (YY h O)<|Lg.ZX O O<|xe<|Zr rfl (λS=>?_) (λS=>?_)
 ·refine Qt<|Qc<|Lg.Qb<|Qh ⟨[.bool false],La,?_,O⟩;rw[Lr oa]at G;simp[tup,G]
 have J:k<l.length:=oa
 have hd:=QY J;refine Qf<|Qd<|Qn<|Qc<|Lg.Qa<|Lg.Qa<|xii h O O J λY T=>Lg.x (Qr T O)<|Lg.Qa<|Lg.x (Zd O O)<|xe<|Zi rfl (λI=>?_) (λI=>?_)
 ·refine Qc<|Lg.Qb<|Qh ⟨[.bool true],La,?_,O⟩;have:x∈l:=by rw[G,hd,I];exact Lm
  simp[tup,this]
 refine Qf<|Qs<|Lg.Qa<|Lg.QD O O<|Lg.Qb<|⟨k+1,oa,La,O,oa,?_⟩;rw[G,hd,Ln];exact⟨λh=>h.resolve_left (λe=>I e.symm),.inr⟩
theorem QbJ (h:UP L ↑w ve a.ed)(s e:Int)(st:Int):
  QR sV 275 [.agg #[va,sS st,vm,ve],sS s,sS e] w λr w'=>r=sS (nxt a.ed s e)/\sW w w':=by
 have hg:=h.le;refine Zm func275 ?_;refine Qc<|Za [va,sS st,vm,ve] λb3 V S hh G=>Lg.Qb ?_
 replace h:=h.I S;refine Qd<|Qc<|Lg.Qb<|QW (α:=Nat) [(6,38)] (λk=>[(7,sS k)]) (λk w'=>w'=V/\k<=a.ed.length/\nxt (a.ed.drop k) s e=nxt a.ed s e) (λk=>a.ed.length - k) 0 La ⟨O,Lo _,O⟩ ?_;rintro k g Y ⟨rfl,hk,I⟩;refine Qd<|Qc<|Lg.Qa<|Lg.Zc O<|Lg.x (Ql G O O)<|Lg.x (YY h O)<|Lg.ZX O O<|xe<|Zr rfl (λha=>?_) (λha=>?_)
 ·refine Qt<|Qc<|Lg.Qb<|Qh ⟨[sS (-1)],La,?_,S⟩;rw[Lr oa]at I;rw[<-I];rfl
 have J:k<a.ed.length:=oa
 have hd:=QY J;refine Qf<|Qd<|Qn<|QX (α:=Bool) [(15,32)] (λz=>[(32,.bool z)]) (λz w'=>w'=Y/\z=decide (a.ed[k].1=s/\a.ed[k].2.1=e)) oh ?_ ?_
 ·refine Qs<|Lg.Zc O<|Lg.x (Ql G O O)<|Lg.Qa<|xie h O O J λhj hc=>Lg.x (ZI O)<|Lg.x (Qr (hc.fld 0 _ O) O) <|
   Lg.Qa<|xb (Zd O O) (λT=>?_) (λT=>?_)
  ·refine Lg.Qa<|Lg.Zc O<|Lg.x (Ql G O O)<|Lg.Qa<|xie h O O J λhm he=>Lg.x (ZI O)<|Lg.x (Qr (he.fld 1 _ O) O) <|
    Lg.Qa<|Lg.x (Zd O O)<|Lg.QB O<|xe ?_
   exact⟨_,La,O,by simp[T]⟩
  refine Lg.Qa<|Zq<|Zq<|Yf<|Lg.QB O<|xe ?_;exact⟨_,La,O,by simp[T]⟩
 rintro z g w3 ⟨rfl,rfl⟩;refine Zi rfl (λU=>?_) (λU=>?_)
 ·refine Qc<|Lg.Zc O<|Lg.x (Ql G O O)<|Lg.Qa<|xie h O O J λho hf=>Lg.x (ZI O)<|Lg.x (Qr (hf.fld 2 _ O) O) <|
   Lg.Qb<|Qh ⟨[sS a.ed[k].2.2],La,?_,S⟩
  rw[<-I,hd,nxt,OU U];rfl
 refine Qf<|Qs<|Lg.Qa<|Lg.QD O O<|Lg.Qb<|⟨k+1,oa,La,O,oa,?_⟩;rw[<-I,hd,nxt,OT U]
def qV (l:LI)(n:Int):Int:=if n∈l then(l.idxOf n:Int) else -1
theorem Qjo {n:Int}{k:Nat}(h:n∉l.take k)(G:k<l.length)(I:O6 l k=n):qV l n=k:=by
 have J:n∈l:=by rw[<-I,<-ZA G];exact Le G
 unfold qV;rw[OU J];have S:l=l.take k++l.drop k:=(MA k l).symm;have:l.idxOf n=k:=by
  rw[S,L7,OT h,LZ G,List.idxOf_cons,show l[k]=n by rw[ZA G];exact I];simp;omega
 rw[this]
theorem QgK {v:O2}(h:Qu L ↑w v l)(n:Int):
  QR sV 276 [v,sS n] w λr w'=>r=sS (qV l n)/\w'=w:=by
 have U:=h.le;refine Zm func276 ?_;refine Qc<|Qb<|Qd<|Qc<|Qb<|QW (α:=Nat) [(4,18)] (λz=>[(5,sS z)]) (λz w'=>w'=w/\z<=l.length/\n∉l.take z) (λz=>l.length - z) 0 La ⟨O,Lo _,od⟩ ?_;rintro k g V ⟨rfl,Y,I⟩;refine Qd<|Qk<|Qa<|QG h O<|ZX O O<|xe<|Zr rfl (λS=>?_) (λS=>?_)
 ·refine Qt<|Qc<|Qb ?_;rw[Lq oa]at I;exact Qh ⟨[sS (-1)],La,by unfold qV;rw[OT I];rfl,O⟩
 have G:k<l.length:=oa
 refine Qf<|Qd<|Qn<|Qk<|Qa<|xic (i:=k) h O O G λha T=>x (Qr T O)<|Qa<|x (Zd O O)<|xe<|Zi rfl (λJ=>?_) (λJ=>?_)
 ·refine Qk<|Qb<|Qh ⟨[sS k],La,by rw[Qjo I G J];rfl,O⟩
 refine Qf<|Qs<|Qa<|QD O O<|Qb<|⟨k+1,oa,La,O,G,?_⟩;rw[Lj G,ZA G];simp only[oW,oF,not_or];exact⟨I,λe=>J e.symm⟩
theorem qk {v:O2}(h:Qu L ↑w v l)(hl:l.length<=1000000):
  QR sV 235 [v] w λr w'=>sW w w'/\∃va,r=.agg #[va,sS 0,nS,nS]/\Qi 3 ↑w w' va l:=by
 refine Zm func235 ?_;refine Qc<|QN [nS,sS 0,nS,nS] λb2 G U he V=>xe ?_;have hf:=U.size;have hg:=V.lt;refine Qc<|Qo<|QdP λb3 w2 I hh hj=>Qa<|?_;have Y:=U.D I;have hq:=I.size;have J:w2.ownsRow ↑G 3 1 (sL b3 0 0) 0 []:=hj.own (n:=0) (sz:=1) O oa hh;refine Qo<|QaL J O (h.I Y) O (Uj l) oa oa λva S hk ha hr=>?_;have T:Qi 3 ↑G S va l:=by
  have:S.ownsRow ↑G 3 1 va (0+l.length) ([]++l.map (.int .i64)):=hk;rw[LU,Mv]at this;exact this
 have hA:=Qi.ints (L:=[]) T oa od;have hm:=(V.I I).J ha (QK J hg);have hn:sW w S:=Y.O ha (λb hb=>.inr (oo (Qj J b hb).1));refine x (QE ⟨hA.cells,Z⟩)<|Q2 [va,sS 0,nS,nS] hm ⟨hA.one,O,O,O,Z⟩ λw4 hc ho=>xe ?_;have hp:=Qg T hc (λb hb=>by have:=(Qj T b hb).1;simp;omega);exact Qh ⟨[.agg #[va,sS 0,nS,nS]],⟨Jl ho,Z⟩,hn.Q hc he,va,O,Zf hp hf⟩
theorem xH:∀(n:Nat) (l:LI),l.Nodup->(∀x∈l,0<=x/\x<n)->l.length<=n
 | 0,l,_,h=>by
  cases l with
  | nil=>simp
  | cons a l=>have:=h a Lm;omega
 | n+1,l,hd,h=>by
  by_cases G:(n:Int)∈l
  ·have J:=xH n (l.erase (n:Int)) (hd.erase _) (λx hx=>by
    have I:=(List.Nodup.mem_erase_iff hd).1 hx;have S:=h x I.2;have T:x≠(n:Int):=I.1;omega)
   rw[List.length_erase_of_mem G]at J;omega
  have:=xH n l hd (λx hx=>by
   have S:=h x hx;have T:x≠(n:Int):=λe=>G (by rw[<-e];exact hx);omega)
  omega
def Vy (a:Qz)(s:Int)(out:LI)(v:Int):LI:=if 0<=nxt a.ed s v/\nxt a.ed s v∉out then out++[nxt a.ed s v]else out
def fdR (a:Qz)(out:LI)(s:Int):LI:=a.al.foldl (Vy a s) out
def zr (a:Qz):Nat->Nat->LI->LI
 | 0,_,out=>out
 | f+1,i,out=>if i<out.length then zr a f (i+1) (fdR a out (O6 out i)) else out
def fd0 (a:Qz):LI:=if 0<a.st then[0]else[]
def xp (a:Qz):LI:=zr a a.st.toNat 0 (fd0 a)
structure q9 (a:Qz)(out:LI):Prop where
 b:∀x∈out,0<=x/\x<a.st
 d:out.Nodup
theorem q9.len (h:q9 a out)(G:0<=a.st):out.length<=a.st.toNat:=xH _ _ h.d (λx hx=>oo (h.b x hx))
theorem QaM {v:Int}(h:0<=nxt es s v):(s,v,nxt es s v)∈es:=by
 induction es with
 | nil=>simp[nxt]at h
 | cons e es ih =>
  rw[nxt]at h ⊢;split at h
  ·rename_i G;rw[OU G];obtain⟨p,q,r⟩:=e;obtain⟨I,J⟩:=G;subst I J;exact Lm
  rename_i G;rw[OT G];exact Lk _ (ih h)
theorem QjQ (J:Q0 a)(h:q9 a out)(s v:Int):q9 a (Vy a s out v):=by
 unfold Vy;split
 ·rename_i G;have S:=J.ed _ (QaM G.1);refine⟨λx hx=>?_,?_⟩
  ·rcases Lh.1 hx with hx|hx
   ·exact h.b x hx
   simp only[oF]at hx;subst hx;exact⟨G.1,S.2.2.2.2⟩
  rw[Mb];refine⟨h.d,od,λx hx y I=>?_⟩;simp only[oF]at I;subst I;exact λe=>G.2 (by rw[<-e];exact hx)
 exact h
theorem QmK {v:Int}:∀x∈out,x∈Vy a s out v:=λx hx=>by unfold Vy;split;exact LM _ hx;exact hx
theorem Qo6 {v:Int}(h:0<=nxt a.ed s v):nxt a.ed s v∈Vy a s out v:=by
 unfold Vy;by_cases G:nxt a.ed s v∈out
 ·rw[OT (λe=>e.2 G)];exact G
 rw[OU ⟨h,G⟩];simp
theorem QjO {a:Qz}(G:Q0 a)(s:Int):∀(vs:LI) (out:LI),q9 a out->q9 a (vs.foldl (Vy a s) out)
 | [],_,h=>h
 | v::vs,_,h=>QjO G s vs _ (QjQ G h s v)
theorem Qba {a:Qz}{s:Int}:∀(vs:LI) (out:LI),∀x∈out,x∈vs.foldl (Vy a s) out
 | [],_,_,hx=>hx
 | _::vs,_,x,hx=>Qba vs _ x (QmK x hx)
theorem QjP {a:Qz}{s:Int}:∀(vs:LI) (out:LI),∀v∈vs,0<=nxt a.ed s v->nxt a.ed s v∈vs.foldl (Vy a s) out
 | v::vs,out,u,G,h=>by
  rcases Ln.1 G with rfl|G
  ·exact Qba vs _ _ (Qo6 h)
  exact QjP vs _ u G h
theorem Qfw {a:Qz}{s:Int}:∀(vs:LI) (out:LI),∃r,vs.foldl (Vy a s) out=out++r
 | [],out=>⟨[],od⟩
 | v::vs,out=>by
  obtain⟨r,G⟩:=Qfw (a:=a) (s:=s) vs (Vy a s out v);rw[LO,G];unfold Vy;split
  ·exact⟨[nxt a.ed s v]++r,od⟩
  exact⟨r,O⟩
theorem yG {r:LI}(h:i<l.length):O6 (l++r) i=O6 l i:=by
 rw[<-ZA h,<-ZA (by simp;omega),Mt h]
def Cl (a:Qz)(out:LI)(i:Nat):Prop:=∀j,j<i->j<out.length->∀v∈a.al,0<=nxt a.ed (O6 out j) v->nxt a.ed (O6 out j) v∈out
theorem Cl.next (h:Cl a out i)(hi:i<out.length):Cl a (fdR a out (O6 out i)) (i+1):=by
 intro j U V v I G;obtain⟨r,T⟩:=Qfw (a:=a) (s:=O6 out i) a.al out;have J:fdR a out (O6 out i)=out++r:=T;have S:j<out.length:=oa
 rw[J,yG S]at G ⊢;by_cases e:j=i
 ·subst e;have:=QjP a.al out v I G;rw[<-J];exact this
 exact LM _ (h j oa S v I G)
theorem QjN {a:Qz}(I:Q0 a):∀(f i:Nat) (out:LI),q9 a out->Cl a out i->i+f=a.st.toNat->q9 a (zr a f i out)/\Cl a (zr a f i out) (zr a f i out).length
 | 0,i,out,h,G,T=>by
  have:=h.len I.st0;exact⟨h,λj S J=>G j (by rw[zr]at S;omega) J⟩
 | f+1,i,out,h,G,T=>by
  rw[zr];split
  ·rename_i hi;exact QjN I f (i+1) _ (QjO I _ _ _ h) (G.next hi) oa
  rename_i hi;exact⟨h,λj S J=>G j oa J⟩
theorem QjR (a:Qz):q9 a (fd0 a):=by
 unfold fd0;split
 ·rename_i h;exact⟨λx hx=>by simp only[oF]at hx;subst hx;exact⟨oa,h⟩,od⟩
 exact⟨od,od⟩
theorem yl (J:Q0 a):q9 a (xp a)/\∀s∈xp a,∀v∈a.al,0<=nxt a.ed s v->nxt a.ed s v∈xp a:=by
 obtain⟨S,T⟩:=QjN J a.st.toNat 0 (fd0 a) (QjR a) (λj G=>oa) oa;refine⟨S,λs U v V I=>?_⟩;obtain⟨j,G,rfl⟩:=LP U;have:=T j G G v V;unfold xp at G I ⊢;rw[ZA G]at I ⊢;exact this I
def Km (a:Qz)(fd:LI)(i:Nat)(v:Int):Option Ed:=if 0<=nxt a.ed (O6 fd i) v then some ((i:Int),v,qV fd (nxt a.ed (O6 fd i) v)) else none
def YW (a:Qz)(fd:LI)(n:Nat):LI:=((oN 0 n).filter λi=>decide (O6 fd i∈a.mr)).map λi:Nat=>(i:Int)
def Xe (a:Qz)(fd:LI)(n:Nat):List Ed:=(oN 0 n).flatMap λi=>a.al.filterMap (Km a fd i)
def Y6 (a:Qz):Qz:=⟨a.al,(xp a).length,YW a (xp a) (xp a).length,Xe a (xp a) (xp a).length⟩
theorem Jc {β:Type}{r:Int->Int->Prop}{q:β->β->Prop}{g:Int->Option β}(G:∀x y u v,r x y->g x=some u->g y=some v->q u v):∀{l:LI},l.Pairwise r->(l.filterMap g).Pairwise q
 | [],_=>od
 | x::l,h=>by
  obtain⟨J,I⟩:=L6.1 h;rw[Mk];split
  ·exact Jc G I
  rename_i u S;refine L6.2 ⟨λv T=>?_,Jc G I⟩;obtain⟨y,U,V⟩:=MR.1 T;exact G x y u v (J y U) S V
theorem Qbl (I:Q0 a):Q0 (Y6 a)/\(Y6 a).al=a.al/\(Y6 a).st<=a.st:=by
 obtain⟨Y,h2⟩:=yl I;have hl:=Y.len I.st0;have h0:=I.st0;have h4:=I.st1;refine⟨⟨I.al,I.ali,by simp[Y6],by simp only[Y6];omega,λs U=>?_,?_,λe S=>?_,?_⟩,O,by simp only[Y6];omega⟩
 ·simp only[Y6,YW,Ol,Oi,Oh]at U;obtain⟨i,⟨hi,_⟩,rfl⟩:=U;simp only[Y6];omega
 ·simp only[Y6,YW];unfold YA;rw[Ma];refine List.Pairwise.sublist ML ?_;exact(M5 (s:=0) (n:=(xp a).length)).imp (λh=>oa)
 ·simp only[Y6,Xe,List.mem_flatMap,List.mem_filterMap,Oh]at S;obtain⟨i,⟨_,hi⟩,v,J,G⟩:=S;unfold Km at G;split at G
  ·rename_i hn;cases G
   have hi':i<(xp a).length:=oa
   have V:=h2 (O6 (xp a) i) (by rw[<-ZA hi'];exact Le hi') v J hn;have hx:=Me V;simp only[Y6];unfold qV;rw[OU V];exact⟨oa,oa,J,oa,oa⟩
  cases G
 simp only[Y6,Xe];have key:∀(is:LN),is.Pairwise (·<·)->(is.flatMap λi=>a.al.filterMap (Km a (xp a) i)).Pairwise λx y:Ed=>x.1<y.1\/(x.1=y.1/\x.2.1<y.2.1):=by
  intro is;induction is with
  | nil=>intro _;simp
  | cons i is ih =>
   intro hp;obtain⟨p1,p2⟩:=L6.1 hp;rw[LK,Mg];have from_i:∀(i:Nat) (e:Ed),e∈a.al.filterMap (Km a (xp a) i)->e.1=i:=by
    intro i e S;obtain⟨v,_,G⟩:=MR.1 S;unfold Km at G;split at G
    ·cases G;rfl
    cases G
   refine⟨?_,ih p2,λe S e' ha=>?_⟩
   ·refine Jc (r:=(·<·)) (λx y u v hc T J=>?_) I.ali;unfold Km at T J;split at T
    ·cases T;split at J
     ·cases J;exact .inr ⟨O,hc⟩
     cases J
    cases T
   obtain⟨j,hj,hg⟩:=Md.1 ha;have e1:=from_i i e S;have e2:=from_i j e' hg;have:=p1 j hj;left;omega
 exact key _ (M5 (s:=0) (n:=(xp a).length))
theorem QgN (h:Zp L ↑w va vm ve a)(ho:Q0 a):
  QR sV 273 [.agg #[va,sS a.st,vm,ve]] w λr w'=>sW w w'/\Qi 3 ↑w w' r (xp a):=by
 have h0:=ho.st0;have h1:=ho.st1;have hW:=ho.al_le;refine Zm func273 ?_;refine Qc<|Za [va,sS a.st,vm,ve] λb1 U hj hX hw=>Qb<|Qc<|Qb ?_;have hB:=hj.size;refine QX (α:=O2) [(3,3),(7,12)] (λz=>[(3,z)]) (λz w'=>sW U w'/\Qi 3 ↑U w' z (fd0 a)) oh ?_ ?_
 ·refine Qc<|Qq O hw O O<|x (Ya O O)<|xe<|Zr O (λh9=>?_) (λh9=>?_)
  ·refine Qf ?_;exact⟨nS,La,O5.Y _ _,by unfold fd0;rw[OT h9];exact QM _ _ _ _⟩
  refine Qs<|Qa<|Qo<|Q9 [[sS 0]] λb11 w2 hy hY hC=>?_;have hn:w2.ownsRow ↑U 3 1 (nS) 0 []:=QM _ _ _ _;have hZ:=hy.size;refine Qo<|Q8 (news:=[sS 0]) (L:=[]) hn O O O (hC.at od) om oa oa λv3 w3 hD hE ga =>
   Qb<|⟨v3,La,hy.O hE (λb hb=>by simp[ob]at hb),?_⟩
  unfold fd0;rw[OU h9];exact hD
 rintro v0 g4 w4 ⟨hF,hG⟩;refine Zg (xp a) λT hT=>?_;have hH:zr a a.st.toNat 0 (fd0 a)=T:=hT;refine Qd<|Qc<|Qb<|QW (α:=Nat×LI×O2) [(3,6),(13,48)] (λz=>[(3,z.2.2),(4,sS z.1)])
  (λz w'=>sW U w'/\Qi 3 ↑U w' z.2.2 z.2.1/\q9 a z.2.1/\z.1<=z.2.1.length/\zr a (a.st.toNat - z.1) z.1 z.2.1=T) (λz=>a.st.toNat - z.1) (0,fd0 a,v0) ov
  ⟨hF,hG,QjR a,Lo _,hH⟩ ?_
 rintro⟨i,out,v⟩ g5 w5 ⟨hm,Y,G,hi,ha⟩;simp only[]at Y G hi ha;have hz:=G.len h0;have h2:=Qi.ints (L:=[]) Y oa od;refine Qd<|Qk<|Qa<|QG h2 O<|ZX O O<|xe<|Zr rfl (λh3=>?_) (λh3=>?_)
 ·have e:out=T:=by
   rw[<-ha];generalize a.st.toNat - i=f;cases f with
   | zero=>rfl
   | succ f=>rw[zr,OT oa]
  refine Qt<|Qk<|Qb ?_;rw[e]at Y;exact Qh ⟨[v],La,hj.D hm,by rw[hT];exact Zf Y hB⟩
 have J:i<out.length:=oa
 have hI:a.st.toNat - i=(a.st.toNat - (i+1))+1:=oa
 rw[hI,zr,OU J]at ha;refine Zg (O6 out i) λs S=>?_;rw[S]at ha;refine Zg (fdR a out s) λR hR=>?_;rw[hR]at ha;unfold fdR at hR;refine Qf<|Qd<|Qn<|Qc<|Qb<|QW (α:=Nat×LI×O2) [(3,3),(5,6),(19,48)] (λz=>[(3,z.2.2),(5,sS z.1)])
  (λz w'=>sW U w'/\Qi 3 ↑U w' z.2.2 z.2.1/\q9 a z.2.1/\z.1<=a.al.length/\i<z.2.1.length/\O6 z.2.1 i=s/\(a.al.drop z.1).foldl (Vy a s) z.2.1=R) (λz=>a.al.length - z.1) (0,out,v) ov
  ⟨hm,Y,G,Lo _,J,S,hR⟩ ?_
 clear hm Y G hi hz h2 J S hR h3;rintro⟨k,out,v⟩ g6 w6 ⟨he,hf,G,hk,J,S,I⟩;simp only[]at hf G hk J S I;have hz:=G.len h0;have h4:=(h.al.I hj).I he;have hp:=hw.I he;have h5:=Qi.ints (L:=[]) hf oa od;refine Qd<|Qk<|Qq O hp O O<|QG h4 O<|ZX O O<|xe<|Zr rfl (λhJ=>?_) (λhJ=>?_)
 ·refine Qt<|Qs<|Qa<|QD O O<|Qb ?_;rw[Lr oa]at I;have hK:out=R:=I;exact⟨(i+1,out,v),oe,ov,he,hf,G,J,by simp only[];rw[hK];exact ha⟩
 have hg:k<a.al.length:=oa
 rw[LZ hg,LO,ZA hg]at I;refine Zg (O6 a.al k) λu hu=>?_;rw[hu]at I;have hL:=(h.ed.I hj).I he;refine Zg (nxt a.ed s u) λt ht=>?_;have hM:Vy a s out u=if 0<=t/\t∉out then out++[t]else out:=by unfold Vy;rw[ht]
 have hq:=QjQ ho G s u;rw[hM]at I hq;refine Qf<|Qd<|Qn<|Qd<|ZL [] (Xg 0 12 [10])<|pq (λ_ V=>Q7 (hp.I V) O O)<|p Qx<|p Qx<|pic (i:=i) O h5 O O J λgb h6=>?_;rw[S]at h6;refine pq (λ_ V=>Qr (h6.I V) O)<|p (QH O)<|pq (λ_ V=>Ql (hp.I V) O O)<|p Qx <|
  pic (i:=k) O h4 O O hg λgc h7=>?_
 rw[hu]at h7;have hsr:=QbJ (va:=va) (vm:=vm) (a:=a) (hL.I (O5.X [] w6)) s u a.st;rw[ht]at hsr;refine pq (λ_ V=>Qr (h7.I V) O)<|pk<|xg<|hsr.S ?_;rintro r7 w7 ⟨rfl,hN⟩;have hh:=(O5.X [] w6).D hN;refine⟨hh,p ZN<|pe ?_⟩;have h8:=Qm hf hh;have hO:=h5.I hh;refine QX (α:=Unit) [(37,44)] (λz=>[(44,.bool (decide (0<=t/\t∉out)))]) (λz w'=>w'=w7) oh ?_ ?_
 ·refine Qs<|Qa<|xb (Yl O O) (λhr=>?_) (λhr=>?_)
  ·refine Qa<|Qa<|Qa<|Qv<|(Qfs hO t).S ?_;rintro r8 w8 ⟨rfl,rfl⟩;refine x (Zl O)<|QB O<|xe<|⟨(),⟨OV Value.bool ?_,Z⟩,O⟩;show(!decide (t∈out))=_;rw[Bool.eq_iff_iff];simp[hr]
  refine Qa<|Zq<|Kt<|QB O<|xe ?_;exact⟨(),⟨OV Value.bool (OZ (λe=>hr e.1)).symm,Z⟩,O⟩
 rintro _ g9 w9 rfl;refine Zr rfl (λhs=>?_) (λhs=>?_)
 ·rw[OT hs]at I;refine Qf<|Qs<|Qa<|QD O O<|Qb<|⟨(k+1,out,v),oe,ov,he.D hh,h8,G,hg,J,S,I⟩
 rw[OU hs]at I hq;have hA:=he.D hh;have ge:=hA.size;refine Qs<|Qa<|Qa<|Qo<|Q9 [[sS t]] λgg gh hv gi hP=>?_;have hQ:=Qm h8 hv;have gj:=hv.size;refine Qo<|Q8 (news:=[sS t]) (L:=[]) hQ O O O (hP.at od) om oa oa λhS gk hU hV gl =>
  Qb ?_
 have hge:=Qj hf;refine Qs<|Qa<|QD O O<|Qb<|⟨(k+1,out++[t],hS),oe,ov,(hA.D hv).O hV (λb hb=>.inr (hge b hb).1),Qi.snoc hU,hq,hg,by simp;omega,?_,I⟩;simp only[];rw[yG J];exact S
structure CrI (w7:O1)(b4:Nat)(vcl:O2)(n:Int)(vm vd:O2)(M:LI)(E:List Ed)(w:O1):Prop where
 st:O5 [b4] w7 w
 B:QL ↑w b4 53 [vcl,sS n,vm,vd]
 m:Qi 3 ↑w7 w vm M
 e:Yd 179 ↑w7 w vd E
 dj:Dj vm vd
section
variable {w7 w'':O1}{b4:Nat}{vcl:O2}{n:Int}{vd:O2}{M:LI}{E:List Ed}
theorem CrI.I (h:CrI w7 b4 vcl n vm vd M E w)(G:sW w w'):CrI w7 b4 vcl n vm vd M E w':=⟨h.st.D G,h.B.I G,Qm h.m G,Qm h.e G,h.dj⟩
theorem CrI.setM (h:CrI w7 b4 vcl n vm vd M E w)(hb:b4<w7.heap.size){G:O2}{M':LI}(S:O5 (ob vm) w w')(T:Qi 3 ↑w7 w' G M')(U:∀b∈ob G,b∈ob vm\/↑w<=b)(I:O5 [b4] w' w'')
  (V:QL ↑w'' b4 53 [vcl,sS n,G,vd]):CrI w7 b4 vcl n G vd M' E w'' :=
 ⟨(h.st.O S (λb hb=>.inr (Qj h.m b hb).1)).V I,V,Qg T I (λb J=>by have:=(Qj T b J).1;simp;omega),
  Qg (Qg h.e S h.dj.symm) I (λb J=>by have:=(Qj h.e b J).1;simp;omega),(h.dj.symm.grow U (QU h.e)).symm⟩
theorem CrI.setE (h:CrI w7 b4 vcl n vm vd M E w)(hb:b4<w7.heap.size){G:O2}{E':List Ed}(S:O5 (ob vd) w w')(T:Yd 179 ↑w7 w' G E')(U:∀b∈ob G,b∈ob vd\/↑w<=b)(I:O5 [b4] w' w'')
  (V:QL ↑w'' b4 53 [vcl,sS n,vm,G]):CrI w7 b4 vcl n vm G M E' w'' :=
 ⟨(h.st.O S (λb hb=>.inr (Qj h.e b hb).1)).V I,V,Qg (Qg h.m S h.dj) I (λb J=>by have:=(Qj h.m b J).1;simp;omega),
  Qg T I (λb J=>by have:=(Qj T b J).1;simp;omega),h.dj.grow U (QU h.m)⟩
end
theorem j9 (a:Qz)(fd:LI)(k:Nat):YW a fd (k+1)=if O6 fd k∈a.mr then YW a fd k++[(k:Int)]else YW a fd k:=by
 unfold YW;rw[Mm,LT,Lv,LU];by_cases h:O6 fd k∈a.mr
 ·rw[OU h,L5,OU (OX h)];rfl
 rw[OT h,L5,OT (by rw[OZ h];simp),MJ,Nj,LF]
theorem QcV (a:Qz)(fd:LI):∀k,(YW a fd k).length<=k
 | 0=>by simp[YW]
 | k+1=>by
  have:=QcV a fd k;rw[j9];split
  ·simp;omega
  omega
theorem Qg1 (a:Qz)(fd:LI)(k:Nat):Xe a fd (k+1)=Xe a fd k++a.al.filterMap (Km a fd k):=by
 unfold Xe;rw[Mm,LD,LU];simp
theorem jf (h:Zp L ↑w va vm ve a)(U:Q0 a):
  QR sV 236 [.agg #[va,sS a.st,vm,ve]] w λr w'=>sW w w'/\YT ↑w ↑w' r (Y6 a):=by
 have h1:=U.st1;have kt:=U.al_le;have ga:=((yl U).1).len U.st0;refine Zm func236 ?_;refine Zg (xp a) λfd hs=>?_;rw[hs]at ga;have gb:Y6 a=⟨a.al,fd.length,YW a fd fd.length,Xe a fd fd.length⟩:=by unfold Y6;rw[hs]
 refine Qc<|Za [va,sS a.st,vm,ve] λb1 w1 gc ku hv=>QN [nS,sS 0,nS,nS] λb2 w2 hw kv hD=>xe ?_;have V:=gc.D hw;have hfr:=QgN (h.I V) U;rw[hs]at hfr;refine Qc<|QV (hv.I hw) O O<|Qv<|hfr.S ?_;rintro vf w3 ⟨hn,ge⟩;refine Qb ?_;have hE:=V.D hn;have hF:=(hv.I hw).I hn;refine Qc<|Qq O hF O O<|Qv<|(qk (h.al.I hE) oa).S ?_;rintro r4 w4 ⟨hG,vcl,rfl,Y⟩;have hH:=Qi.ints (L:=[]) Y oa od;refine QN [nS,sS 0,nS,nS] λb4 w5 gg gh gi =>
  Q2 [vcl,sS 0,nS,nS] gi ⟨hH.one,O,O,O,Z⟩ λw6 gj hJ=>xe ?_
 have hz:sW w4 w6:=gg.Q gj gh;have ha:=hG.D hz;have hK:=Qi.ints (L:=[]) ge oa od;have kw:=hn.size;have kx:=hG.size;have kz:=hz.size;have k0:=hv.lt;have k4:=hD.lt;have k5:=hJ.lt;refine Qk<|QG hK O<|Zc O<|Qo<|Qw (u:=sS fd.length) hJ O O od rfl λw7 S gk=>xe ?_;have k6:=S.size;have k9:O5 [b4] w3 w7:=(ha.any (L:=[b4])).V S;have hL:sW w w7:=(hE.D ha).Q S oa;have hM:Qu [b4] ↑w7 vf fd:=((hK.up (L':=[b4]) (λb hb=>.inr (by simp at hb;omega))).I ha).st S;have h0:Zp [b4] ↑w7 va vm ve a:=(h.up (λb hb=>.inr (by simp at hb;omega))).I hL;have gl:Qi 3 ↑w3 w7 vcl a.al:=Qg (Qm Y hz) S (λb hb=>by have:=QU Y b hb;simp;omega);have hN:=(hF.I ha).J S (by simp;omega);have he:b4<w7.heap.size:=oa
 have n1:b1∉[b4]:=by simp;omega
 have n2:b2∉[b4]:=by simp;omega
 refine Qd<|Qc<|Qb<|QW (α:=Nat×O2×O2) [(5,7),(16,69)] (λz=>[(5,sS z.1)])
  (λz w'=>z.1<=fd.length/\CrI w7 b4 vcl fd.length z.2.1 z.2.2 (YW a fd z.1) (Xe a fd z.1) w'/\(Xe a fd z.1).length<=z.1*32) (λz=>fd.length - z.1) (0,nS,nS) La
  ⟨Lo _,⟨O5.Y _ _,gk,QM _ _ _ _,QM _ _ _ _,Dj.nil' _⟩,Lo _⟩ ?_
 rintro⟨i,v1,v2⟩ g8 w8 ⟨hi,hI,h2⟩;simp only[]at hi hI h2;have gm:=QcV a fd i;have hO:=hM.st hI.st;refine Qd<|Qk<|Qa<|QG hO O<|ZX O O<|xe<|Zr rfl (λgn=>?_) (λgn=>?_)
 ·have go:i=fd.length:=oa
  rw[go]at hI h2 gm;refine Qt ?_;have gq:=Qi.ints (L:=[]) hI.m oa od;have gr:=Yd.eds (L:=[]) hI.e oa od;refine Qc<|QV hI.B O O<|Q2 [vcl,sS fd.length,v1,v2] ((((hD.I hn).I ha).J S (by simp;omega)).J hI.st n2) ⟨hH.one,O,gq.one,gr.one,Z⟩ λw9 hp gs=>xe ?_;refine Qh ⟨[.agg #[vcl,sS fd.length,v1,v2]],⟨Jl gs,Z⟩,(hL.Q hI.st oa).Q hp oa,?_⟩;rw[gb];have k1:=Qg (Qg gl hI.st (λb hb=>by have:=QU Y b hb;simp;omega)) hp (λb hb=>by have:=(Qj Y b hb).1;simp;omega);have k2:=Qg hI.m hp (λb hb=>by have:=(Qj hI.m b hb).1;simp;omega);have k3:=Qg hI.e hp (λb hb=>by have:=(Qj hI.e b hb).1;simp;omega);refine⟨vcl,v1,v2,O,λL' h3=>⟨?_,?_,?_⟩⟩
  ·exact Qi.ints k1 (by show a.al.length<=_;omega) (λb hb=>oo (h3 b hb))
  ·exact Qi.ints k2 (by show(YW a fd fd.length).length<=_;omega) (λb hb=>oo (h3 b hb))
  exact Yd.eds k3 (by show(Xe a fd fd.length).length<=_;omega) (λb hb=>oo (h3 b hb))
 have h4:i<fd.length:=oa
 refine Zg (O6 fd i) λs hq=>?_;have hf:=j9 a fd i;rw[hq]at hf;refine Qf<|Qd<|Qn<|QX (α:=O2) [(22,34)] (λz=>[]) (λz w'=>CrI w7 b4 vcl fd.length z v2 (YW a fd (i+1)) (Xe a fd i) w') oh ?_ ?_
 ·have gt:=h0.st hI.st;have gu:=hN.J hI.st n1;refine Qd<|ZL [] (Xg 0 7 [6])<|p (QH O)<|pq (λ_ G=>Ql (gu.I G) O O)<|p Qx<|p Qx<|pic (i:=i) O hO O O h4 λma hP=>?_;rw[hq]at hP;refine pq (λ_ G=>Qr (hP.I G) O)<|pk<|xg<|(Qfs (gt.mr.I (O5.X [] w8)) s).S ?_;rintro mc mf ⟨rfl,rfl⟩;have h5:=hI.I (O5.X [] w8);refine⟨O5.X _ _,pe ?_⟩;refine Zr O (λh6=>?_) (λh6=>?_)
  ·rw[OT h6]at hf;refine Qf ?_;exact⟨v1,Z,by rw[hf];exact h5⟩
  rw[OU h6]at hf;refine Qs<|Qq O h5.B O O<|Qa<|Qo<|Q9 [[sS i]] λmg mh gv mj gx=>?_;have hg:=h5.I gv;refine Qo<|Q8 (news:=[sS i]) (L:=[]) hg.m O O O (gx.at od) om oa hg.st.size λhQ gy gz V g0=>?_;have hR:Qi 3 ↑w7 gy hQ (YW a fd i++[(i:Int)]):=Qi.snoc gz;refine Zc O<|Qo<|Qw (hg.B.J V (QK hg.m he)) O O od (Qi.ints (L:=[]) hR (by simp;omega) od).one λmo g2 g3 =>
   xe ?_
  exact⟨hQ,Z,by rw[hf];exact hg.setM he V hR g0 g2 g3⟩
 rintro v3 mq ms g4;refine Zg (Xe a fd (i+1)) λE1 h7=>?_;have hS:=Qg1 a fd i;rw[h7]at hS;refine Qc<|Qb<|QW (α:=Nat×List Ed×O2) [(6,7),(35,69)] (λz=>[(6,sS z.1)])
  (λz w'=>z.1<=a.al.length/\CrI w7 b4 vcl fd.length v3 z.2.2 (YW a fd (i+1)) z.2.1 w'/\z.2.1.length<=i*32+z.1/\z.2.1++(a.al.drop z.1).filterMap (Km a fd i)=E1) (λz=>a.al.length - z.1) (0,Xe a fd i,v2) La
  ⟨Lo _,g4,h2,hS.symm⟩ ?_
 rintro⟨k,E,vd⟩ mt hT ⟨hk,J,g5,I⟩;simp only[]at hk J g5 I;have h8:=h0.st J.st;have hr:=hN.J J.st n1;have hU:=hM.st J.st;refine Qd<|Qk<|Qq O hr O O<|QG h8.al O<|ZX O O<|xe<|Zr rfl (λg6=>?_) (λg6=>?_)
 ·refine Qt<|Qs<|Qa<|QD O O<|Qb ?_;rw[Lr oa,List.filterMap_nil,LF]at I;refine⟨(i+1,v3,vd),oe,La,h4,?_,?_⟩
  ·simp only[];rw[h7,<-I];exact J
  simp only[];rw[h7,<-I];omega
 have T:k<a.al.length:=oa
 refine Zg (O6 a.al k) λu hu=>?_;rw[LZ T,ZA T,hu,Mk]at I;refine Zg (nxt a.ed s u) λt ht=>?_;have g7:Km a fd i u=if 0<=t then some ((i:Int),u,qV fd t) else none:=by unfold Km;rw[hq,ht]
 rw[g7]at I;have hsr:=QbJ (va:=va) (vm:=vm) (a:=a) (h8.ed.I (O5.X [] hT)) s u a.st;rw[ht]at hsr;refine Qf<|Qd<|Qn<|Qd<|ZL [] (Xg 0 12 [10])<|pq (λ_ G=>Q7 (hr.I G) O O)<|p Qx<|p Qx<|pic (i:=i) O hU O O h4 λmu hV=>?_;rw[hq]at hV;refine pq (λ_ G=>Qr (hV.I G) O)<|p (QH O)<|pq (λ_ G=>Ql (hr.I G) O O)<|p Qx <|
  pic (i:=k) O h8.al O O T λmv hW=>?_
 rw[hu]at hW;refine pq (λ_ G=>Qr (hW.I G) O)<|pk<|xg<|hsr.S ?_;rintro mw h9 ⟨rfl,g9⟩;have hh:=(O5.X [] hT).D g9;refine⟨hh,p ZN<|pe ?_⟩;have hj:=J.I hh;have ka:=hr.I hh;have kb:=hU.I hh;refine Qk<|x (Yl O O)<|xe<|Zr rfl (λhA=>?_) (λhA=>?_)
 ·rw[OT hA]at I;refine Qf<|Qs<|Qa<|QD O O<|Qb<|⟨(k+1,E,vd),oe,La,T,hj,oe,I⟩
 rw[OU hA]at I;have kc:=Qj J.e;have ke:Qu (b4::ob vd) ↑h9 va a.al:=(((h0.al.up (L':=b4::ob vd) (λb hb=>by
  rcases Ln.1 hb with rfl|hb
  ·exact .inl od
  exact .inr (kc b hb).1)).J J.st od).I hh)
 have kf:=QK hj.e he;have kg:b1∉ob vd:=QK hj.e oa;refine ZL (ob vd) (Xg 0 16 [10,12,13,15])<|p (QH O)<|pq (λ_ G=>Ql (hj.B.J G kf) O O)<|p Qx<|p (QH O)<|pq (λ_ G=>Ql (ka.J G kg) O O) <|
  p Qx<|pic (i:=k) O ke O O T λmy hX=>?_
 rw[hu]at hX;refine pq (λ_ G=>Qr (hX.J G (λb hb=>Lk _ hb)) O)<|p Qx<|p Qx <|
  pk<|xg<|(QgK (kb.I (O5.X [] h9)) t).S ?_
 rintro mz m0 ⟨rfl,rfl⟩;refine⟨O5.X _ _,p (λ_=>QE ⟨O,O,O,Z⟩)<|pk<|Q9 [Qp ((i:Int),u,qV fd t)] λm1 m2 kh m3 ki=>?_⟩;have hB:=(O5.X [] h9).D kh;have hm:=hj.I hB;refine⟨hB.any,?_⟩;refine pk<|Q8 (news:=Qp ((i:Int),u,qV fd t)) (L:=[]) hm.e O O O (ki.at od) (λy hy=>by simp only[Qp,oK,oH,or_false]at hy;rcases hy with rfl|rfl|rfl <;> rfl) oa hm.st.size λhY kj kk hC kn=>⟨(hB.any (L:=ob vd)).V hC,?_⟩
 have hZ:Yd 179 ↑w7 kj hY (E++[((i:Int),u,qV fd t)]):=Yd.snoc kk;refine p (QH O)<|pkk<|Qw (hm.B.J hC (QK hm.e he)) O O od (Yd.eds (L:=[]) hZ (by simp;omega) od).one λm4 ko kq =>
  pe ?_
 have kr:=hm.setE he hC hZ kn ko kq;refine Qs<|Qa<|QD O O<|Qb<|⟨(k+1,E++[((i:Int),u,qV fd t)],hY),oe,La,T,kr,by simp;omega,?_⟩;simp only[Of,Ov];exact I
theorem zP {x:O3}{k:IntKind}{a b:Int}(hx:ev f x=.int k a)(I:ev f y=.int k b)(J:0<=a)(hb:0<b):
  (execOp (ev f) ⟨d,.binOp .rem t x y G,ty,pS,af,gd⟩).run P w=.ok (.value (.int k (a % b))) w:=by
 refine J7 hx I ?_;have S:¬b=0:=oa
 simp[binOp,Op.intDiv,S,Int.tmod_eq_emod_of_nonneg J]
instance ayMa1:Ay sV 26 5 22 5:=⟨oc,oc⟩
instance ayMa2:Ay sV 22 5 5 1:=⟨oc,oc⟩
abbrev bys (ns:LN):LV:=ns.map λn:Nat=>.int .u8 (n:Int)
theorem qu (h:j<ns.length):(bys ns)[j]?=some (.int .u8 ((ns.getD j 0:Nat):Int)):=by simp[bys,oO,h]
theorem QcX:∀(ns:LN),Zv (bys ns)
 | []=>trivial
 | _::ns=>⟨rfl,QcX ns⟩
theorem Je (h:∀n∈ns,n<256)(j:Nat):ns.getD j 0<256:=by
 by_cases G:j<ns.length
 ·simp only[oO,oV G,Option.getD_some];exact h _ (Le G)
 simp[oO,G]
structure GrI (al:LI)(S i k:Nat)(M:LI)(E:List Ed):Prop where
 mb:∀x∈M,0<=x/\x<S
 mi:YA M
 ml:∀x∈M,x<(i:Int)+1
 mn:M.length<=S
 eb:∀e∈E,0<=e.1/\e.1<S/\e.2.1∈al/\0<=e.2.2/\e.2.2<S
 ei:E.Pairwise λx y=>x.1<y.1\/(x.1=y.1/\x.2.1<y.2.1)
 el:∀e∈E,e.1<i\/(e.1=i/\e.2.1∈al.take k)
 en:E.length<=i*5+k
theorem Qmx {S:Nat}{M:LI}(hb:∀x∈M,0<=x/\x<S)(hi:YA M):M.length<=S:=xH S M (hi.imp (λh=>oa)) hb
theorem GrI.mark {al:LI}{S:Nat}{M:LI}{E:List Ed}(h:GrI al S i 0 M E)(G:∀x∈M,x<(i:Int))(hi:i<S):GrI al S i 0 (M++[(i:Int)]) E:=by
 have I:∀x∈M++[(i:Int)],0<=x/\x<S:=λx hx=>by
  rcases Lh.1 hx with hx|hx
  ·exact h.mb x hx
  simp only[oF]at hx;omega
 have J:YA (M++[(i:Int)]):=by
  refine Mg.2 ⟨h.mi,od,λx hx y T=>?_⟩;simp only[oF]at T;subst T;exact G x hx
 refine⟨I,J,λx hx=>?_,Qmx I J,h.eb,h.ei,h.el,h.en⟩;rcases Lh.1 hx with hx|hx
 ·have:=G x hx;omega
 simp only[oF]at hx;omega
theorem GrI.skip {al:LI}{S k:Nat}{M:LI}{E:List Ed}(h:GrI al S i k M E)(G:k<al.length):GrI al S i (k+1) M E :=
 ⟨h.mb,h.mi,h.ml,h.mn,h.eb,h.ei,λe I=>(h.el e I).imp id (λx=>⟨x.1,by rw[Lj G];exact LM _ x.2⟩),oo h.en⟩
theorem GrI.edge {al:LI}{S k:Nat}{M:LI}{E:List Ed}(h:GrI al S i k M E)(I:k<al.length)(U:YA al)(hi:i<S){t:Int}(V:0<=t)(Y:t<S):GrI al S i (k+1) M (E++[((i:Int),O6 al k,t)]):=by
 have hc:O6 al k∈al:=Xv I;refine⟨h.mb,h.mi,h.ml,h.mn,λe G=>?_,?_,λe G=>?_,by have:=h.en;simp;omega⟩
 ·rcases Lh.1 G with G|G
  ·exact h.eb e G
  simp only[oF]at G;subst G;exact⟨oe,oe,hc,V,Y⟩
 ·refine Mg.2 ⟨h.ei,od,λx hx y T=>?_⟩;simp only[oF]at T;subst T;rcases h.el x hx with J|⟨J,h2⟩
  ·left;exact J
  right;refine⟨J,?_⟩;simp only[];have hp:YA (al.take k++al.drop k):=by rw[MA];exact U
  refine(Mg.1 hp).2.2 _ h2 _ ?_;rw[LZ I,ZA I];exact Lm
 rw[Lj I,ZA I];rcases Lh.1 G with G|G
 ·exact(h.el e G).imp id (λx=>⟨x.1,LM _ x.2⟩)
 simp only[oF]at G;subst G;exact .inr ⟨O,MN _ od⟩
theorem GrI.next {al:LI}{S k:Nat}{M:LI}{E:List Ed}(h:GrI al S i k M E)(J:k<=5):GrI al S (i+1) 0 M E :=
 ⟨h.mb,h.mi,λx hx=>oo (h.ml x hx),h.mn,h.eb,h.ei,λe G=>by rcases h.el e G with I|I <;> (left;omega),oo h.en⟩
theorem QgB {v:O2}{al:LI}(h:Qu L ↑w v al)(hb:∀e∈al,0<=e/\e<32)(hi:YA al)(hn:ns.length=27)(hp:∀n∈ns,n<256):
  QR sV 162 [v,sT (bys ns)] w λr w'=>sW w w'/\∃a:Qz,YT ↑w ↑w' r a/\Q0 a/\a.st<=5/\a.al=al /\
   (ns.getD 0 0<250->∃a0:Qz,Q0 a0/\0<a0.st/\a0.st<=((1+ns.getD 0 0 % 5:Nat):Int)/\a=Y6 a0):=by
 have kx:al.length<=32:=xH 32 al (hi.imp (λh=>oa)) (λx hx=>oo (hb x hx));refine Zm func162 ?_;have g0:=qu (ns:=ns) (j:=0) oa;have g1:=qu (ns:=ns) (j:=1) oa;have l0:=Je hp 0;have l1:=Je hp 1;refine Zg (ns.getD 0 0) λs0 hW=>?_;refine Zg (ns.getD 1 0) λm1 hX=>?_;rw[hW]at g0 l0;rw[hX]at g1 l1;refine Qc<|Za (bys ns) λb3 w1 hY kz h3=>QN [nS,sS 0,nS,nS] λb4 w2 h4 k0 hr=>xe ?_;have ho:=hY.D h4;have hs:=h3.I h4;have k4:=h3.lt;have k5:=hr.lt;refine Qd<|Qc<|Qq O hs O g0<|x (Yl O O)<|xe<|Zi rfl (λhZ=>?_) (λhZ=>?_)
 ·refine Qk<|Qv<|(qk (h.I ho) oa).S ?_;rintro r3 w3 ⟨h5,vcl,rfl,T⟩;have hu:=Qi.ints (L:=[]) T oa od;refine Q2 [vcl,sS 0,nS,nS] (hr.I h5) ⟨hu.one,O,O,O,Z⟩ λw4 h6 ga=>xe ?_;have gb:=Qg T h6 (λb hb=>by have:=(Qj T b hb).1;simp;omega);refine Qh ⟨[.agg #[vcl,sS 0,nS,nS]],⟨Jl ga,Z⟩,(ho.D h5).Q h6 oa,⟨al,0,[],[]⟩,?_,?_,(by decide:(0:Int)<=5),O,λh=>OW h oa⟩
  ·exact⟨vcl,_,_,O,λL' gc=>⟨Qi.ints gb (by show al.length<=_;omega) (λb hb=>oo (gc b hb)),Zt.nil _ _ _,Zt.nil _ _ _⟩⟩
  exact⟨hb,hi,(by decide:(0:Int)<=0),(by decide:(0:Int)<=4096),od,od,od,od⟩
 refine Qf<|Qk<|Qv<|(qk (h.I ho) oa).S ?_;rintro r5 w5 ⟨h7,vcl,rfl,T⟩;have hu:=Qi.ints (L:=[]) T oa od;refine QN [nS,sS 0,nS,nS] λG w6 ge gg gh =>
  Q2 [vcl,sS 0,nS,nS] gh ⟨hu.one,O,O,O,Z⟩ λw7 gi h8=>xe ?_
 have h9:sW w5 w7:=ge.Q gi gg;have hg:=h7.D h9;have k6:=h7.size;have k9:=h8.lt;refine Zg (1+s0 % 5) λS hS=>?_;have gk:(1:Int)+(s0:Int) % 5=(S:Int):=oa
 refine Qc<|Qq O (hs.I hg) O g0<|x (zP (a:=(s0:Int)) (b:=5) O O oa oa)<|x (Yh (k':=.i64) O ⟨oa,oa⟩)<|QD O O<|x (Uh O) <|
  Qo<|Qw (u:=sS S) h8 O (OV sS gk) od rfl λI ha gl=>xe ?_
 have ma:=ha.size;have mc:O5 [G] w2 I:=(hg.any (L:=[G])).V ha;have hA:sW w I:=(ho.D hg).Q ha oa;have hB:Qu [G] ↑I v al:=(h.up (L':=[G]) (λb hb=>.inr (by simp at hb;omega))).I hA;have gm:Qi 3 ↑w2 I vcl al:=Qg (Qm T h9) ha (λb hb=>by have:=QU T b hb;simp;omega);have hC:=(hs.I hg).J ha (by simp;omega);have gn:=(hr.I hg).J ha (by simp;omega);have hh:G<I.heap.size:=oa
 have n3:b3∉[G]:=by simp;omega
 have n4:b4∉[G]:=by simp;omega
 refine Qd<|Qc<|Qb<|QW (α:=Nat×O2×O2×LI×List Ed) [(6,8),(22,76)] (λz=>[(6,sS z.1)])
  (λz w'=>z.1<=S/\CrI I G vcl S z.2.1 z.2.2.1 z.2.2.2.1 z.2.2.2.2 w'/\GrI al S z.1 0 z.2.2.2.1 z.2.2.2.2/\∀x∈z.2.2.2.1,x<(z.1:Int)) (λz=>S - z.1) (0,nS,nS,[],[]) La
  ⟨Lo _,⟨O5.Y _ _,gl,QM _ _ _ _,QM _ _ _ _,Dj.nil' _⟩,⟨od,od,od,od,od,od,od,od⟩,od⟩ ?_
 rintro⟨i,v1,v2,M,E⟩ g9 w9 ⟨go,hI,J,hM⟩;simp only[]at go hI J hM;have mf:=J.mn;have mg:=J.en;refine Qd<|Qk<|Qq O hI.B O O<|ZX O O<|xe<|Zr rfl (λgq=>?_) (λgq=>?_)
 ·have mh:i=S:=oa
  refine Qt ?_;have gr:=Qi.ints (L:=[]) hI.m oa od;have gs:=Yd.eds (L:=[]) hI.e oa od;have gt:Qi 3 ↑w2 w9 vcl al:=Qg gm hI.st (λb hb=>by have:=QU T b hb;simp;omega);have gu:Zp [] ↑w9 vcl v1 v2 ⟨al,(S:Int),M,E⟩:=⟨Qi.ints gt (by show al.length<=_;omega) od,gr,gs⟩;have hok:Q0 ⟨al,(S:Int),M,E⟩:=⟨hb,hi,oe,oe,J.mb,J.mi,J.eb,J.ei⟩;have hv:=Qbl hok;have hD:sW w w9:=hA.Q hI.st oa;have gv:=gn.J hI.st n4;have mj:=hI.st.size;refine Qc<|QV hI.B O O<|Qv<|(jf (a:=⟨al,(S:Int),M,E⟩) gu hok).S ?_;rintro vr mo ⟨hE,hF⟩;obtain⟨us,hH,hJ,gx⟩:=Y9 hF;refine Qo<|Zj (us:=us) (gv.I hE) O hH hJ O gx λmq hK gy=>xe ?_;have gz:=hD.size;refine Qh ⟨[sT us],⟨⟨_,O,ZF hJ (gy.at (L:=[]) od).cells⟩,Z⟩,(hD.D hE).Q hK oa,Y6 ⟨al,(S:Int),M,E⟩,?_,hv.1,?_,hv.2.1,λ_=>⟨⟨al,(S:Int),M,E⟩,hok,oe,oe,O⟩⟩
  ·show YT _ _ (sT us) _;rw[<-hH];exact(Y8 hF oa hK).S gz
  have:=hv.2.2;simp only[]at this;omega
 have hw:i<S:=oa
 refine Qf<|Qd<|Qn<|QX (α:=O2×LI) [(28,39)] (λz=>[]) (λz w'=>CrI I G vcl S z.1 v2 z.2 E w'/\GrI al S i 0 z.2 E) oh ?_ ?_
 ·have g2:m1 / 2 ^ i<256:=Nat.lt_of_le_of_lt (Nat.div_le_self _ _) l1;refine Qc<|Qq O (hC.J hI.st n3) O g1<|Qa<|x (Qb0 (n:=i) O O (by show i<=8;omega))<|x (U4 (a:=m1 / 2 ^ i) (b:=1) (OV (Value.int .u8) (Qat m1 i)) O g2 og)<|x (Zd O O)<|xe<|Zr O (λg3=>?_) (λg3=>?_)
  ·refine Qf ?_;exact⟨(v1,M),Z,hI,J⟩
  refine Qs<|Qq O hI.B O O<|Qa<|Qo<|Q9 [[sS i]] λms mt g4 mu g5=>?_;have hj:=hI.I g4;refine Qo<|Q8 (news:=[sS i]) (L:=[]) hj.m O O O (g5.at od) om oa hj.st.size λhL g6 g7 hN g8=>?_;have hO:Qi 3 ↑I g6 hL (M++[(i:Int)]):=Qi.snoc g7;refine Zc O<|Qo<|Qw (hj.B.J hN (QK hj.m hh)) O O od (Qi.ints (L:=[]) hO (by simp;omega) od).one λmv ka kb =>
   xe ?_
  exact⟨(hL,M++[(i:Int)]),Z,hj.setM hh hN hO g8 ka kb,J.mark hM hw⟩
 rintro⟨v3,M3⟩ mw my ⟨hP,hQ⟩;simp only[]at hP hQ;refine Qc<|Qb<|QW (α:=Nat×O2×List Ed) [(7,8),(40,76)] (λz=>[(7,sS z.1)])
  (λz w'=>z.1<=al.length/\z.1<=5/\CrI I G vcl S v3 z.2.1 M3 z.2.2 w'/\GrI al S i z.1 M3 z.2.2) (λz=>5 - z.1) (0,v2,E) La
  ⟨Lo _,Lo _,hP,hQ⟩ ?_
 rintro⟨k,vd,F⟩ mz kc ⟨hk,hR,he,hf⟩;simp only[]at hk hR he hf;have ke:=hB.st he.st;have m0:=hf.en;refine Qd<|QX (α:=Unit) [(40,47)] (λz=>[(47,.bool (decide (k<al.length/\k<5)))]) (λz w'=>w'=kc) oh ?_ ?_
 ·refine Qs<|Qa<|Qa<|QG ke O<|xb (YC O O) (λhT=>?_) (λhT=>?_)
  ·refine Qa<|Qa<|ZX O O<|QB O<|xe<|⟨(),⟨OV Value.bool ?_,Z⟩,O⟩;exact decide_eq_decide.2 ⟨λe=>⟨oa,oa⟩,λe=>oa⟩
  refine Qa<|Yf<|QB O<|xe ?_;exact⟨(),⟨OV Value.bool (OZ (λe=>hT oa)).symm,Z⟩,O⟩
 rintro _ m2 U rfl;refine Zr rfl (λhz=>?_) (λhz=>?_)
 ·refine Qt<|Qs<|Qa<|QD O O<|Qb<|⟨(i+1,v3,vd,M3,F),oe,La,hw,he,hf.next hR,λx hx=>by have:=hf.ml x hx;simp only[];omega⟩
 have hk1:k<al.length:=hz.1;have h0:k<5:=hz.2;have gj:=qu (ns:=ns) (j:=0+2+i*5+k*1) oa;have lj:=Je hp (0+2+i*5+k*1);refine Zg (ns.getD (0+2+i*5+k*1) 0) λq hq=>?_;rw[hq]at gj lj;have kf:=hC.J he.st n3;have kg:0<=(q:Int) % ((S:Int)+2):=Int.emod_nonneg _ oa;refine Qf<|Qd<|Qn<|Qd<|ZL [] (Xg 0 12 [])<|p Qx<|p Qx<|p (QH O)<|p (λ_=>ZV (i:=i) O O oa)<|p (λ_=>ZV (i:=k) O O h0)<|pq (λ_ V=>Ql (kf.I V) O gj) <|
  p (λ_=>Yh (k':=.i64) O ⟨oa,oa⟩)<|p (QH O)<|pq (λ_ V=>Ql (he.B.I V) O O)<|p (λ_=>Xp O O ⟨oa,oa⟩) <|
  p (λ_=>zP (a:=(q:Int)) (b:=(S:Int)+2) O O oa oa)<|p ZN<|pe ?_
 have Y:=he.I (O5.X [] U);refine Zg ((q:Int) % ((S:Int)+2)) λt ht=>?_;refine Qk<|Qq O Y.B O O<|ZX O O<|xe<|Zr rfl (λkh=>?_) (λkh=>?_)
 ·refine Qf<|Qs<|Qa<|QD O O<|Qb<|⟨(k+1,vd,F),oe,La,hk1,h0,Y,hf.skip hk1⟩
 have ki:=Qj Y.e;have kj:Qu (G::ob vd) { U with drawn:=U.drawn+1 }.heap v al:=((hB.up (L':=G::ob vd) (λb hb=>by
  rcases Ln.1 hb with rfl|hb
  ·exact .inl od
  exact .inr (ki b hb).1)).J Y.st od)
 have kk:=QK Y.e hh;refine V3 (O5 (ob vd) { U with drawn:=U.drawn+1 }) [oz 0,oz 1,oz 2,oz 3,oz 4,oz 5,oz 6,oz 7,oz 8,oA 9,oA 10,oz 11,oA 12] mixed oh oc (O5.X _ _) ?_
 refine p (QH O)<|pq (λ_ V=>Ql (Y.B.J V kk) O O)<|p Qx<|p Qx<|p Qx <|
  pic (i:=k) O kj O O hk1 λm3 kn=>pq (λ_ V=>Qr (kn.J V (λb hb=>Lk _ hb)) O)<|p Qx<|p (λ_=>QE ⟨O,O,O,Z⟩) <|
  pk<|Q9 [Qp ((i:Int),O6 al k,(q:Int) % ((S:Int)+2))] λm4 m5 ko m6 kq=>?_
 have h1:=(O5.X [] { U with drawn:=U.drawn+1 }).D ko
 have hm:=Y.I h1;refine⟨h1.any,?_⟩;refine pk<|Q8 (news:=Qp ((i:Int),O6 al k,(q:Int) % ((S:Int)+2))) (L:=[]) hm.e O O O (kq.at od) (λy hy=>by simp only[Qp,oK,oH,or_false]at hy;rcases hy with rfl|rfl|rfl <;> rfl) oa hm.st.size λhU kr kt h2 ku=>⟨(h1.any (L:=ob vd)).V h2,?_⟩
 have hV:Yd 179 ↑I kr hU (F++[((i:Int),O6 al k,(q:Int) % ((S:Int)+2))]):=Yd.snoc kt;refine p (QH O)<|pkk<|Qw (hm.B.J h2 (QK hm.e hh)) O O od (Yd.eds (L:=[]) hV (by simp;omega) od).one λm7 kv kw=>pe ?_;refine Qs<|Qa<|QD O O<|Qb<|⟨(k+1,hU,F++[((i:Int),O6 al k,(q:Int) % ((S:Int)+2))]),oe,La,hk1,h0,(hm.setE hh h2 hV ku kv kw),hf.edge hk1 hi hw kg oa⟩
theorem U3 [Ag P t sz]{x:O3}{b o:Nat}(h:QL ↑w b T cs)(hx:ev f x=.pointer (some ⟨b,o,none⟩))(hl:us.length=sz)(G:∀j u,us[j]?=some u->cs[o+j]?=some u):
  (execOp (ev f) ⟨d,.load t x,ty,pS,af,gd⟩).run P w=.ok (.value (sT us)) w:=by
 refine zg hx hl λj u I=>?_;rw[Kl,X0,h.cell];exact G j u I
theorem Qnd {o:Nat}:∀j u,(bys ((ns.drop o).take n))[j]?=some u->(bys ns)[o+j]?=some u:=by
 intro j u h;simp only[bys,List.getElem?_map,List.getElem?_take,List.getElem?_drop]at h ⊢;split at h
 ·exact h
 cases h
theorem Qne (h:∀n∈ns,n<256)(o n:Nat):∀m∈(ns.drop o).take n,m<256:=λm G=>h m (MS (L3 G))
theorem QeY (m k:Nat):∀e∈setK m k,0<=e/\e<k:=by
 intro e G;simp only[setK,Ol,Oi,Oh]at G;obtain⟨i,⟨hi,_⟩,rfl⟩:=G;omega
theorem QaQ (keep:Bool->Bool->Bool):∀(n:Nat) (a b:LI),a.length+b.length<=n->YA a->YA b->YA (mrg keep a b):=by
 intro n;induction n with
 | zero =>
  intro a b h _ _;have T:a=[]:=Lt oa;have hb:b=[]:=Lt oa;subst T hb;rw[Kz];exact List.Pairwise.nil
 | succ n ih =>
  intro a b U ia ib;by_cases h:a=[]/\b=[]
  ·obtain⟨rfl,rfl⟩:=h;rw[Kz];exact List.Pairwise.nil
  have V:=ye h;have itl:∀(c:Bool) (l:LI),YA l->YA (tl c l):=λc l hl=>by
   cases c
   ·exact hl
   cases l with
   | nil=>exact hl
   | cons y l=>exact hl.tail
  have J:=ih (tl (Jd a b) a) (tl (Jd b a) b) oa (itl _ _ ia) (itl _ _ ib);rw[Kg keep h];cases keep (Jd a b) (Jd b a) with
  | false=>simpa using J
  | true =>
   simp only[cond_true,Ov];refine L6.2 ⟨λx hx=>?_,J⟩;have I:=(Up (itl _ _ ia) (itl _ _ ib) x).1 hx;cases a with
   | nil =>
    cases b with
    | nil=>exact OW ⟨O,O⟩ h
    | cons y b =>
     simp only[Jd,tl,cond_true,cond_false,Og,oH,false_or,Lg.hx,Oc]at I ⊢;exact ib.lt_of I.1
   | cons u a =>
    cases b with
    | nil =>
     simp only[Jd,tl,cond_true,cond_false,Og,oH,or_false,Lg.hx,Oc]at I ⊢;exact ia.lt_of I.1
    | cons y b =>
     rcases Int.lt_trichotomy u y with S|S|S
     ·have e1:decide (u<=y)=true:=OX oa;have e2:decide (y<=u)=false:=OZ oa;simp only[Jd,tl,e1,e2,cond_true,cond_false,Og,Lg.hx,Oc]at I ⊢;rcases I.1 with G|G
      ·exact ia.lt_of G
      rcases Ln.1 G with G|G
      ·omega
      have:=ib.lt_of G;omega
     ·have e1:decide (u<=y)=true:=OX oa;have e2:decide (y<=u)=true:=OX oa;simp only[Jd,tl,e1,e2,cond_true,Og,Lg.hx,Oc]at I ⊢;rcases I.1 with G|G
      ·have:=ia.lt_of G;omega
      have:=ib.lt_of G;omega
     have e1:decide (u<=y)=false:=OZ oa;have e2:decide (y<=u)=true:=OX oa;simp only[Jd,tl,e1,e2,cond_true,cond_false,Og,Lg.hx,Oc]at I ⊢;rcases I.1 with G|G
     ·rcases Ln.1 G with G|G
      ·omega
      have:=ia.lt_of G;omega
     exact ib.lt_of G
abbrev ZT:O2:=nS
def srt (n:Nat)(l:LI):LI:=((oJ n).filter λi:Nat=>decide ((i:Int)∈l)).map λi:Nat=>(i:Int)
theorem Qap (n:Nat)(l:LI):YA (srt n l):=by
 unfold srt YA;rw[Ma];exact((List.pairwise_lt_range).filter _).imp λh=>oa
theorem Qao {x:Int}:x∈srt n l↔(0<=x/\x<(n:Int))/\x∈l:=by
 unfold srt;rw[Ly];constructor
 ·rintro⟨i,hi,rfl⟩;have E:=LQ.1 hi;have G:=MB.1 E.1;exact⟨⟨oa,oa⟩,OY E.2⟩
 rintro⟨⟨E,G⟩,I⟩;have e:((x.toNat:Nat):Int)=x:=oa
 exact⟨x.toNat,LQ.2 ⟨MB.2 oa,OX (by rw[e];exact I)⟩,e⟩
theorem QeV (n:Nat)(l:LI):(srt n l).length<=n:=by
 unfold srt;rw[Ll];exact Lx (LJ _ _) (by rw[L9];exact Lp _)
theorem zn {m:LI}(hl:YA l)(J:YA m)(h:∀x,x∈l↔x∈m):l=m:=by
 induction l generalizing m with
 | nil =>
  cases m with
  | nil=>rfl
  | cons y m=>exact OW ((h y).2 Lm) od
 | cons x l ih =>
  cases m with
  | nil=>exact OW ((h x).1 Lm) od
  | cons y m =>
   obtain⟨G,S⟩:=L6.1 hl;obtain⟨I,T⟩:=L6.1 J;have e:x=y:=by
    rcases Ln.1 ((h x).1 Lm) with e|e
    ·exact e
    rcases Ln.1 ((h y).2 Lm) with e'|e'
    ·exact e'.symm
    have:=G y e';have:=I x e;omega
   subst e;refine OV _ (ih S T λz=>⟨λE=>?_,λE=>?_⟩)
   ·rcases Ln.1 ((h z).1 (Lk _ E)) with e|e
    ·have:=G z E;omega
    exact e
   rcases Ln.1 ((h z).2 (Lk _ E)) with e|e
   ·have:=I z E;omega
   exact e
theorem QhY {m:LI}(E:YA m)(h:∀x,x∈m↔x∈l)(hb:∀x∈l,0<=x/\x<(n:Int)):m=srt n l :=
 zn E (Qap n l) λx=>by rw[Qao,h x];exact⟨λhx=>⟨hb x hx,hx⟩,λhx=>hx.2⟩
def bfE (ok:Ed->Bool)(l:LI)(e:Ed):LI:=if ok e=true/\e.2.2∉l then l++[e.2.2]else l
def bfs (ok:Ed->Bool)(ed:List Ed):Nat->Nat->LI->LI
 | 0,_,l=>l
 | f+1,i,l=>if i<l.length then bfs ok ed f (i+1) ((QQ ed (O6 l i)).foldl (bfE ok) l) else l
theorem QcZ {ok:Ed->Bool}{f:Nat}(h:¬i<l.length):bfs ok ed f i l=l:=by
 cases f with
 | zero=>rfl
 | succ f=>rw[bfs,OT h]
structure yX (n:Nat)(l0 l:LI):Prop where
 ex:∃m,l=l0++m/\m.Nodup/\(∀x∈m,0<=x/\x<(n:Int))/\∀x∈m,x∉l0
theorem yX.zero (n:Nat)(E:LI):yX n E E:=⟨[],od,Ms,od,od⟩
theorem yX.len {E:LI}(h:yX n E l):l.length<=E.length+n:=by
 obtain⟨m,rfl,G,I,_⟩:=h.ex;have:=xH n m G I;rw[Lc];omega
theorem yX.all {E:LI}(h:yX n E l)(G:∀x∈E,0<=x/\x<(n:Int)):∀x∈l,0<=x/\x<(n:Int):=by
 obtain⟨m,rfl,_,I,_⟩:=h.ex;intro x hx;rcases Lh.1 hx with hx|hx
 ·exact G x hx
 exact I x hx
theorem yX.add {G:LI}(h:yX n G l){x:Int}(hx:0<=x/\x<(n:Int))(I:x∉l):yX n G (l++[x]):=by
 obtain⟨m,rfl,J,S,T⟩:=h.ex;refine⟨m++[x],by rw[LA],?_,λy E=>?_,λy E=>?_⟩
 ·rw[Mb];refine⟨J,od,λa U b hb e=>?_⟩;rw[Lb.1 hb]at e;exact I (Lh.2 (.inr (e ▸ U)))
 ·rcases Lh.1 E with E|E
  ·exact S y E
  rw[Lb.1 E];exact hx
 rcases Lh.1 E with E|E
 ·exact T y E
 rw[Lb.1 E];exact λV=>I (Lh.2 (.inl V))
theorem yX.edge {E:LI}(h:yX n E l)(ok:Ed->Bool){e:Ed}(G:0<=e.2.2/\e.2.2<(n:Int)):yX n E (bfE ok l e):=by
 unfold bfE;split
 ·rename_i I;exact h.add G I.2
 exact h
def cls (ok:Ed->Bool)(a:Qz)(l:LI):LI:=srt a.st.toNat (bfs ok a.ed (l.length+a.st.toNat) 0 l)
def jd (l:LI)(x:Int):LI:=if x∉l then l++[x]else l
def ddp (l:LI):LI:=l.foldl jd []
def hop (ed:List Ed)(l:LI)(v:Int):LI:=l.flatMap λs=>((QQ ed s).filter λe=>decide (e.2.1=v)).map (·.2.2)
def mkd (a:Qz)(l:LI):Bool:=l.any λs=>decide (s∈a.mr)
def kpt (a:Qz)(o:LI):LI:=a.al.filter λv=>decide (v∈o)
def ers (a:Qz)(o:LI):LI:=a.al.filter λv=>!decide (v∈o)
def okR (ev:LI)(e:Ed):Bool:=decide (e.2.1∈ev)
def rch (a:Qz)(l ev:LI):LI:=cls (okR ev) a (ddp l)
def pnx (a:Qz)(er l:LI)(v:Int):LI:=rch a (hop a.ed l v) er
def K4 (z:Sy)(u:LI):Sy:=if u∈z.tup then z else⟨z.tup++[u],z.mk',z.ed⟩
def Jt (a:Qz)(er:LI)(i:Nat)(t:LI)(z:Sy)(v:Int):Sy :=
 if(pnx a er t v).length=0 then z else⟨(K4 z (pnx a er t v)).tup,(K4 z (pnx a er t v)).mk',(K4 z (pnx a er t v)).ed++[((i:Int),v,((K4 z (pnx a er t v)).tup.idxOf (pnx a er t v):Int))]⟩
def qT (a:Qz)(i:Nat)(t:LI)(z:Sy):Sy:=if mkd a t=true then⟨z.tup,z.mk'++[(i:Int)],z.ed⟩else z
def ja (a:Qz)(kp er:LI):Nat->Nat->Sy->Sy
 | 0,_,z=>z
 | f+1,i,z=>if i<z.tup.length then ja a kp er f (i+1) (kp.foldl (Jt a er i (JF z i)) (qT a i (JF z i) z)) else z
theorem Qit {kp er:LI}{f:Nat}{z:Sy}(h:¬i<z.tup.length):ja a kp er f i z=z:=by
 cases f with
 | zero=>rfl
 | succ f=>rw[ja,OT h]
def pj0 (a:Qz)(er:LI):Sy:=⟨[rch a [0] er],[],[]⟩
def prj (a:Qz)(o:LI):Sy:=if a.st=0 then⟨[],[],[]⟩else ja a (kpt a o) (ers a o) (2 ^ a.st.toNat) 0 (pj0 a (ers a o))
def ZY (a:Qz)(o:LI):Qz:=⟨kpt a o,(prj a o).tup.length,(prj a o).mk',(prj a o).ed⟩
def Ss (n:Nat)(l:LI):Prop:=YA l/\∀x∈l,0<=x/\x<(n:Int)
theorem UV (n:Nat)(l:LI):Ss n (srt n l):=⟨Qap n l,λ_ hx=>(Qao.1 hx).1⟩
theorem QjK {α:Type}(q:α->Bool):∀l:List α,l.length=(l.filter q).length+(l.filter λx=>!q x).length
 | []=>rfl
 | x::l=>by
  rw[L5,L5,LL,QjK q l];cases q x <;> simp <;> omega
theorem ze:∀(n:Nat) (L:List (LI)),L.Nodup->(∀l∈L,Ss n l)->L.length<=2 ^ n
 | 0,L,hd,h=>by
  have J:∀l∈L,l=[]:=λl hl=>by
   cases l with
   | nil=>rfl
   | cons x l=>have:=(h _ hl).2 x Lm;omega
  match L,hd,J with
  | [],_,_=>simp
  | [_],_,_=>simp
  | a::b::L,hd,J =>
   have e1:=J a od;have e2:=J b od;rw[e1,e2]at hd;simp at hd
 | n+1,L,hd,h=>by
  have hq:=QjK (λl:LI=>decide ((n:Int)∈l)) L;have h1:=ze n (L.filter λl=>!decide ((n:Int)∈l)) (hd.filter _) λl hl=>by
   obtain⟨S,E⟩:=LQ.1 hl;have G:(n:Int)∉l:=by simpa using E
   refine⟨(h l S).1,λx hx=>?_⟩;have:=(h l S).2 x hx;have:x≠(n:Int):=λe=>G (e ▸ hx);omega
  have U:∀a∈L,∀b∈L,(n:Int)∈a->(n:Int)∈b->(a.filter λx=>!decide (x=(n:Int)))=(b.filter λx=>!decide (x=(n:Int)))->a=b:=λa T b hb na nb e=>by
   refine zn (h a T).1 (h b hb).1 λx=>?_;by_cases hx:x=(n:Int)
   ·rw[hx];exact⟨λ_=>nb,λ_=>na⟩
   have I:x∈(a.filter λx=>!decide (x=(n:Int)))↔x∈(b.filter λx=>!decide (x=(n:Int))):=by rw[e]
   simpa[Oi,hx]using I
  have S:=ze n ((L.filter λl=>decide ((n:Int)∈l)).map λl=>l.filter λx=>!decide (x=(n:Int))) (by
   unfold List.Nodup;rw[Ma];refine(hd.filter _).imp_of_mem λ{a b} T hb V e=>V ?_;obtain⟨E,G⟩:=LQ.1 T;obtain⟨I,Y⟩:=LQ.1 hb;exact U a E b I (OY G) (OY Y) e) λl hl=>by
   obtain⟨m,hm,rfl⟩:=Ly.1 hl;have E:=h m (LQ.1 hm).1;refine⟨E.1.filter _,λx hx=>?_⟩;obtain⟨G,I⟩:=LQ.1 hx;have:=E.2 x G;have:x≠(n:Int):=by simpa using I
   omega
  rw[Ll]at S;have:2 ^ (n+1)=2 ^ n+2 ^ n:=by rw[OH];omega
  omega
def okV (o un:LI)(only:Bool)(e:Ed):Bool:=!decide (e.2.1∈o) && (!only || decide (e.2.1∈un))
def vcl (a:Qz)(o un:LI)(l:LI)(only:Bool):LI:=cls (okV o un only) a l
def vnx (a:Qz)(o un:LI)(l:LI)(v:Int):LI:=vcl a o un (hop a.ed l v) false
abbrev Dq:=LI×LI×LI
def KK (l:List Dq)(x y:LI):Bool:=l.any λz=>decide (z.1=x/\z.2.1=y)
def dfE (a:Qz)(o un:LI)(x:Dq)(l:List Dq)(v:Int):List Dq :=
 if(vnx a o un x.1 v).length+(vnx a o un x.2.1 v).length > 0/\KK l (vnx a o un x.1 v) (vnx a o un x.2.1 v)=false then l++[(vnx a o un x.1 v,vnx a o un x.2.1 v,x.2.2++[v])]else l
def dfL (a:Qz)(o un:LI)(bad:LI->LI->Bool):Nat->Nat->List Dq->Option (LI)
 | 0,_,_=>none
 | f+1,i,l=>match l[i]? with
  | none=>none
  | some x=>if bad x.1 x.2.1=true then some x.2.2 else dfL a o un bad f (i+1) ((kpt a o).foldl (dfE a o un x) l)
def dff (a:Qz)(o un:LI)(x y:LI)(bad:LI->LI->Bool):Option (LI):=dfL a o un bad (4 ^ a.st.toNat+1) 0 [(x,y,[])]
def QbX (a:Qz)(x y:LI):Bool:=mkd a x && !mkd a y
def rft (a:Qz)(o un:LI)(est:LI)(s:Int):Option (LI):=dff a o un est (vcl a o un [s] false) (QbX a)
abbrev Plc:=Int×LI×LI
def QbU (l:List Plc)(s:Int)(t:LI):Bool:=l.any λz=>decide (z.1=s/\z.2.1=t)
def obN (a:Qz)(o un:LI)(x:Plc)(e:Ed):Plc:=(e.2.2,if e.2.1∈o then vnx a o un x.2.1 e.2.1 else x.2.1,x.2.2++[e.2.1])
def obE (a:Qz)(o un:LI)(x:Plc)(l:List Plc)(e:Ed):List Plc:=if QbU l (obN a o un x e).1 (obN a o un x e).2.1=true then l else l++[obN a o un x e]
def obL (a:Qz)(o un:LI):Nat->Nat->List Plc->Option (LI×LI)
 | 0,_,_=>none
 | f+1,i,l=>match l[i]? with
  | none=>none
  | some x=>match rft a o un x.2.1 x.1 with
   | some t=>some (x.2.2,t)
   | none=>obL a o un f (i+1) ((QQ a.ed x.1).foldl (obE a o un x) l)
def obs (a:Qz)(o un:LI):Option (LI×LI):=if a.st=0 then none else obL a o un (4 ^ a.st.toNat+1) 0 [(0,vcl a o un [0] false,[])]
def psb (a:Qz)(v:Int)(l:LI):Bool:=l.any λs=>(QQ a.ed s).any λe=>decide (e.2.1=v)
def ctd (a:Qz)(o un:LI)(s v:Int):Bool:=decide (v∈o) && (decide (v∈un) && (psb a v (vcl a o un [s] false) && !psb a v (vcl a o un [s] true)))
abbrev Cq:=Int×LI
def csE (x:Cq)(l:List Cq)(e:Ed):List Cq:=if e.2.2∈l.map (·.1) then l else l++[(e.2.2,x.2++[e.2.1])]
def csL (a:Qz)(o un:LI):Nat->Nat->List Cq->Option (LI×Int)
 | 0,_,_=>none
 | f+1,i,l=>match l[i]? with
  | none=>none
  | some x=>match a.al.find? (ctd a o un x.1) with
   | some v=>some (x.2,v)
   | none=>csL a o un f (i+1) ((QQ a.ed x.1).foldl (csE x) l)
def cns (a:Qz)(o un:LI):Option (LI×Int):=if a.st=0 then none else csL a o un (a.st.toNat+1) 0 [(0,[])]
def hld (a:Qz)(un set:LI):Bool:=(obs a set un).isNone && (cns a set un).isNone
def ins (set:LI)(v:Int):LI:=srt 32 (set++[v])
def xtA (a:Qz)(un:LI):LI->LI×LI->LI×LI
 | [],z=>z
 | v::vs,z=>if hld a un z.1=true then z else xtA a un vs (if v∈z.1 then z else(ins z.1 v,z.2++[v]))
def xtD (a:Qz)(un:LI)(set:LI)(v:Int):LI:=if hld a un (set.filter λx=>!decide (x=v))=true then set.filter λx=>!decide (x=v) else set
def Qd9 (a:Qz)(o un:LI):LI:=(xtA a un a.al (kpt a o,[])).2.foldl (xtD a un) (xtA a un a.al (kpt a o,[])).1
section
variable {all:xD}{C:xz}
theorem tf {pre:xt}{G I:Pt}(h:XP P all C (λf w=>(Z8 all f (QT all i)=true/\XO P (QT all i) f w λE w'=>C w'/\XT P all C K G E w') /\
   (Z8 all f (QT all j)=true/\XO P (QT all j) f w λE w'=>C w'/\XT P all C K I E w')) pre f w):XT P all C K (.fk pre i j G I) f w:=h
theorem tp {l:xt}(h:XP P all C K l f w):XT P all C K (.pl l) f w:=h
end
theorem Qcf (es:List Ed)(s v:Int):nxt es s v=match xj es s v with|some u=>u|none=>-1:=by
 induction es with
 | nil=>rfl
 | cons e es ih =>
  rw[nxt,xj];split
  ·rfl
  exact ih
section
variable {w4 w'':O1}{b:Nat}{m q:Bool}{vd:O2}{E D:LI}
end
def grid (g:Nat->Int->Option Ed)(vs:LI)(n:Nat):List Ed:=(oN 0 n).flatMap λj=>vs.filterMap (g j)
theorem Ki (g:Nat->Int->Option Ed)(vs:LI)(n:Nat):grid g vs (n+1)=grid g vs n++vs.filterMap (g n):=by
 unfold grid;rw[Mm,LD];simp
theorem QcF (l m:List Ed)(s v:Int):xj (l++m) s v=match xj l s v with|some u=>some u|none=>xj m s v:=by
 induction l with
 | nil=>rfl
 | cons e l ih =>
  rw[Mu,xj,xj];split
  ·rfl
  exact ih
def qz (g:Nat->Int->Option Ed):Prop:=∀j v e,g j v=some e->e.1=(j:Int)/\e.2.1=v
theorem QcD {g:Nat->Int->Option Ed}(G:qz g)(j:Nat)(v:Int):∀(vs:LI),xj (vs.filterMap (g j)) j v=if v∈vs then(g j v).map (·.2.2) else none
 | []=>by simp[xj]
 | u::vs=>by
  have ih:=QcD G j v vs;rw[Mk];cases E:g j u with
  | none =>
   simp only[];rw[ih];by_cases e:v=u
   ·subst e;simp[E]
   simp[e]
  | some e =>
   have I:=G j u e E;simp only[];rw[xj];by_cases e2:u=v
   ·subst e2;rw[OU I,OU Lm,E];rfl
   rw[OT (λh=>e2 (I.2.symm.D h.2)),ih];simp[Ne.symm e2]
theorem QcC {g:Nat->Int->Option Ed}(E:qz g)(h:j≠i)(v:Int)(vs:LI):xj (vs.filterMap (g j)) i v=none:=by
 refine j0 λe G J=>?_;obtain⟨u,_,I⟩:=MR.1 G;have:=E j u e I;omega
theorem j5 {g:Nat->Int->Option Ed}(E:qz g)(vs:LI)(j:Nat)(v:Int):∀n,xj (grid g vs n) j v=if j<n/\v∈vs then(g j v).map (·.2.2) else none
 | 0=>by simp[grid,xj]
 | n+1=>by
  rw[Ki,QcF,j5 E vs j v n];by_cases e:j=n
  ·subst e;rw[OT oa,QcD E];simp
  rw[QcC E (Ne.symm e)];by_cases h:j<n/\v∈vs
  ·rw[OU h,OU ⟨oa,h.2⟩];cases(g j v).map (·.2.2) <;> rfl
  rw[OT h,OT (λG=>h ⟨oa,G.2⟩)]
theorem yh {g:Nat->Int->Option Ed}{vs:LI}{e:Ed}(h:e∈grid g vs n):∃j v,j<n/\v∈vs/\g j v=some e:=by
 unfold grid at h;obtain⟨j,E,G⟩:=Md.1 h;obtain⟨v,I,J⟩:=MR.1 G;rw[L8]at E;exact⟨j,v,oa,I,J⟩
theorem Qa5 {g:Nat->Int->Option Ed}(E:qz g){vs:LI}(hi:YA vs):∀n,(grid g vs n).Pairwise λx y:Ed=>x.1<y.1\/(x.1=y.1/\x.2.1<y.2.1)
 | 0=>by simp[grid]
 | n+1=>by
  rw[Ki,Mg];refine⟨Qa5 E hi n,Jc (r:=(·<·)) (λx y u v V J S=>?_) hi,λe T e' U=>?_⟩
  ·have G:=E n x u J;have I:=E n y v S;right;omega
  obtain⟨j,v,Y,_,G⟩:=yh T;obtain⟨v',_,I⟩:=MR.1 U;have h3:=E j v e G;have h4:=E n v' e' I;left;omega
theorem QqQ (l:List Qz):∀(acc:LI),(∀a∈l,YA a.al)->YA acc->YA (l.foldl (λacc a=>mrg (· || ·) acc a.al) acc)/\∀x,x∈l.foldl (λacc a=>mrg (· || ·) acc a.al) acc↔x∈acc\/∃a∈l,x∈a.al:=by
 induction l with
 | nil=>intro acc _ h;exact⟨h,λx=>od⟩
 | cons a l ih =>
  intro acc hl h;have G:=hl a Lm;obtain⟨I,J⟩:=ih (mrg (· || ·) acc a.al) (λb hb=>hl b (Lk _ hb)) (QaQ _ _ _ _ (Lp _) h G);rw[LO];refine⟨I,λx=>?_⟩;rw[J x,Up h G];simp only[oK,exists_eq_or_imp];constructor
  ·rintro(⟨E|E,_⟩|E)
   ·exact .inl E
   ·exact .inr (.inl E)
   exact .inr (.inr E)
  rintro(E|E|E)
  ·exact .inl ⟨.inl E,by simp[E]⟩
  ·exact .inl ⟨.inr E,by simp[E]⟩
  exact .inr E
theorem Qbd {l:List Qz}(h:∀a∈l,Q0 a):YA (evs l):=(QqQ l [] (λa E=>(h a E).ali) od).1
theorem zv {l:List Qz}(h:∀a∈l,Q0 a)(x:Int):x∈evs l↔∃a∈l,x∈a.al:=by
 have:=(QqQ l [] (λa E=>(h a E).ali) od).2 x;unfold evs;rw[this];simp
def syF (aa:List Qz)(tup:List (LI))(j:Nat)(v:Int):Option Ed:=(Yo v aa (tup.getD j [])).map λu=>((j:Int),v,(tup.idxOf u:Int))
theorem Qn5 (aa:List Qz)(tup:List (LI)):qz (syF aa tup):=by
 intro j v e h;unfold syF at h;obtain⟨u,_,rfl⟩:=Nb.1 h;exact⟨O,O⟩
theorem Uy {α β:Type}{f g:α->Option β}:∀{l:List α},(∀x∈l,f x=g x)->l.filterMap f=l.filterMap g
 | [],_=>rfl
 | x::l,h=>by rw[Mk,Mk,h x Lm,Uy (λy E=>h y (Lk _ E))]
theorem Qa8 {f:α->Option β}{v:α}{e:β}(h:f v=some e):[v].filterMap f=[e]:=by rw[Mk,h];rfl
theorem Qfu {f:α->Option β}{v:α}(h:f v=none):[v].filterMap f=[]:=by rw[Mk,h];rfl
theorem QhP {tup:List (LI)}{v:Int}(h:Yo v aa (tup.getD j [])=none):syF aa tup j v=none:=by unfold syF;rw[h];rfl
theorem QbH {tup:List (LI)}{v:Int}(h:Yo v aa (tup.getD j [])=some u):syF aa tup j v=some ((j:Int),v,(tup.idxOf u:Int)):=by unfold syF;rw[h];rfl
def Clo (aa:List Qz)(tup:List (LI))(j:Nat)(vs:LI):Prop:=∀v∈vs,∀u,Yo v aa (tup.getD j [])=some u->u∈tup
theorem Y2 {tup r:List (LI)}(h:j<tup.length):(tup++r).getD j []=tup.getD j []:=by simp[oO,Oa h]
theorem QeS {tup r:List (LI)}{vs:LI}(E:j<tup.length)(G:Clo aa tup j vs):vs.filterMap (syF aa (tup++r) j)=vs.filterMap (syF aa tup j):=by
 refine Uy λv I=>?_;unfold syF;rw[Y2 E];cases J:Yo v aa (tup.getD j []) with
 | none=>rfl
 | some u =>
  simp only[OD,Option.some.injEq,Prod.mk.injEq,true_and];rw[L7,OU (G v I u J)]
theorem Clo.pre {tup r:List (LI)}{vs:LI}(G:j<tup.length)(I:Clo aa tup j vs):Clo aa (tup++r) j vs:=by
 intro v J u E;rw[Y2 G]at E;exact LM _ (I v J u E)
theorem Jv {l:List α}{u:α}(h:l.Nodup)(E:u∉l):(l++[u]).Nodup:=by
 rw[Mb];exact⟨h,od,λa G b hb=>by simp only[oF]at hb;subst hb;exact λe=>E (by rw[<-e];exact G)⟩
theorem jr {aa:List Qz}{i:Nat}:∀(vs:LI) (s J:Sy),i<s.tup.length->s.tup.Nodup->UU aa i (JF s i) vs s=some J ->
  ∃r,J.tup=s.tup++r/\J.mk'=s.mk'/\J.ed=s.ed++vs.filterMap (syF aa J.tup i)/\Clo aa J.tup i vs/\J.tup.Nodup
 | [],s,J,_,hd,e=>by cases e;exact⟨[],od,rfl,od,λv hv=>(by cases hv),hd⟩
 | v::vs,s,J,hi,hd,e=>by
  rw[UU]at e;obtain⟨S,E,h2⟩:=MP.1 e;have key:∃V,S.tup=s.tup++V/\S.mk'=s.mk'/\S.ed=s.ed++[v].filterMap (syF aa S.tup i)/\Clo aa S.tup i [v]/\S.tup.Nodup:=by
   unfold syE at E;have eT:JF s i=s.tup.getD i []:=rfl;rw[eT]at E;cases T:Yo v aa (s.tup.getD i []) with
   | none =>
    rw[T]at E;cases E
    refine⟨[],od,rfl,by rw[Qfu (QhP T),Oo],λv' G u I=>?_,hd⟩;simp only[oF]at G;subst G;rw[T]at I;cases I
   | some u =>
    rw[T]at E;simp only[]at E;by_cases I:u∈s.tup
    ·rw[OU I]at E;cases E
     refine⟨[],od,rfl,by rw[Qa8 (QbH T)],λv' G u' U=>?_,hd⟩;simp only[oF]at G;subst G;simp only[]at U ⊢;rw[T]at U;cases U;exact I
    rw[OT I]at E;split at E
    ·cases E
    cases E
    have e2:(s.tup++[u]).getD i []=s.tup.getD i []:=Y2 hi;have e3:(s.tup++[u]).idxOf u=s.tup.length:=by rw[L7,OT I];simp
    refine⟨[u],O,O,?_,λv' G u' U=>?_,Jv hd I⟩
    ·rw[Qa8 (QbH (tup:=s.tup++[u]) (u:=u) (by rw[e2];exact T)),e3]
    simp only[oF]at G;subst G;rw[e2,T]at U;cases U;simp
  obtain⟨V,k1,k2,k3,k4,k5⟩:=key;have Y:i<S.tup.length:=by rw[k1];simp;omega
  have eT:JF S i=JF s i:=by unfold JF;rw[k1];exact Y2 hi
  rw[<-eT]at h2;obtain⟨r2,g1,g2,g3,g4,g5⟩:=jr vs S J Y k5 h2;refine⟨V++r2,by rw[g1,k1,LA],g2.D k2,?_,?_,g5⟩
  ·rw[g3,k3,LA];congr 1;rw[show v::vs=[v]++vs from rfl,List.filterMap_append];congr 1;rw[g1];exact(QeS Y k4).symm
  intro v' G u I;rcases Ln.1 G with rfl|G
  ·have:=k4.pre (r:=r2) Y;rw[<-g1]at this;exact this v' Lm u I
  exact g4 v' G u I
structure SyG (aa:List Qz)(i:Nat)(s:Sy):Prop where
 nd:s.tup.Nodup
 le:i<=s.tup.length
 hd:s.tup.getD 0 []=oG aa.length 0/\0<s.tup.length
 mk2:s.mk'=((oN 0 i).filter λj=>Jy aa (s.tup.getD j [])).map λj:Nat=>(j:Int)
 ed:s.ed=grid (syF aa s.tup) (evs aa) i
 cl:∀j,j<i->Clo aa s.tup j (evs aa)
theorem Y3 {α β:Type}{f g:α->List β}:∀{l:List α},(∀x∈l,f x=g x)->l.flatMap f=l.flatMap g
 | [],_=>rfl
 | x::l,h=>by rw[LK,LK,h x Lm,Y3 (λy E=>h y (Lk _ E))]
theorem SyG.next {s E:Sy}(h:SyG aa i s)(hi:i<s.tup.length)(e:UU aa i (JF s i) (evs aa) (Z7 aa i (JF s i) s)=some E):SyG aa (i+1) E:=by
 have I:(Z7 aa i (JF s i) s).tup=s.tup:=by unfold Z7;split <;> rfl
 have U:(Z7 aa i (JF s i) s).ed=s.ed:=by unfold Z7;split <;> rfl
 have hT:JF (Z7 aa i (JF s i) s) i=JF s i:=by show(Z7 aa i (JF s i) s).tup.getD i []=s.tup.getD i [];rw[I]
 rw[<-hT]at e;obtain⟨r,g1,V,T,Y,g5⟩:=jr (evs aa) _ E (by rw[I];exact hi) (by rw[I];exact h.nd) (by rw[hT]at e ⊢;exact e);rw[I]at g1;rw[U]at T;have pre:∀j,j<=i->E.tup.getD j []=s.tup.getD j []:=λj G=>by rw[g1];exact Y2 oa
 refine⟨g5,by rw[g1];simp;omega,⟨by rw[pre 0 oa];exact h.hd.1,by rw[g1];simp;omega⟩,?_,?_,λj G=>?_⟩
 ·rw[V,Mm,LT,Lv,LU];have e1:((oN 0 i).filter λj=>Jy aa (E.tup.getD j []))=(oN 0 i).filter λj=>Jy aa (s.tup.getD j []):=by
   refine Nx λj G=>?_;rw[L8]at G;rw[pre j oa]
  rw[e1];unfold Z7;by_cases J:Jy aa (JF s i)=true
  ·rw[OU J];have S:Jy aa (E.tup.getD i [])=true:=by rw[pre i (Lp _)];exact J
   simp only[OA,S,if_true,List.filter_nil,oS,OC];rw[h.mk2]
  rw[OT J];have S:Jy aa (E.tup.getD i [])=false:=by rw[pre i (Lp _)];exact eq_false_of_ne_true J
  rw[L5,OT (by rw[S];simp),MJ,h.mk2];simp
 ·rw[T,Ki,h.ed];congr 1;unfold grid;refine Y3 λj G=>?_;rw[L8]at G;rw[g1];exact(QeS oa (h.cl j oa)).symm
 by_cases e2:j=i
 ·subst e2;exact Y
 have:=(h.cl j oa).pre (r:=r) oa;rw[<-g1]at this;exact this
theorem QbG {aa:List Qz}:∀(f i:Nat) (s E:Sy),SyG aa i s->syL aa f i s=some E->∃G,SyG aa G E/\(E.tup.length=G\/G=i+f)
 | 0,i,s,E,h,e=>by cases e;exact⟨i,h,.inr O⟩
 | f+1,i,s,E,h,e=>by
  rw[syL]at e;split at e
  ·rename_i hi;obtain⟨I,J,S⟩:=MP.1 e;obtain⟨G,T,U⟩:=QbG f (i+1) I E (h.next hi J) S;exact⟨G,T,oa⟩
  cases e;exact⟨i,h,.inl (oo h.le)⟩
structure SyP (aa:List Qz)(A:Qz)(Q:List (LI)):Prop where
 al:A.al=evs aa
 st:A.st=(Q.length:Int)
 nd:Q.Nodup
 v:∀t∈Q,Vt aa t
 le:Q.length<=4096
 hd:0<Q.length->Q.getD 0 []=oG aa.length 0
 mk2:A.mr=((oN 0 Q.length).filter λj=>Jy aa (Q.getD j [])).map λj:Nat=>(j:Int)
 ed:A.ed=grid (syF aa Q) (evs aa) Q.length
 cl:∀j,j<Q.length->Clo aa Q j (evs aa)
theorem YQ (J:∀a∈aa,Q0 a){A:Qz}{Q:List (LI)}(h:xo aa=some (A,Q)):SyP aa A Q/\(Q.length=0↔∃a∈aa,a.st=0):=by
 have hok:=zd J h;unfold xo at h;split at h
 ·rename_i G;cases h
  exact⟨⟨O,O,od,od,od,λh=>by simp at h,od,by simp[grid],λj I=>by simp at I⟩,ou G⟩
 rename_i G;obtain⟨s,S,T⟩:=Nb.1 h;have U:SyG aa 0 (zD aa):=⟨by simp[zD],od,⟨by simp[zD],by simp[zD]⟩,by simp[zD],by simp[zD,grid],λj I=>oa⟩;obtain⟨V,E,h4⟩:=QbG 4096 0 (zD aa) s U S;cases T
 have hl:V=s.tup.length:=by
  have h5:=E.le;have Y:=hok.2;simp only[]at Y;omega
 subst hl;refine⟨⟨rfl,O,E.nd,hok.1,hok.2,λ_=>E.hd.1,E.mk2,E.ed,E.cl⟩,?_⟩;have:=E.hd.2;constructor
 ·intro h;have h7:s.tup.length=0:=h;omega
 intro h;exact OW h G
theorem SyP.to {A:Qz}{Q:List (LI)}(h:SyP aa A Q)(E:j<Q.length){v:Int}(G:v∈evs aa)(I:Yo v aa (Q.getD j [])=some u):Q.idxOf u<Q.length/\Q.getD (Q.idxOf u) []=u:=by
 have hl:=Me (h.cl j E v G u I);refine⟨hl,?_⟩;simp[oO,hl]
theorem SyP.okay (G:∀a∈aa,Q0 a){A:Qz}{Q:List (LI)}(h:SyP aa A Q):Q0 A:=by
 have Y:=h.le;refine⟨λe E=>?_,by rw[h.al];exact Qbd G,by rw[h.st];omega,by rw[h.st];omega,λs I=>?_,?_,λe E=>?_,by rw[h.ed];exact Qa5 (Qn5 aa Q) (Qbd G) _⟩
 ·rw[h.al]at E;obtain⟨a,T,hx⟩:=(zv G e).1 E;exact(G a T).al e hx
 ·rw[h.mk2]at I;simp only[Ol,Oi,Oh]at I;obtain⟨i,⟨hi,_⟩,rfl⟩:=I;rw[h.st];omega
 ·rw[h.mk2];unfold YA;rw[Ma];refine List.Pairwise.sublist ML ?_;exact(M5 (s:=0) (n:=Q.length)).imp (λh=>oa)
 rw[h.ed]at E;obtain⟨j,v,U,J,S⟩:=yh E;unfold syF at S;obtain⟨u,V,rfl⟩:=Nb.1 S;have:=(h.to U J V).1;rw[h.st,h.al];exact⟨oe,oe,J,oe,oe⟩
open Go.RowKit
instance:LawfulBEq ByteArray where
 eq_of_beq h:=(MapKept.bytes_beq _ _).1 h;rfl:=(MapKept.bytes_beq _ _).2 O
def chr (s:ByteArray)(i:Nat):Nat:=(s.get! i).toNat
theorem Qpq {s:ByteArray}(h:i<s.size):(s[i]'h).toNat=chr s i:=by
 unfold chr;obtain⟨d⟩:=s;have hd:i<d.size:=h;simp[ByteArray.get!,hd,ByteArray.getElem_eq_getElem_data]
theorem Qg4 {a b:ByteArray}(h:a.data.toList=b.data.toList):a=b:=by
 obtain⟨⟨x⟩⟩:=a;obtain⟨⟨y⟩⟩:=b;have E:x=y:=h;rw[E]
theorem bytes_beq (a b:ByteArray):(a.toList == b.toList)=decide (a=b):=by
 rw[ByteArray.toList_eq,ByteArray.toList_eq];by_cases h:a=b
 ·subst h;simp
 rw[OZ h];have:a.data.toList≠b.data.toList:=λe=>h (Qg4 e);simpa using this
section
variable {t':Nat}{x:O3}
theorem Qih [h:St P t]{s:ByteArray}{k:IntKind}(hx:ev f x=.string s)(G:ev f y=.int k i)(hi:i<s.size):
  (execOp (ev f) ⟨d,.index t x y,ty,pS,af,gd⟩).run P w=.ok (.value (.int .u8 (chr s i))) w:=by
 have E:=run_index_string (P:=P) w t s k i h.u;rw[dif_pos ⟨oa,oa⟩]at E;have e:(s[(i:Int).toNat]'(ou hi)).toNat=chr s i:=Qpq hi;simp only[execOp,hx,G,Sem.run_bind,E,Result.andThen_ok,Sem.run_pure,e]
theorem QdE [h:St P t]{s:ByteArray}(hx:ev f x=.string s):
  (execOp (ev f) ⟨d,.call ⟨.builtin .len,#[x],#[t]⟩,ty,pS,af,gd⟩).run P w=.ok (.value (sS s.size)) w:=Qig h.u hx
theorem Ja {a b:ByteArray}(hx:ev f x=.string a)(E:ev f y=.string b):
  (execOp (ev f) ⟨d,.binOp .eql t x y t',ty,pS,af,gd⟩).run P w=.ok (.value (.bool (decide (a=b)))) w:=by
 have G:(eqGuard .eql t x y (.string a) (.string b)).run P w=.ok () w:=by simp[eqGuard]
 simp only[execOp,hx,E,Sem.run_bind,G,Result.andThen_ok,binOp_string_eql,Sem.run_pure,bytes_beq]
theorem YJ {a b:ByteArray}(hx:ev f x=.string a)(E:ev f y=.string b)(hl:a.size+b.size<=1000000000):
  (execOp (ev f) ⟨d,.binOp .add t x y t',ty,pS,af,gd⟩).run P w=.ok (.value (.string (a++b))) w:=by
 have G:(eqGuard .add t x y (.string a) (.string b)).run P w=.ok () w:=by simp[eqGuard]
 have I:¬(((a.size+b.size:Nat):Int) > IntKind.i64.max):=by
  rw[show IntKind.i64.max=9223372036854775807 from rfl];omega
 simp only[execOp,hx,E,Sem.run_bind,G,Result.andThen_ok,binOp_string_add,Op.stringOp,OT I,Sem.run_pure]
end
section
variable {P:O4}{ops:xD}{K:xx}{f:Fr}{w:O1}{d:xE}{ty:Nat}{pS:String}{af:xC}{gd:xq}{l:xD}
 {t e sz bys:Nat} {z:O2} {x y1 y2:O3} {L:LN} {v:O2} {n:Nat} {cs:LV} {H:xA} {k k':IntKind} {hi:Nat}
theorem Qid [h:Sl P t e sz bys z](hA:Zt L H v n sz cs)(hx:ev f x=v)(G:ev f y1=.int k hi)(I:ev f y2=.int k' hi)(U:hi<=n):
  ∃v',Zt L H v' hi sz (cs.take (hi*sz))/\∀w,(execOp (ev f) ⟨d,.slice t x none (some y1) (some y2),ty,pS,af,gd⟩).run P w=.ok (.value v') w:=by
 obtain⟨ii,J,_,V,_⟩:=Sl.info h;rcases hA.2.2 with⟨rfl,rfl⟩|⟨a,cap,rfl,Y,S⟩
 ·have T:hi=0:=oa
  subst T;refine⟨nS,?_,λw=>?_⟩
  ·rw[Nat.zero_mul,NB];exact Zt.nil _ _ _
  simp[execOp,hx,G,I,Instr.sliceAt,Instr.slice,Instr.sliceBounds,Instr.sliceBound,asIntOf,run_underlying h.u,sizeOf,typeInfo,J]
 refine⟨.slice (some a) hi hi,⟨?_,oo hA.2.1,.inr ⟨a,hi,O,Lp _,λu E=>S.out u (L3 E),λu E=>S.lt u (L3 E),λj u E=>?_⟩⟩,λw=>?_⟩
 ·rw[LC,hA.1,MZ (MQ _ U)]
 ·rw[L2]at E;split at E
  ·exact S.cell j u E
  cases E
 by_cases T:hi=0
 ·subst T;simp[execOp,hx,G,I,Instr.sliceAt,Instr.slice,Instr.sliceBounds,Instr.sliceBound,asIntOf,run_underlying h.u,sizeOf,typeInfo,J]
 simp[execOp,hx,G,I,Instr.sliceAt,Instr.slice,Instr.sliceBounds,Instr.sliceBound,asIntOf,run_underlying h.u,sizeOf,typeInfo,J,Addr.add];intro h9;omega
end
section
variable {l:xD}{o:Oper}{C:xz}{pl:xt}
theorem xB {b:Bool}(E:(execOp (ev f) o).run P w=.ok (.value (.bool b)) w)(I:b=true->XL P ops K l (QP f o.dst (.bool true)) w)(J:b=false->XL P ops K l (QP f o.dst (.bool false)) w)
  (G:Z8 ops f o=true:=by rfl):XL P ops K (o::l) f w:=by
 cases hb:b with
 | true=>rw[hb]at E;exact x E (I hb) G
 | false=>rw[hb]at E;exact x E (J hb) G
theorem pB {b:Bool}(E:∀w',(execOp (ev f) (QT ops i)).run P w'=.ok (.value (.bool b)) w')(I:b=true->XP P ops C K pl (QP f (QT ops i).dst (.bool true)) w)(J:b=false->XP P ops C K pl (QP f (QT ops i).dst (.bool false)) w)
  (G:Z8 ops f (QT ops i)=true:=by rfl):XP P ops C K ((i,true)::pl) f w:=by
 cases hb:b with
 | true=>rw[hb]at E;exact p E (I hb) G
 | false=>rw[hb]at E;exact p E (J hb) G
theorem Qeb {G:Prop}(b:Bool)(E:b=true->G)(I:b=false->G):G:=by cases h:b with|true=>exact E h|false=>exact I h
theorem bT {q:Prop}[Decidable q](h:q):true=decide q:=(OX h).symm
theorem bF {q:Prop}[Decidable q](h:¬q):false=decide q:=(OZ h).symm
theorem bD {q r:Prop}[Decidable q][Decidable r](h:q↔r):decide q=decide r:=decide_eq_decide.2 h
end
section
variable {x:O3}
theorem zQ {q:Prop}[Decidable q](hx:ev f x=.bool (decide q)):(execOp (ev f) ⟨d,.unOp .not t x,ty,pS,af,gd⟩).run P w=.ok (.value (.bool (decide (¬q)))) w:=by
 rw[Zl hx];simp
end
structure KN where
 nm:ByteArray
 co:Bool
 ob:Bool
 fo:Bool
 fl:Int
structure X5 where
 nm:ByteArray
 a:Qz
structure Exc where
 nm:ByteArray
 ls:xw
structure xL where
 nm:ByteArray
 ts:xw
 bd:Int
structure Z2 where
 ev:List KN
 co:List X5
 rq:List X5
 ex:List Exc
 cs:List xL
def VB (n:Nat):LI:=(oJ n).map λi:Nat=>(i:Int)
def nmP (i c:Nat):Prop:=((97<=c/\c<=122)\/(65<=c/\c<=90)\/c=95)\/(i≠0/\48<=c/\c<=57)
instance (i c:Nat):Decidable (nmP i c):=by unfold nmP;infer_instance
def nmQ (s:ByteArray)(i:Nat):Bool:=decide (nmP i (chr s i))
def Xl (s:ByteArray):Bool:=(oN 0 s.size).all (nmQ s) && decide (0<s.size/\s.size<=32)
def X7 (seen:List ByteArray)(e:KN):Int:=if Xl e.nm=false then 7 else if e.nm∈seen then 8 else if e.fl<0\/4<e.fl then 2 else if e.fl≠0/\(e.co || e.ob)=true then 13 else 0
def qG:List ByteArray->List KN->Int
 | _,[]=>0
 | seen,e::l=>if X7 seen e≠0 then X7 seen e else qG (seen++[e.nm]) l
def XK (l:List KN):Int:=if 32<l.length then 3 else qG [] l
def ixs {α:Type}(q:α->Bool):Nat->List α->LI
 | _,[]=>[]
 | i,e::l=>if q e=true then(i:Int)::ixs q (i+1) l else ixs q (i+1) l
def unc (l:List KN):LI:=ixs (λe=>!e.co) 0 l
def XB (sz:LI):Option Int->List (Int×Int)->Int
 | _,[]=>0
 | pr,l::ls=>if l.1<0\/(sz.length:Int)<=l.1 then 2 else if z8 pr l.1=true then 5 else if l.2<0\/O6 sz l.1.toNat<=l.2 then 2 else XB sz (some l.1) ls
def JS (sz:LI)(ls:xw):Int:=if ls.length=0 then 12 else XB sz none ls
def grt (n:Int):Bool:=decide (n < -65536) || decide (65536<n)
def JR (sz:LI):Option Int->List (Int×Int)->Int
 | _,[]=>0
 | pr,l::ls=>if l.1<0\/(sz.length:Int)<=l.1 then 2 else if z8 pr l.1=true then 5 else if l.2=0\/grt l.2=true then 2 else JR sz (some l.1) ls
def XC (sz:LI)(k:xL):Int:=if k.ts.length=0 then 12 else if JR sz none k.ts≠0 then JR sz none k.ts else if grt k.bd=true then 2 else 0
def Vf (seen:List ByteArray)(s:ByteArray):Int:=if Xl s=false then 7 else if s∈seen then 8 else 0
def YM (sz:LI):List ByteArray->List Exc->Int
 | _,[]=>0
 | seen,x::l=>if Vf seen x.nm≠0 then Vf seen x.nm else if JS sz x.ls≠0 then JS sz x.ls else YM sz (seen++[x.nm]) l
def Xm (sz:LI):List ByteArray->List xL->Int
 | _,[]=>0
 | seen,x::l=>if Vf seen x.nm≠0 then Vf seen x.nm else if XC sz x≠0 then XC sz x else Xm sz (seen++[x.nm]) l
def X8 (n:Int):Bool:=decide (n<1) || decide (4096<n)
def Y4 (sz:LI)(ex:List Exc)(cs:List xL):Int:=if 8<sz.length then 3 else if sz.any X8=true then 2 else if 32<ex.length\/32<cs.length then 3 else if YM sz [] ex≠0 then YM sz [] ex else Xm sz [] cs
def mns (a b:LI):LI:=mrg (λp q=>p && !q) a b
def Kh (a:Qz):Bool:=decide (X4 a=0) && decide ((Xw a).st=a.st/\(Xw a).al=a.al/\(Xw a).mr=a.mr/\(Xw a).ed=a.ed)
def Yx (nev:Nat)(amg:LI)(seen:List ByteArray)(x:X5):Int :=
 if Xl x.nm=false then 7 else if x.nm∈seen then 8 else if X4 x.a≠0 then X4 x.a else if Kh x.a=false then 6 else if x.a.st=0 then 12 else
 if(x.a.al.any λe=>decide ((nev:Int)<=e))=true then 2 else if(mns x.a.al amg).length≠0 then 9 else 0
def Yy (nev:Nat)(al:LI):List ByteArray->LI->List X5->Int×List ByteArray×LI
 | s,u,[]=>(0,s,u)
 | s,u,x::l=>if Yx nev al s x≠0 then(Yx nev al s x,s,u) else Yy nev al (s++[x.nm]) (mrg (· || ·) u x.a.al) l
def Kk (nev:Nat)(u:LI):List ByteArray->List X5->Int
 | _,[]=>0
 | s,x::l=>if Yx nev u s x≠0 then Yx nev u s x else Kk nev u (s++[x.nm]) l
def szs (l:List X5):LI:=l.map (·.a.st)
def O7 (l:List X5):List Qz:=l.map (·.a)
def Z0 (c:Z2):Int :=
 if XK c.ev≠0 then XK c.ev else if c.co.length=0 then 12 else if 8<c.co.length\/12<c.co.length+c.rq.length then 3 else
 if(Yy c.ev.length (VB c.ev.length) [] [] c.co).1≠0 then(Yy c.ev.length (VB c.ev.length) [] [] c.co).1 else
 if Kk c.ev.length (Yy c.ev.length (VB c.ev.length) [] [] c.co).2.2 (Yy c.ev.length (VB c.ev.length) [] [] c.co).2.1 c.rq≠0 then Kk c.ev.length (Yy c.ev.length (VB c.ev.length) [] [] c.co).2.2 (Yy c.ev.length (VB c.ev.length) [] [] c.co).2.1 c.rq else
 Y4 (szs c.co) c.ex c.cs
def VI (t:LI)(x:Exc):Bool:=x.ls.all λl=>decide (t.getD l.1.toNat 0=l.2)
def Qqb (t:LI)(k:xL):Int:=k.ts.foldl (λs p=>s+p.2*t.getD p.1.toNat 0) 0
def US (t:LI)(k:xL):Bool:=decide (k.bd<Qqb t k)
def vio (c:Z2)(t:LI):Option (Int×Int):=
 if 0<=fix (VI t) 0 c.ex then some (1,fix (VI t) 0 c.ex) else if 0<=fix (US t) 0 c.cs then some (2,fix (US t) 0 c.cs) else none
def rfr (v:Int):Nat->List X5->LI->Int
 | i,x::l,s::ss=>if v∈x.a.al/\(xj x.a.ed s v).isSome=false then(i:Int) else rfr v (i+1) l ss
 | _,_,_=>-1
structure Rsn where
 st:Int
 kd:Int
 ix:Int
 ev:Int
def rfd (c:Z2)(rs:LI):LI->Option (Int×Int)
 | []=>none
 | v::l=>if 0<=rfr v 0 c.rq rs/\(c.ev.getD v.toNat ⟨.empty,false,false,false,0⟩).co=false then some (rfr v 0 c.rq rs,v) else rfd c rs l
def QgQ (a:Qz)(s:Int):LI:=(QQ a.ed s).map (·.2.1)
def rsn (c:Z2)(pl:Qz)(plc:Int)(i:Nat)(t:LI):Option Rsn :=
 match vio c (t.take c.co.length) with
 | some (k,j)=>some ⟨i,k,j,-1⟩
 | none=>match rfd c (t.drop c.co.length) (QgQ pl plc) with
  | some (j,v)=>some ⟨i,3,j,v⟩
  | none=>none
structure Spc where
 a:Qz
 co:List (LI)
 rq:List (LI)
 pl:LI
 fb:List Rsn
def plx (ps:List (LI))(t:LI):Int:=if t∈ps then(ps.idxOf t:Int) else 0
def Qn9 (c:Z2)(pl:Qz)(ps:List (LI))(s:Spc)(p:LI×Nat):Spc :=
 ⟨s.a,s.co++[p.1.take c.co.length],s.rq++[p.1.drop c.co.length],s.pl++[plx ps (p.1.take c.co.length)],
  match rsn c pl (plx ps (p.1.take c.co.length)) p.2 p.1 with|some r=>s.fb++[r]|none=>s.fb⟩
def YN (c:Z2):Int:=if Z0 c≠0 then Z0 c else if KR (O7 c.co)≠0 then KR (O7 c.co) else match xo (O7 c.co) with
 | none=>3
 | some _=>if KR (O7 c.co++O7 c.rq)≠0 then KR (O7 c.co++O7 c.rq) else match xo (O7 c.co++O7 c.rq) with
  | none=>3
  | some _=>0
def JZ (l:List Qz):Qz:=match xo l with|none=>⟨[],0,[],[]⟩|some z=>z.1
def syQ (l:List Qz):List (LI):=match xo l with|none=>[]|some z=>z.2
def spc (c:Z2):Spc:=(syQ (O7 c.co++O7 c.rq)).zipIdx.foldl (Qn9 c (JZ (O7 c.co)) (syQ (O7 c.co))) ⟨JZ (O7 c.co++O7 c.rq),[],[],[],[]⟩
theorem QdD [h:Bk P t]{x:O3}{a b:Bool}(hx:ev f x=.bool a)(G:ev f y=.bool b):
  (execOp (ev f) ⟨d,.binOp .neq t x y E,ty,pS,af,gd⟩).run P w=.ok (.value (.bool (!(a == b)))) w:=by
 have I:(eqGuard .neq t x y (.bool a) (.bool b)).run P w=.ok () w:=by simp[eqGuard]
 simp[execOp,hx,G,I,run_neq_bool (P:=P) (w:=w) t a b h.u]
inductive Pu where
 | pl (l:xt)
 | f2 (pre:xt) (i j:Nat) (t1 t2:Pu)
 | f3 (pre:xt) (i j k:Nat) (t1 t2 t3:Pu)
def Pu.len:Pu->Nat
 | .pl l=>l.length
 | .f2 pre _ _ t1 _=>pre.length+(1+t1.len)
 | .f3 pre _ _ _ t1 _ _=>pre.length+(1+t1.len)
def QaC (all:Array Oper):Pu->Array Bool->Bool
 | .pl l,ls=>Xk all l ls
 | .f2 pre i j t1 t2,ls=>Jb all pre ls && Region.ready .any all (ZS pre ls) == [i,j] && t1.len == t2.len && QaC all t1 ((ZS pre ls).setIfInBounds i true) && QaC all t2 ((ZS pre ls).setIfInBounds j true)
 | .f3 pre i j k t1 t2 t3,ls=>Jb all pre ls && Region.ready .any all (ZS pre ls) == [i,j,k] && t1.len == t2.len && t1.len == t3.len && QaC all t1 ((ZS pre ls).setIfInBounds i true) && QaC all t2 ((ZS pre ls).setIfInBounds j true) && QaC all t3 ((ZS pre ls).setIfInBounds k true)
def Qqi (all:xD)(t:Pu):Bool:=Region.noSelect all.toArray && t.len == all.length && QaC all.toArray t (oP all.length false)
def XE (P:O4)(all:xD)(C:xz)(i:Nat)(N:xx)(f:Fr)(w:O1):Prop:=Z8 all f (QT all i)=true/\XO P (QT all i) f w λE w'=>C w'/\N E w'
def XU (P:O4)(all:xD)(C:xz)(K:xx):Pu->Fr->O1->Prop
 | .pl l=>XP P all C K l
 | .f2 pre i j t1 t2=>XP P all C (λf w=>XE P all C i (XU P all C K t1) f w/\XE P all C j (XU P all C K t2) f w) pre
 | .f3 pre i j k t1 t2 t3=>XP P all C (λf w=>XE P all C i (XU P all C K t1) f w/\XE P all C j (XU P all C K t2) f w/\XE P all C k (XU P all C K t3) f w) pre
section
variable {all:xD}{C:xz}{B:xx}
theorem Kn (E:Region.noSelect all.toArray=true):∀(t:Pu) (ls:Array Bool) (f:Fr) (w:O1),ls.size=all.length->C w->QaC all.toArray t ls=true->XU P all C K t f w->XA P all C K t.len ls f w
 | .pl l,ls,f,w,U,hC,G,h=>Yq E l ls f w U (.inl hC) G h
 | .f2 pre i j t1 t2,ls,f,w,U,hC,G,h=>by
  simp only[QaC,oI,beq_iff_eq]at G;obtain⟨⟨⟨⟨Y,I⟩,hl⟩,h1⟩,h2⟩:=G;rw[Pu.len];refine YG (B:=λf w=>XE P all C i (XU P all C K t1) f w/\XE P all C j (XU P all C K t2) f w) E pre ls f w hC Y (λf J=>?_) h;have S:∀k,((ZS pre ls).setIfInBounds k true).size=all.length:=λk=>by simp[YK,U]
  rw[MV 1];refine JU (λh0=>(by rw[h0]at I;cases I)) ?_;rw[I];intro k V o T;simp only[oK,oH,or_false]at V;rcases V with rfl|rfl
  ·have:=J.1;unfold XE at this;rw[ZJ T]at this;rw[this.1,cond_true];exact this.2.S λv w' hx=>⟨.inr (.inr hx.1),Kn E t1 _ _ _ (S _) hx.1 h1 hx.2⟩
  have:=J.2;unfold XE at this;rw[ZJ T]at this;rw[this.1,cond_true,hl];exact this.2.S λv w' hx=>⟨.inr (.inr hx.1),Kn E t2 _ _ _ (S _) hx.1 h2 hx.2⟩
 | .f3 pre i j k t1 t2 t3,ls,f,w,U,hC,G,h=>by
  simp only[QaC,oI,beq_iff_eq]at G;obtain⟨⟨⟨⟨⟨⟨Y,I⟩,hl⟩,ha⟩,h1⟩,h2⟩,h3⟩:=G;rw[Pu.len];refine YG (B:=λf w=>XE P all C i (XU P all C K t1) f w/\XE P all C j (XU P all C K t2) f w/\XE P all C k (XU P all C K t3) f w) E pre ls f w hC Y (λf J=>?_) h;have S:∀k,((ZS pre ls).setIfInBounds k true).size=all.length:=λk=>by simp[YK,U]
  rw[MV 1];refine JU (λh0=>(by rw[h0]at I;cases I)) ?_;rw[I];intro q V o T;simp only[oK,oH,or_false]at V;rcases V with rfl|rfl|rfl
  ·have:=J.1;unfold XE at this;rw[ZJ T]at this;rw[this.1,cond_true];exact this.2.S λv w' hx=>⟨.inr (.inr hx.1),Kn E t1 _ _ _ (S _) hx.1 h1 hx.2⟩
  ·have:=J.2.1;unfold XE at this;rw[ZJ T]at this;rw[this.1,cond_true,hl];exact this.2.S λv w' hx=>⟨.inr (.inr hx.1),Kn E t2 _ _ _ (S _) hx.1 h2 hx.2⟩
  have:=J.2.2;unfold XE at this;rw[ZJ T]at this;rw[this.1,cond_true,ha];exact this.2.S λv w' hx=>⟨.inr (.inr hx.1),Kn E t3 _ _ _ (S _) hx.1 h3 hx.2⟩
theorem Qf0 {Q:Exit->Fr->O1->Prop}(C:xz)(t:Pu)(I:P.follows .mixedOrders=true)(J:Xu n all=true)(E:Qqi all t=true)
  (hC:C { w with drawn:=w.drawn+1 }) (h:XU P all C (λf w=>Q .normal f w) t f { w with drawn:=w.drawn+1 }):W P n (.region id all.toArray true) Q f w:=by
 simp only[Qqi,oI,beq_iff_eq]at E;obtain⟨⟨S,hl⟩,E⟩:=E;refine JB C I J ?_;have G:=Kn S t _ _ _ od hC E h;rw[hl]at G;exact G
theorem uP {l:xt}(h:XP P all C K l f w):XU P all C K (.pl l) f w:=h
theorem u2 {pre:xt}{E G:Pu}(h:XP P all C (λf w=>XE P all C i (XU P all C K E) f w/\XE P all C j (XU P all C K G) f w) pre f w):XU P all C K (.f2 pre i j E G) f w:=h
theorem u3 {pre:xt}{k:Nat}{E G I:Pu}(h:XP P all C (λf w=>XE P all C i (XU P all C K E) f w/\XE P all C j (XU P all C K G) f w/\XE P all C k (XU P all C K I) f w) pre f w):XU P all C K (.f3 pre i j k E G I) f w:=h
theorem ue {N:xx}(h:XO P (QT all i) f w λE w'=>C w'/\N E w')(G:Z8 all f (QT all i)=true:=by rfl):XE P all C i N f w:=⟨G,h⟩
end
attribute [irreducible] XU XE
open Go.RowKit
abbrev fen (ro:xE):Fence:={ Fence.wide with round:=ro }
def coll (ds:LN):List Deferred:=ds.map λD=>{ target:=.collected D,args:=#[] }
structure Xf (n:Nat)(ds:LN)(a:Act)(f:Fr):Prop where
 size:a.tmps.size=n
 defers:a.defers=coll ds
 get:∀t,a.tmps.getD t undef=f t
theorem Xf.rel {a:Act}(h:Xf n ds a f):Rel n { a with defers:=[] } f:=⟨h.size,O,h.get⟩
theorem Xf.eval {n:Nat}{ds:LN}{a:Act}{f:Fr}(h:Xf n ds a f):a.eval=ev f:=by
 have:=h.rel.eval;rw[<-this];funext x;cases x <;> rfl
theorem Xf.put {n:Nat}{ds:LN}{a:Act}{f:Fr}(h:Xf n ds a f){dst:xE}(hd:∀d,dst=some d->d<n)(v:O2):Xf n ds (a.put dst v) (QP f dst v):=by
 have:=h.rel.put hd v;cases dst with
 | none=>exact h
 | some d=>exact⟨this.size,h.defers,this.get⟩
def X9:Code->Nat->Bool
 | .region _ ops _,t=>Yn ops.toList t
 | .seq a b,t=>X9 a t || X9 b t
 | .cond _ a b,t=>X9 a t || X9 b t
 | .block _ a,t=>X9 a t
 | .loop a,t=>X9 a t
 | .skip,_| .exit _,_| .label _,_| .goto _,_| .ret,_| .rangeFunc ..,_=>false
 | _,_=>true
def wrG (D:xu):Code->Bool
 | .region _ ops _=>QeM D ops.toList
 | .seq a b=>wrG D a && wrG D b
 | .cond _ a b=>wrG D a && wrG D b
 | .block _ a=>wrG D a
 | .loop a=>wrG D a
 | .skip| .exit _| .label _| .goto _| .ret| .rangeFunc ..=>true
 | _=>false
theorem JK {D:xu}{t:Nat}(E:J0 D t=false):∀c:Code,wrG D c=true->X9 c t=false
 | .region _ ops _,h=>jk h E
 | .seq a b,h=>by simp only[wrG,oI]at h;simp[X9,JK E a h.1,JK E b h.2]
 | .cond _ a b,h=>by simp only[wrG,oI]at h;simp[X9,JK E a h.1,JK E b h.2]
 | .block _ a,h=>JK E a (by simpa[wrG]using h)
 | .loop a,h=>JK E a (by simpa[wrG]using h)
 | .skip,_=>rfl
 | .exit _,_=>rfl
 | .label _,_=>rfl
 | .goto _,_=>rfl
 | .ret,_=>rfl
 | .rangeFunc ..,_=>rfl
 | .scope _,h=>by simp[wrG]at h
 | .refuse _,h=>by simp[wrG]at h
def WG (ro:xE)(m:Nat)(P:O4)(n:Nat)(c:Code)(Q:Exit->LN->Fr->O1->Prop)(ds:LN)(f:Fr)(w:O1):Prop :=
 ∀a,Xf n ds a f->c.wpIn (fen ro) m P (λe E w'=>∃ds' f',Xf n ds' E f'/\(∀t,X9 c t=false->f' t=f t)/\Q e ds' f' w') a w
def Qds (K:LN->Fr->O1->Prop)(Q:Exit->LN->Fr->O1->Prop):Exit->LN->Fr->O1->Prop
 | .normal,ds,f,w=>K ds f w
 | e,ds,f,w=>Q e ds f w
def QqZ (id:Nat)(Q:Exit->LN->Fr->O1->Prop):Exit->LN->Fr->O1->Prop
 | .exit i,ds,f,w=>bif OR i id then Q .normal ds f w else Q (.exit i) ds f w
 | e,ds,f,w=>Q e ds f w
section
variable {ro:xE}{Q:Exit->LN->Fr->O1->Prop}
theorem WG.S {c:Code}{Q':Exit->LN->Fr->O1->Prop}(h:WG ro m P n c Q ds f w)(E:∀e ds f w,Q e ds f w->Q' e ds f w):WG ro m P n c Q' ds f w :=
 λa G=>wpIn_mono (h a G) λ_ _ _ ⟨I,J,S,T,U⟩=>⟨I,J,S,T,E _ _ _ _ U⟩
theorem WG.keeps {c:Code}(h:WG ro m P n c Q ds f w):WG ro m P n c (λe G E w'=>(∀t,X9 c t=false->E t=f t)/\Q e G E w') ds f w :=
 λa J=>wpIn_mono (h a J) λ_ _ _ ⟨G,E,S,I,T⟩=>⟨G,E,S,I,I,T⟩
theorem Yb (h:Q .normal ds f w):WG ro m P n .skip Q ds f w:=λ_ E=>wpIn_skip ⟨ds,f,E,λ_ _=>O,h⟩
theorem JD (h:Q (.exit i) ds f w):WG ro m P n (.exit i) Q ds f w:=λ_ E=>wpIn_exit ⟨ds,f,E,λ_ _=>O,h⟩
theorem JW (h:Q .ret ds f w):WG ro m P n .ret Q ds f w:=λ_ E=>wpIn_ret ⟨ds,f,E,λ_ _=>O,h⟩
theorem QS {x y:Code}(h:WG ro m P n x (Qds (λds f w=>WG ro m P n y Q ds f w) Q) ds f w):WG ro m P n (.seq x y) Q ds f w:=by
 intro a T;refine wpIn_seq (wpIn_mono (h a T) ?_);rintro e U w' ⟨S,E,G,V,I⟩;have k1:∀t,X9 (.seq x y) t=false->E t=f t:=λt J=>V t (by simp only[X9,oY]at J;exact J.1);cases e with
 | normal =>
  refine wpIn_mono (I U G) λ_ _ _ ⟨Y,hc,g1,g2,g3⟩=>⟨Y,hc,g1,λt J=>(g2 t ?_).D (k1 t J),g3⟩;simp only[X9,oY]at J;exact J.2
 | exit id=>exact⟨S,E,G,k1,I⟩
 | goto l=>exact⟨S,E,G,k1,I⟩
 | ret=>exact⟨S,E,G,k1,I⟩
 | panic ch=>exact⟨S,E,G,k1,I⟩
 | outgrown=>exact⟨S,E,G,k1,I⟩
theorem Qf6 {x y:Code}(D:xu)(S:α->List (Nat×O2))(I:α->LN->O1->Prop)(hD:wrG D x=true)
  (U:WG ro m P n x (Qds (λE J w'=>∃z,Y7 J (S z)/\I z E w') Q) ds f w)
  (V:∀z g E w',I z E w'->WG ro m P n y Q E (VJ (S z) (mix D f g)) w'):WG ro m P n (.seq x y) Q ds f w:=by
 refine QS (U.keeps.S ?_);rintro e E J w' ⟨Y,G⟩;cases e with
 | normal =>
  obtain⟨z,hs,hi⟩:=G;have T:=V z J E w' hi;rw[K5 (λt ht=>Y t (JK ht x hD)),XD hs]at T;exact T
 | exit id=>exact G
 | goto l=>exact G
 | ret=>exact G
 | panic ch=>exact G
 | outgrown=>exact G
theorem KH {c:O3}{x y:Code}{t:Bool}(I:ev f c=.bool t)(E:t=true->WG ro m P n x Q ds f w)(J:t=false->WG ro m P n y Q ds f w):
  WG ro m P n (.cond c x y) Q ds f w:=by
 intro a G;have S:a.eval c=.bool t:=by rw[G.eval];exact I
 refine wpIn_cond_split S (λe=>wpIn_mono (E e a G) ?_) (λe=>wpIn_mono (J e a G) ?_) <;>
  (rintro e a' w' ⟨T,U,V,Y,h3⟩
   refine⟨T,U,V,λt E=>Y t ?_,h3⟩;simp only[X9,oY]at E
   first|exact E.1|exact E.2)
theorem Qnu {c:O3}{x y:Code}{p:Prop}[Decidable p](E:ev f c=.bool (decide p))(G:p->WG ro m P n x Q ds f w)(I:¬p->WG ro m P n y Q ds f w):
  WG ro m P n (.cond c x y) Q ds f w :=
 KH E (λe=>G (OY e)) (λe=>I (O0 e))
theorem UO {c:O3}{x y:Code}{p:Prop}[Decidable p](E:ev f c=.bool (decide p))(G:¬p->WG ro m P n y Q ds f w)(I:p->WG ro m P n x Q ds f w):
  WG ro m P n (.cond c x y) Q ds f w:=Qnu E I G
theorem yT {c:O3}{x y:Code}(E:ev f c=.bool true)(h:WG ro m P n x Q ds f w):WG ro m P n (.cond c x y) Q ds f w:=KH E (λ_=>h) (λe=>by cases e)
theorem JX {c:O3}{x y:Code}(E:ev f c=.bool false)(h:WG ro m P n y Q ds f w):WG ro m P n (.cond c x y) Q ds f w:=KH E (λe=>by cases e) (λ_=>h)
theorem ZO {c:Code}(h:WG ro m P n c (QqZ id Q) ds f w):WG ro m P n (.block id c) Q ds f w:=by
 intro a S;refine wpIn_block (wpIn_mono (h a S) ?_);rintro e V w' ⟨I,G,J,T,E⟩;have k1:∀t,X9 (.block id c) t=false->G t=f t:=λt U=>T t (by simpa[X9]using U);cases e with
 | exit i =>
  simp only[Exit.inBlock];simp only[QqZ]at E;by_cases hi:i=id
  ·subst hi;simp only[Nat.beq_refl,cond_true]at E;simp only[if_true];exact⟨I,G,J,k1,E⟩
  have hb:OR i id=false:=by
   cases e:OR i id with
   | false=>rfl
   | true=>exact OW (Nat.eq_of_beq_eq_true e) hi
  rw[hb]at E;rw[OT hi];exact⟨I,G,J,k1,E⟩
 | normal=>exact⟨I,G,J,k1,E⟩
 | goto l=>exact⟨I,G,J,k1,E⟩
 | ret=>exact⟨I,G,J,k1,E⟩
 | panic ch=>exact⟨I,G,J,k1,E⟩
 | outgrown=>exact⟨I,G,J,k1,E⟩
end
def Qfg (l:xD):Bool:=l.all λo=>match o.op with| .defer _=>false|_=>true
theorem zY {l:xD}(h:Qfg l=true):∀o∈l,∀c,o.op≠.defer c:=λo E c e=>by
 have:=Mc.1 h o E;rw[e]at this;cases this
section
variable {ro:xE}
theorem QfX {o:Oper}{a:Act}{K':Act->O1->Prop}{Q:Exit->Act->O1->Prop}(h:Xf n ds a f)(G:∀c,o.op≠.defer c)
  (hK:∀v w',K (QP f o.dst v) w'->K' (a.put o.dst v) w') (hx:XO P o f w K):o.wpIn (fen ro) m P a w K' Q:=by
 unfold XO at hx;refine⟨λ_ _=>trivial,?_⟩;have e:Oper.semAt (fen ro).round a.eval o=execOp (ev f) o:=by
  rw[h.eval];cases ro with
  | none=>rfl
  | some l=>exact Oper.semAt_some l _ _ G
 rw[e];generalize (execOp (ev f) o).run P w=r at hx;cases r with
 | ok nx w' =>
  cases nx <;> simp only[upF]at hx <;> simp only[Oper.uponIn]
  case value v=>exact hK v w' hx
  case skip=>exact hK _ w' hx
  case enter g args =>
   refine⟨λh=>by simp[Fence.wide]at h,?_⟩;refine(callsIn_wide (n:=m - 1)).2 (Calls.mono hx λe I E=>?_);cases e with
   | returned v=>exact hK v I E
   | panicked c=>exact E.elim
   | outgrown=>exact E.elim
 | halt x w'=>exact hx.elim
theorem VH {l:xD}{a:Act}(h:Xf n ds a f)(E:∀o∈l,∀d,o.dst=some d->d<n)(o:Oper):Region.wanted o (yielded l.toArray a.tmps)=Z8 l f o:=UQ h.rel E o
theorem QfY {Q:Exit->LN->Fr->O1->Prop}{all:xD}(G:∀o∈all,∀d,o.dst=some d->d<n)(hd:∀o∈all,∀c,o.op≠.defer c)(f0:Fr):
  ∀(l:xD) (k:Nat) (a:Act) (f:Fr) (w:O1),(∀j,l[j]?=all[k+j]?)->Xf n ds a f->(∀t,Yn all t=false->f t=f0 t) ->
   XL P all (λf w=>Q .normal ds f w) l f w ->
   wpOpsIn (fen ro) m P all.toArray (λe V w'=>∃ds' f',Xf n ds' V f'/\(∀t,Yn all t=false->f' t=f0 t)/\Q e ds' f' w') (oN k l.length) a w
 | [],_,a,f,w,_,E,J,h=>⟨ds,f,E,J,by unfold XL at h;exact h⟩
 | o::l,k,a,f,w,hl,E,J,h=>by
  have S:all[k]?=some o:=by simpa using(hl 0).symm
  have I:o∈all:=Ml S;have ih:=λa f w=>QfY (Q:=Q) G hd f0 l (k+1) a f w (λj=>by have:=hl (j+1);simpa[Nat.add_assoc,Nat.add_comm 1 j]using this);have next:∀v,(∀t,Yn all t=false->QP f o.dst v t=f0 t):=λv t T=>(Xa (Jn I T) v).D (J t T);simp only[oQ,Oz,wpOpsIn,oR,S];rw[VH E G o];unfold XL at h;cases U:Z8 all f o with
  | false =>
   rw[U]at h;exact⟨λ_ _=>trivial,ih _ _ _ (E.put (G o I) _) (next _) h⟩
  | true =>
   rw[U]at h;exact QfX E (hd o I) (λv w' hx=>ih _ _ _ (E.put (G o I) v) (next v) hx) h
theorem Qy {Q:Exit->LN->Fr->O1->Prop}{l:xD}(E:Xu n l=true)(hd:Qfg l=true)(h:XL P l (λf w=>Q .normal ds f w) l f w):WG ro m P n (.region id l.toArray false) Q ds f w:=by
 intro a G;refine wpIn_region ?_;have:=QfY (ro:=ro) (m:=m) (XJ E) (zY hd) f l 0 a f w od G (λ_ _=>rfl) h;simpa[List.range_eq_range',X9]using this
attribute [local semireducible] XA in
theorem Qbo {Q:Exit->Act->O1->Prop}{all:xD}{C:xz}{K:xx}(G:∀o∈all,∀d,o.dst=some d->d<n)(hd:∀o∈all,∀c,o.op≠.defer c)(f0:Fr)
  (I:∀a f w,Xf n ds a f->(∀t,Yn all t=false->f t=f0 t)->K f w->Q .normal a w):
  ∀(k:Nat) (ls:Array Bool) (a:Act) (f:Fr) (w:O1),Xf n ds a f->(∀t,Yn all t=false->f t=f0 t)->XA P all C K k ls f w->wpAnyIn (fen ro) m P .any all.toArray Q k ls a w
 | 0,_,a,f,w,E,J,h=>⟨h.1,I a f w E J h.2⟩
 | k+1,ls,a,f,w,E,J,h=>by
  refine⟨λh0=>I a f w E J (h.1 h0),λi hi=>?_⟩;unfold wpOpIn;simp only[oR];cases U:all[i]? with
  | none =>
   exfalso;obtain⟨_,o,ha,_⟩:=mem_ready.1 hi;simp[U]at ha
  | some o =>
   have S:o∈all:=Ml U;have T:=h.2 i hi o U;have next:∀v,(∀t,Yn all t=false->QP f o.dst v t=f0 t):=λv t V=>(Xa (Jn S V) v).D (J t V);simp only[];rw[VH E G o];cases Y:Z8 all f o with
   | false =>
    rw[Y]at T;exact⟨λ_ _=>trivial,Qbo G hd f0 I k _ _ _ _ (E.put (G o S) _) (next _) T⟩
   | true =>
    rw[Y]at T;exact QfX E (hd o S) (λv w' hx=>Qbo G hd f0 I k _ _ _ _ (E.put (G o S) v) (next v) hx.2) T
theorem yU {Q:Exit->LN->Fr->O1->Prop}{all:xD}(C:xz)(G:P.follows .mixedOrders=true)(I:Xu n all=true)(hd:Qfg all=true)
  (h:XA P all C (λf w=>Q .normal ds f w) all.length (oP all.length false) f { w with drawn:=w.drawn+1 }):WG ro m P n (.region id all.toArray true) Q ds f w:=by
 intro a J;refine wpIn_region_any G ?_;have S:=Qbo (ro:=ro) (m:=m) (n:=n) (ds:=ds) (Q:=λe T w'=>∃ds' E,Xf n ds' T E/\(∀t,Yn all t=false->E t=f t)/\Q e ds' E w') (XJ I) (zY hd) f
  (λa E w U V Y=>⟨ds,E,U,V,Y⟩) _ _ a f _ J (λ_ _=>O) h
 simpa[X9]using S
theorem V4 {Q:Exit->LN->Fr->O1->Prop}{all:xD}(C:xz)(pl:xt)(I:P.follows .mixedOrders=true)(J:Xu n all=true)(hd:Qfg all=true)(E:zR all pl=true)
  (hC:C { w with drawn:=w.drawn+1 }) (h:XP P all C (λf w=>Q .normal ds f w) pl f { w with drawn:=w.drawn+1 }):WG ro m P n (.region id all.toArray true) Q ds f w:=by
 simp only[zR,oI,beq_iff_eq]at E;obtain⟨⟨S,hl⟩,E⟩:=E;have G:=Yq S pl _ _ _ od (.inl hC) E h;rw[hl]at G;exact yU C I J hd G
end
section
variable {ro:xE}{Q:Exit->LN->Fr->O1->Prop}
theorem qN {F:Fence}{c:Code}{Q:Exit->Act->O1->Prop}{a:Act}(J:α->Act->O1->Prop)(μ:α->Nat)(z:α)(h₀:J z a w)
  (round:∀x a w,J x a w->c.wpIn F m P (Exit.then (λI w'=>∃S,μ S<μ x/\J S I w') Q) a w):(Code.loop c).wpIn F m P Q a w:=by
 intro b k cs U hb T;have key:∀j x a w,μ x=j->J x a w ->
   ∃e I w',Q e I w'/\ArrivesIn (Machine.fenced P F) P (lone (b.atR a (.code c::.inLoop c::k)) cs w) b k cs e I w':=by
  intro j;induction j using Nat.strongRecOn with
  | _ j ih =>
   intro x a w V Y;obtain⟨e,a₁,w₁,E,G⟩:=round x a w Y b (.inLoop c::k) cs U hb T;cases e with
   | normal =>
    obtain⟨S,ha,hc⟩:=E;obtain⟨e₂,a₂,w₂,hq₂,harr₂⟩:=ih (μ S) (V ▸ ha) S a₁ w₁ O hc;exact⟨e₂,a₂,w₂,hq₂,.of_steps (StepsIn.trans G (.one (fenced_calm hb T O) stepR_inLoop)) harr₂⟩
   | exit id=>exact⟨_,a₁,w₁,E,.pass (x:=.inLoop c) O (λ_ _=>.inl od) G⟩
   | goto l=>exact⟨_,a₁,w₁,E,.pass (x:=.inLoop c) O (λ_ _=>.inl od) G⟩
   | ret=>exact⟨_,a₁,w₁,E,.pass (x:=.inLoop c) O (λ_ _=>.inl od) G⟩
   | panic ch=>exact⟨_,a₁,w₁,E,.pass (x:=.inLoop c) O (λ_ _=>.inl od) G⟩
   | outgrown=>exact⟨_,a₁,w₁,E,.pass (x:=.inLoop c) O (λ_ _=>.inl od) G⟩
 obtain⟨e,I,w',E,G⟩:=key _ z a w O h₀;exact⟨e,I,w',E,.of_steps (.one (fenced_calm hb T O) stepR_loop) G⟩
theorem KG {c:Code}(D:xu)(S:α->List (Nat×O2))(I:α->LN->O1->Prop)(μ:α->Nat)(hD:wrG D c=true)(z:α)
  (h0:Y7 f (S z)) (hI:I z ds w)
  (round:∀x g J w',I x J w'->WG ro m P n c (Qds (λE T hc=>∃Y,μ Y<μ x/\Y7 T (S Y)/\I Y E hc) Q) J (VJ (S x) (mix D f g)) w'):WG ro m P n (.loop c) Q ds f w:=by
 intro a ha;refine qN (λ(x:α) a' w'=>∃J T,Xf n J a' T/\(∀t,X9 c t=false->T t=f t)/\Y7 T (S x)/\I x J w') μ z ⟨ds,f,ha,λ_ _=>O,h0,hI⟩ ?_;rintro x a' w' ⟨J,T,h1,h2,h3,h4⟩;have h5:=round x T J w' h4;rw[K5 (λt U=>h2 t (JK U c hD)),XD h3]at h5;refine wpIn_mono (h5 a' h1) ?_;rintro e he hc ⟨E,G,g1,g2,V⟩;have k1:∀t,X9 c t=false->G t=f t:=λt U=>(g2 t U).D (h2 t U);have k2:∀t,X9 (.loop c) t=false->G t=f t:=λt U=>k1 t (by simpa[X9]using U);cases e with
 | normal=>obtain⟨Y,hm,hs,hi⟩:=V;exact⟨Y,hm,E,G,g1,k1,hs,hi⟩
 | exit id=>exact⟨E,G,g1,k2,V⟩
 | goto l=>exact⟨E,G,g1,k2,V⟩
 | ret=>exact⟨E,G,g1,k2,V⟩
 | panic ch=>exact⟨E,G,g1,k2,V⟩
 | outgrown=>exact⟨E,G,g1,k2,V⟩
end
def rqG (P:O4)(rs:List ResultVar)(R:O2->O1->Prop):Exit->LN->Fr->O1->Prop
 | .normal,ds,f,w=>(∀D∈ds,w.heap[D]?=some (.deferred (some [])))/\ds.Nodup/\∃vs,∀w',O5 ds w w'->UN P f w' rs vs/\R (tup vs) w'
 | .ret,ds,f,w=>(∀D∈ds,w.heap[D]?=some (.deferred (some [])))/\ds.Nodup/\∃vs,∀w',O5 ds w w'->UN P f w' rs vs/\R (tup vs) w'
 | _,_,_,_=>False
theorem O5.putObj (w:O1)(D:Nat)(o:Obj):O5 [D] w (w.putObj D o):=⟨rfl,rfl,rfl,od,λk _ E=>World.putObj_heap_other (λe=>E (by simp[e]))⟩
theorem z7 {F:Fence}{m:Nat}{P:O4}{fn:Func}{tmps:Array O2}{R:Ending->O1->Prop}:∀(ds:LN) (w:O1),(∀D∈ds,w.heap[D]?=some (.deferred (some [])))->ds.Nodup ->
  (∀w',O5 ds w w'->∃v,(results fn tmps).run P w'=.ok v w'/\R (.returned v) w')->LeavesInM F m P fn tmps R (coll ds) .returning w
 | [],w,_,_,h=>h w (O5.Y _ _)
 | D::ds,w,hD,I,h=>by
  refine⟨od,.inl ⟨D,_,rfl,run_takeDeferred (hD D Lm),?_⟩⟩;have G:=List.nodup_cons.1 I;refine z7 ds _ (λE hE=>?_) G.2 (λw' J=>h w' ?_)
  ·rw[World.putObj_heap_other (λe=>G.1 (by rw[<-e];exact hE))];exact hD E (Lk _ hE)
  exact((O5.putObj w D (.deferred none)).S (λb hb=>by simp at hb;simp[hb])).V (J.S (λb hb=>Lk _ hb))
theorem QR.of_G {c:Code}{args:LV}{R:O2->O1->Prop}{rs:List ResultVar}(m:Nat)
  (Y:P.funcs[g]?=some fn) (hb:fn.body=some c) (hn:fn.ntmps=n) (ha:fn.results=rs.toArray) (hl:args.length<=n)
  (h:WG none m P n c (rqG P rs R) [] (ent args) w):QR P g args w R:=by
 unfold QR;refine(callsIn_wide (n:=m)).1 (callsIn_of_wp_marks Y hb Z (wpIn_mono (h _ ?_) ?_))
 ·refine⟨by simp[hn];omega,O,λt=>?_⟩;have key:∀(l:LV) (t:Nat),l[t]?.getD undef=ent l t:=by
   intro l;induction l with
   | nil=>intro t;rfl
   | cons v l ih=>intro t;cases t with|zero=>rfl|succ t=>simpa[ent]using ih t
  rw[<-key];simp only[Array.getD_eq_getD_getElem?,Array.getElem?_append,Od,oR];by_cases S:t<args.length
  ·simp[S]
  simp[S,Array.getElem?_replicate];split <;> rfl
 rintro e J w' ⟨I,f',T,_,E⟩;have fin:((∀D∈I,w'.heap[D]?=some (.deferred (some [])))/\I.Nodup/\∃vs,∀G,O5 I w' G->UN P f' G rs vs/\R (tup vs) G) ->
   LeavesInM Fence.wide m P fn J.tmps (λe w'=>match e with| .returned v=>R v w'|_=>False) J.defers .returning w':=by
  rintro⟨hd,hc,vs,U⟩;rw[T.defers];refine z7 I w' hd hc λG V=>⟨tup vs,?_,(U G V).2⟩;simp only[results,ha,List.mapM_toArray,Sem.run_bind,Sem.run_map];rw[JL (a:={ J with defers:=[] }) T.rel _ (λ_=>rfl) (λ_ _=>rfl) rs vs (U G V).1]
  cases vs with
  | nil=>rfl
  | cons v vs=>cases vs with|nil=>rfl|cons u us=>rfl
 cases e with
 | normal=>exact fin E
 | ret=>exact fin E
 | exit id=>exact E.elim
 | goto l=>exact E.elim
 | panic c=>exact E.elim
 | outgrown=>exact E.elim
attribute [irreducible] WG
theorem Qms [Fu sV g fn]{q:Ed->Bool}{v:O2}(h:UP L ↑w v es)
  (G:∀(e:Ed) (E:O1),sW w E->QR sV g ([sT (Qp e)]++cap) E λr w'=>r=.bool (q e)/\sW E w'):
  QR sV 159 [v,.func (.func g) #[] cap.toArray] w λr w'=>sW w w'/\IxQ q es r :=
 (ixG (c:=Qp) ⟨_,O,func159⟩ (λ_=>O) (ldA λ_=>O) h λe _=>G e).S λ_ _ ⟨I,J⟩=>⟨J,I ▸ Qmu q es⟩
theorem QdX [Fu sV gp fn]{q:Int->Bool}{v:O2}(h:Zt L ↑w v l.length 1 (l.flatMap Ut))
  (G:∀e∈l,∀(E:O1),sW w E->QR sV gp ([sS e]++cap) E λr w'=>r=.bool (q e)/\sW E w'):
  QR sV 142 [v,.func (.func gp) #[] cap.toArray] w λr w'=>r=sS (fix q 0 l)/\sW w w' :=
 ixG ⟨_,O,func142⟩ Qjv (ld1 λ_=>O) h G
theorem Qel [Fu sV gp fn]{q:Int->Bool}{v:O2}(h:Zt L ↑w v l.length 1 (l.flatMap Ut))
  (G:∀e∈l,∀(E:O1),sW w E->QR sV gp ([sS e]++cap) E λr w'=>r=.bool (q e)/\sW E w'):
  QR sV 170 [v,.func (.func gp) #[] cap.toArray] w λr w'=>r=.bool (l.any q)/\sW w w':=by
 refine Zm func170 ?_;refine Qc<|Qb<|Qk<|Qa<|KS<|(QdX h G).S ?_;rintro J E ⟨rfl,I⟩;refine x (Yl O O)<|Qb<|Qh ⟨[_],La,OV Value.bool (UA q l 0),I⟩
theorem Qbg [Fu sV g fn]{q:Int->Bool}{v:O2}{es:LI}(h:Qu L ↑w v es)
  (G:∀(e:Int) (E:O1),sW w E->QR sV g ([sS e]++cap) E λr w'=>r=.bool (q e)/\sW E w'):
  QR sV 170 [v,.func (.func g) #[] cap.toArray] w λr w'=>r=.bool (es.any q)/\sW w w' :=
 Qel (Qu.fl h) λe _=>G e
theorem Qff (es:List Ed)(s v:Int):nxt es s v=nxt (QQ es s) s v:=by
 induction es with
 | nil=>rfl
 | cons e es ih =>
  unfold QQ at *;rw[L5];by_cases h:e.1=s
  ·rw[OU (ou h),nxt,nxt,ih]
  rw[OT (ou h),nxt,OT (λc=>h c.1),ih]
theorem QdQ:∀(l:List Ed) (s v:Int) (i:Nat) (hi:i<l.length),(∀e∈l,e.1=s)->(l[i]'hi).2.1=v->(∀m (E:m<i),(l[m]'oa).2.1≠v)->nxt l s v=(l[i]'hi).2.2
 | e::l,s,v,0,_,G,I,_=>by rw[nxt,OU ⟨G e Lm,I⟩];rfl
 | e::l,s,v,i+1,hi,G,I,E=>by
  rw[nxt,OT (λc=>E 0 oa c.2)];exact QdQ l s v i (ou hi) (λe J=>G e (Lk _ J)) I (λm S=>E (m+1) oa)
theorem QiO:∀(l:List Ed) (s v:Int),(∀e∈l,e.2.1≠v)->nxt l s v=-1
 | [],_,_,_=>rfl
 | e::l,s,v,h=>by rw[nxt,OT (λc=>h e Lm c.2)];exact QiO l s v (λe E=>h e (Lk _ E))
theorem QiX {b:Nat}{n:Int}(e:Ed)(w:O1)(G:QL ↑w b T [sS n]):
  QR sV 160 ([sT (Qp e)]++[sP b]) w λr w'=>r=.bool (decide (e.2.1=n))/\sW w w':=by
 refine Zm func160 ?_;refine Qc<|Za (Qp e) λJ S E U I=>Qb<|Qc<|Qq O I O O<|ZE (G.I E) O O<|x (Zd O O)<|Qb<|Qh ⟨[_],La,O,E⟩
theorem Qc1 {st:Int}(h:UP L ↑w ve a.ed)(I:Q0 a)(s v:Int)(hc:0<=s)(S:s<a.st):
  QR sV 81 [.agg #[va,sS st,vm,ve],sS s,sS v] w λr w'=>r=sS (nxt a.ed s v)/\sW w w':=by
 have hk:=I.st1;refine Zm func81 ?_;refine Qc<|Za [va,sS st,vm,ve] λb3 w1 S hn hf=>Za [sS v] λb5 w2 T hp hg=>Qb<|Qc<|QV (hf.I T) O O<|Qa<|Qv<|(QaH ((h.I S).I T) I.eds (λe E=>⟨(I.ed e E).1,oo (I.ed e E).2.1⟩) s hc oa).S ?_;rintro vo w3 ⟨U,hE⟩;refine Qb ?_;have hh:∀e∈QQ a.ed s,e.1=s:=λe E=>(ZH E).2;rw[Qff];refine Qk<|x (Zn (l:=[]) (l':=[.tmp 5]))<|Qv<|(Qms (q:=λe=>decide (e.2.1=v)) (cap:=[sP b5]) hE (λe V J=>QiX e V ((hg.I U).I J))).S ?_;rintro r4 V ⟨J,G⟩;have Y:=((S.D T).D U).D J;refine Or.elim G (λG=>?_) (λG=>?_)
 ·obtain⟨rfl,hq⟩:=G;have e1:nxt (QQ a.ed s) s v=-1:=QiO _ _ _ λe E=>by
   obtain⟨i,hi,rfl⟩:=LP E;simpa using hq i hi
  rw[e1];refine Qb<|Qd<|Qk<|ZX O O<|xe<|yJ O ?_;refine Qc<|Qb<|Qh ⟨[sS (-1)],La,O,Y⟩
 obtain⟨i,hi,rfl,h1,h2⟩:=G;have e1:nxt (QQ a.ed s) s v=((QQ a.ed s)[i]'hi).2.2:=QdQ _ s v i hi hh (ou h1) (λm hm=>ou (h2 m hm));rw[e1];refine Qb<|Qd<|Qk<|ZX O O<|xe<|Zi O (λha=>OW ha oa) (λha=>?_);refine Qf<|Qk<|Qa<|xie (hE.I J) O O hi λhs hj=>x (ZI O)<|x (Qr (hj.fld 2 _ O) O)<|Qb<|Qh ⟨[_],La,O,Y⟩
def flw (a:Qz):Int->LI->Int×Nat
 | s,[]=>(s,0)
 | s,v::u=>if nxt a.ed s v<0 then(s,0) else((flw a (nxt a.ed s v) u).1,(flw a (nxt a.ed s v) u).2+1)
theorem QiP (E:Q0 a){v:Int}(h:¬nxt a.ed s v<0):nxt a.ed s v<a.st:=(E.ed _ (QaM oa)).2.2.2.2
theorem QgO {vw:O2}{st:Int}(h:UP L ↑w ve a.ed)(I:Qu L' ↑w vw u)(U:Q0 a)(s:Int)(hc:0<=s)(V:s<a.st):
  QR sV 280 [.agg #[va,sS st,vm,ve],sS s,vw] w λr w'=>r=.tuple #[sS (flw a s u).1,sS (flw a s u).2]/\sW w w':=by
 have hn:=I.le;refine Zm func280 ?_;refine Qc<|Za [va,sS st,vm,ve] λb3 w1 V hp he=>x Qe<|Qb<|Qd<|Qk<|QG I O<|Qa<|xe<|QW (α:=Nat×Int) [(1,1),(6,10),(13,27)] (λz=>[(1,sS z.2),(13,sS z.1)]) (λz w'=>z.1<=u.length/\0<=z.2/\z.2<a.st/\sW w1 w'/\flw a s u=((flw a z.2 (u.drop z.1)).1,(flw a z.2 (u.drop z.1)).2+z.1)) (λz=>u.length - z.1) (0,s) ov ⟨Lo _,hc,by assumption,O5.Y _ _,od⟩ ?_;rintro⟨k,t⟩ g w2 ⟨hk,hg,hh,T,E⟩;have J:=V.D T;refine Zk rfl O (λY=>?_) (λY=>?_)
 ·refine Qt<|Qk<|Qa<|QG I O<|x Qe<|Qb ?_;rw[Lr oa]at E;have hj:k=u.length:=by have hq:¬(k:Int)<(u.length:Int):=Y;omega
  refine Qh ⟨[sS t,sS u.length],ov,?_,J⟩;rw[E,hj];simp[flw,tup]
 have G:k<u.length:=oa
 rw[QY G,flw]at E;refine Qf<|Qd<|Qn<|Qk<|xii (I.I J) O O G λhr hm=>x (Qr hm O)<|x Qe<|Qb<|Qc<|QV (he.I T) O O<|Qa<|Qa<|Qv<|(Qc1 (h.I J) U t (u[k]'G) hg hh).S ?_;rintro r3 w3 ⟨rfl,ha⟩;refine Qb<|Qd<|Qk<|ZX O O<|xe<|Zi rfl (λS=>?_) (λS=>?_)
 ·rw[OU S]at E;refine Qk<|Qa<|x Qe<|Qb<|Qh ⟨[sS t,sS k],ov,?_,J.D ha⟩;rw[E];simp[tup]
 rw[OT S]at E;refine Qf<|Qs<|Qa<|Qb<|Qs<|QD O O<|Qa<|xe<|⟨(k+1,nxt a.ed t (u[k]'G)),oe,ov,G,oe,(QiP U S),T.D ha,?_⟩;simp only[];rw[E];simp;omega
def cks (a:Qz)(s:Int):Int:=if X4 a≠0 then X4 a else if s<0\/a.st<=s then 2 else 0
theorem J2 (h:Zp L ↑w va vm ve a)(s:Int):
  QR sV 79 [.agg #[va,sS a.st,vm,ve],sS s] w λr w'=>r=sS (cks a s)/\sW w w':=by
 refine Zm func79 ?_;refine Qc<|Za [va,sS a.st,vm,ve] λY w1 S ha T=>Qb<|Qd<|Qc<|QV T O O<|Qv<|(Y5 (h.I S)).S ?_;rintro r2 V ⟨rfl,U⟩;refine Qb ?_;unfold cks;have E:=S.D U;refine Qk<|ZM O O<|xe<|Zi rfl (λG=>?_) (λG=>?_)
 ·refine Qk<|Qb<|Qh ⟨[_],La,by rw[OU G];rfl,E⟩
 rw[OT G];refine Qf<|Qd<|QX (α:=Unit) [(11,18)] (λz=>[(18,.bool (decide (s<0\/a.st<=s)))]) (λz w'=>w'=V) oh ?_ ?_
 ·refine Qs<|Qa<|xb (YC O O) (λI=>?_) (λI=>?_)
  ·refine Qa<|Zq<|Kt<|QB O<|xe ?_;exact⟨(),⟨by rw[OX (Or.inl I)];rfl,Z⟩,O⟩
  refine Qa<|Qa<|Qq O (T.I U) O O<|x (Yl O O)<|QB O<|xe ?_;exact⟨(),⟨by show Value.bool (decide (a.st<=s))=_;simp[I],Z⟩,rfl⟩
 rintro z g w3 rfl;refine Zi rfl (λJ=>?_) (λJ=>?_)
 ·refine Qc<|Qb<|Qh ⟨[_],La,by rw[OU J];rfl,E⟩
 refine Qf<|Qc<|Qb<|Qh ⟨[_],La,by rw[OT J];rfl,E⟩
theorem QcM (h:cks a s=0):Q0 a/\0<=s/\s<a.st:=by
 unfold cks at h;split at h
 ·rename_i E;exact OW h E
 rename_i E;split at h
 ·cases h
 rename_i G;exact⟨(ZC a).1 (Ls.1 E),oa,oa⟩
theorem Qly {b:Nat}{al:LI}(e:Int)(w:O1)(E:QL ↑w b T (va::us))(hA:Qu L ↑w va al):
  QR sV 279 ([sS e]++[sP b]) w λr w'=>r=.bool (decide (e∉al))/\sW w w':=by
 refine Zm func279 ?_;refine Qc<|Qb<|Qc<|Qq O E O O<|Qa<|Qv<|(ZK hA e).S ?_;rintro G I ⟨rfl,rfl⟩;refine x (Zl O)<|Qb<|Qh ⟨[_],La,?_,O5.Y _ _⟩;show Value.bool (!decide (e∈al))=_;rw[decide_not]
def Qlx (a:Qz)(s:Int)(u:LI):Int:=if cks a s≠0 then cks a s else if(u.any λe=>decide (e∉a.al))=true then 9 else 0
theorem QpI {vw:O2}(h:Zp L ↑w va vm ve a)(V:Qu L' ↑w vw u)(s:Int):
  QR sV 248 [.agg #[va,sS a.st,vm,ve],sS s,vw] w λr w'=>sW w w'/\r=if Qlx a s u≠0 then .tuple #[sS 0,sS 0,sS (Qlx a s u)]else .tuple #[sS (flw a s u).1,sS (flw a s u).2,sS 0]:=by
 refine Zm func248 ?_;refine Qc<|Za [va,sS a.st,vm,ve] λb3 w1 Y he S=>x Qe<|x Qe<|Qb<|Qd<|Qc<|QV S O O<|Qa<|Qv<|(J2 (h.I Y) s).S ?_;rintro r2 w2 ⟨rfl,T⟩;refine Qb ?_;have G:=Y.D T;unfold Qlx;refine Qk<|ZM O O<|xe<|Zi rfl (λE=>?_) (λE=>?_)
 ·refine Qk<|x Qe<|x Qe<|Qb<|Qh ⟨[_,_,_],ox,G,by rw[OU E,OU E];rfl⟩
 have hc:cks a s=0:=Ls.1 E;obtain⟨ho,h0,h1⟩:=QcM hc;rw[OT E];refine Qf<|Qd<|Qk<|x (Zn (l:=[]) (l':=[.tmp 3]))<|Qv<|(Qbg (q:=λe=>decide (e∉a.al)) (cap:=[sP b3]) (V.I G) (λe w4 I=>Qly e w4 ((S.I T).I I) ((h.al.I G).I I))).S ?_;rintro r3 w3 ⟨rfl,ha⟩;refine xe ?_;have J:=G.D ha;refine Q6 rfl (λU=>?_) (λU=>?_)
 ·rw[OU U];refine Qc<|x Qe<|x Qe<|Qb<|Qh ⟨[_,_,_],ox,J,by rw[OU og];rfl⟩
 rw[OT (by rw[U];simp)];refine Qf<|Qc<|QV ((S.I T).I ha) O O<|Qa<|Qa<|Qv<|(QgO (h.ed.I J) (V.I J) ho s h0 h1).S ?_;rintro r4 w4 ⟨rfl,I⟩;refine Qa<|x (Q3 O O) <|
  QJ rfl rfl<|x Qe<|Qb<|Qk<|Qa<|x Qe<|x Qe<|Qb<|Qh ⟨[_,_,_],ox,J.D I,O⟩
def enb (a:Qz)(s:Int):LI:=(QQ a.ed s).map (·.2.1)
theorem Qj0 {l:List Ed}{k:Nat}(h:k<l.length):(l.take (k+1)).map (·.2.1)=(l.take k).map (·.2.1)++[(l[k]'h).2.1]:=by
 rw[List.take_add_one,LE h,Lv];rfl
theorem QeH (h:Zp L ↑w va vm ve a)(s:Int):
  QR sV 32 [.agg #[va,sS a.st,vm,ve],sS s] w λr w'=>sW w w'/\∃v,r=.tuple #[v,sS (cks a s)]/\(cks a s≠0->v=Zs)/\(cks a s=0->Qi 3 ↑w w' v (enb a s)):=by
 refine Zm func32 ?_;refine Qc<|Za [va,sS a.st,vm,ve] λb2 w1 hf h4 hg=>x Qe<|Qb<|Qd<|Qc<|QV hg O O<|Qa<|Qv<|(J2 (h.I hf) s).S ?_;rintro r2 w2 ⟨rfl,hh⟩;refine Qb ?_;have T:=hf.D hh;refine Qk<|ZM O O<|xe<|Zi rfl (λU=>?_) (λU=>?_)
 ·refine Qk<|x Qe<|Qb<|Qh ⟨[Zs,_],ov,T,Zs,O,λ_=>O,λe=>OW e U⟩
 have hc:cks a s=0:=Ls.1 U;obtain⟨G,h0,h1⟩:=QcM hc;have h5:=G.st1;rw[hc];refine Qf<|Qc<|Qb<|Qd<|Qc<|QV (hg.I hh) O O<|Qa<|Qv<|(QaH (h.ed.I T) G.eds (λe he=>⟨(G.ed e he).1,oo (G.ed e he).2.1⟩) s h0 oa).S ?_;rintro vo w3 ⟨hm,hE⟩;refine QG hE O<|Qa<|xe ?_;have hj:=T.D hm;have hn:=hj.size;have hp:=Yg a.ed s;have h6:=G.ed_le;refine Zg (QQ a.ed s) λos I=>?_;rw[I]at hE hp;refine QW (α:=Nat×O2) [(7,7),(9,9),(20,29)] (λz=>[(7,z.2),(20,sS z.1)]) (λz w'=>z.1<=os.length/\sW w3 w'/\Qi 3 ↑w3 w' z.2 ((os.take z.1).map (·.2.1))) (λz=>os.length - z.1) (0,nS) ⟨O,by rw[I];rfl,Z⟩ ⟨Lo _,O5.Y _ _,QM _ _ _ _⟩ ?_;rintro⟨k,v⟩ g w4 ⟨hk,S,J⟩;simp only[]at hk J;have h7:=S.size;refine Zk rfl O (λV=>?_) (λV=>?_)
 ·refine Qt<|Qk<|x Qe<|Qb ?_;rw[Lq (by rw[I]at V;omega)]at J;refine Qh ⟨[v,_],ov,hj.D S,v,O,λe=>OW O e,λ_=>?_⟩;unfold enb;rw[I];exact Zf J hn
 have E:k<os.length:=by rw[I]at V;omega
 refine Qf<|Qd<|Qn<|Qc<|xie (hE.I S) O O E λh8 hq=>x (QA hq O O)<|QN [sS 0,sS 0,sS 0] λb9 w5 hr hs ht=>Q2 (Qp (os[k]'E)) ht ox λw6 hu hv =>
  xe ?_
 have Y:sW w4 w6:=hr.Q hu hs;have hw:=Qm J Y;refine Qs<|Qa<|Qq O hv O O<|Qo<|Yi (us:=[[sS (os[k]'E).2.1]]) O O og od ⟨rfl,rfl,Z⟩ λh9 w7 ha hA hy=>?_;have hz:=Qm hw ha;have hB:=(Y.D ha).size;have hC:((os.take k).map (·.2.1)).length<=131072:=by simp;omega
 refine Qo<|Q8 (news:=[sS (os[k]'E).2.1]) (L:=[]) hz O O O (hy.at od) om oa oa λv8 w8 h2 h3 hD=>Qb<|Qs<|QD rfl rfl<|Qa<|xe<|⟨(k+1,v8),oe,ov,E,((S.D Y).D ha).O h3 (λb hb=>.inr ((Qj J) b hb).1),?_⟩;simp only[];rw[Qj0 E];exact Qi.snoc h2
theorem Qax {v:O2}(h:Qu L ↑w v l)(n:Int):
  QR sV 254 [v,sS n] w λr w'=>r=sS (J1 n none l)/\w'=w:=by
 have he:=h.le;refine Zm func254 ?_;refine Qc<|Qb<|Qd<|Qk<|QG h O<|Qa<|xe<|QW (α:=Nat) [(4,6),(9,34)] (λk=>[(9,sS k)]) (λk w'=>w'=w/\k<=l.length/\J1 n (pv l k) (l.drop k)=J1 n none l) (λk=>l.length - k) 0 La ⟨O,Lo _,O⟩ ?_;rintro k g U ⟨rfl,hk,E⟩;refine Zk rfl O (λV=>?_) (λV=>?_)
 ·refine Qt<|Qc<|Qb<|Qh ⟨[sS 0],La,?_,O⟩;rw[<-E,Lr oa];rfl
 have G:k<l.length:=oa
 rw[(QY G),J1]at E;refine Qf<|Qd<|Qn<|Qk<|xii h O O G λhf Y=>x (Qr Y O)<|x Qe<|Qb<|Qn<|QX (α:=Bool) [(14,21)] (λz=>[(14,.bool z)]) (λz w'=>w'=U/\z=decide (l[k]<0\/n<=l[k])) oh ?_ ?_
 ·refine Qs<|Qa<|xb (YC O O) (λI=>?_) (λI=>?_)
  ·refine Qa<|Zq<|QB O<|Qb<|⟨true,La,O,by simp[I]⟩
  refine Qa<|Qa<|Qa<|x (Yl O O)<|QB O<|Qb<|⟨_,La,O,by simp[I]⟩
 rintro z g w2 ⟨rfl,rfl⟩;refine Zi rfl (λJ=>?_) (λJ=>?_)
 ·refine Qc<|Qb<|Qh ⟨[sS 2],La,?_,O⟩;rw[<-E,OU J];rfl
 rw[OT J]at E;refine QX (α:=Bool) [(22,33)] (λz=>[(22,.bool z)]) (λz w'=>w'=w2/\z=z8 (pv l k) l[k]) oh ?_ ?_
 ·refine Qs<|Qa<|xb (Ya O O) (λha=>?_) (λha=>?_)
  ·have hk1:((k:Int) - 1)=((k - 1:Nat):Int):=oa
   refine Qa<|Qa<|Qa<|Qa<|x (Jq O O ⟨oa,oa⟩)<|xii (i:=k - 1) h O (by show Value.int _ ((k:Int) - 1)=_;rw[hk1]) oa λhg hc=>x (Qr hc rfl)<|x (X6 rfl rfl)<|QB rfl<|Qb<|⟨_,⟨rfl,Z⟩,rfl,?_⟩;have:pv l k=some l[k - 1]:=by
    have S:k≠0:=oa
    simp[pv,S,show k - 1<l.length by omega]
   rw[this];rfl
  refine Qa<|Zq<|Zq<|Kt<|QB O<|Qb ?_;have S:k=0:=oa
  exact⟨false,La,O,by simp[pv,S,z8]⟩
 rintro z g w3 ⟨rfl,rfl⟩;refine Q6 rfl (λT=>?_) (λT=>?_)
 ·refine Qc<|Qb<|Qh ⟨[sS 5],La,?_,O⟩;rw[<-E,OU T];rfl
 rw[OT (by simp[T])]at E;refine Qf<|Qs<|QD O O<|Qa<|xe ?_;exact⟨k+1,oa,La,O,oa,by rw[Kw G];exact E⟩
theorem qL {v:O2}(h:Qu L ↑w v l)(n:Int):
  QR sV 89 [v,sS n] w λr w'=>r=sS (J1 n none l)/\w'=w:=by
 have he:=h.le;refine Zm func89 ?_;refine Qc<|Qb<|Qd<|Qk<|QG h O<|Qa<|xe<|QW (α:=Nat) [(4,6),(9,32)] (λk=>[(9,sS k)]) (λk w'=>w'=w/\k<=l.length/\J1 n (pv l k) (l.drop k)=J1 n none l) (λk=>l.length - k) 0 La ⟨O,Lo _,O⟩ ?_;rintro k g U ⟨rfl,hk,E⟩;refine Zk rfl O (λV=>?_) (λV=>?_)
 ·refine Qt<|Qc<|Qb<|Qh ⟨[sS 0],La,?_,O⟩;rw[<-E,Lr oa];rfl
 have G:k<l.length:=oa
 rw[(QY G),J1]at E;refine Qf<|Qd<|Qn<|Qk<|xii h O O G λhf Y=>x (Qr Y O)<|x Qe<|Qb<|Qd<|QX (α:=Bool) [(14,20)] (λz=>[(20,.bool z)]) (λz w'=>w'=U/\z=decide (l[k]<0\/n<=l[k])) oh ?_ ?_
 ·refine Qs<|Qa<|xb (YC O O) (λI=>?_) (λI=>?_)
  ·refine Qa<|Zq<|QB O<|xe ?_;exact⟨true,La,O,by simp[I]⟩
  refine Qa<|Qa<|Qa<|x (Yl O O)<|QB O<|xe ?_;exact⟨_,La,O,by simp[I]⟩
 rintro z g w2 ⟨rfl,rfl⟩;refine Zi rfl (λJ=>?_) (λJ=>?_)
 ·refine Qc<|Qb<|Qh ⟨[sS 2],La,?_,O⟩;rw[<-E,OU J];rfl
 rw[OT J]at E;refine Qf<|QX (α:=Bool) [(21,31)] (λz=>[(31,.bool z)]) (λz w'=>w'=w2/\z=z8 (pv l k) l[k]) oh ?_ ?_
 ·refine Qs<|Qa<|xb (Ya O O) (λha=>?_) (λha=>?_)
  ·have hk1:((k:Int) - 1)=((k - 1:Nat):Int):=oa
   refine Qa<|Qa<|Qa<|Qa<|x (Jq O O ⟨oa,oa⟩)<|xii (i:=k - 1) h O (by show Value.int _ ((k:Int) - 1)=_;rw[hk1]) oa λhg hc=>x (Qr hc rfl)<|x (X6 rfl rfl)<|QB rfl<|xe<|⟨_,La,O,?_⟩;have:pv l k=some l[k - 1]:=by
    have S:k≠0:=oa
    simp[pv,S,show k - 1<l.length by omega]
   rw[this];rfl
  refine Qa<|Zq<|Zq<|Kt<|QB O<|xe ?_;have S:k=0:=oa
  exact⟨false,La,O,by simp[pv,S,z8]⟩
 rintro z g w3 ⟨rfl,rfl⟩;refine Q6 rfl (λT=>?_) (λT=>?_)
 ·refine Qc<|Qb<|Qh ⟨[sS 5],La,?_,O⟩;rw[<-E,OU T];rfl
 rw[OT (by simp[T])]at E;refine Qf<|Qs<|QD O O<|Qa<|xe ?_;exact⟨k+1,oa,La,O,oa,by rw[Kw G];exact E⟩
theorem yF {v:O2}(h:Qu L ↑w v l):
  QR sV 196 [.agg #[va,sS a.st,vm,ve],v] w λr w'=>r=sS (J1 a.st none l)/\sW w w':=by
 refine Zm func196 ?_;refine Qc<|Za [va,sS a.st,vm,ve] λI J E S G=>Qb<|Qk<|Qq O G O O<|Qv<|(Qax (h.I E) a.st).S ?_;rintro r2 T ⟨rfl,rfl⟩;refine Qb<|Qh ⟨[sS (J1 a.st none l)],La,O,E⟩
def flg (n:Nat)(l:LI):List Bool:=(oJ n).map λi:Nat=>decide ((i:Int)∈l)
theorem Uz (n:Nat)(l:LI):(flg n l).length=n:=by simp[flg]
theorem Qa9 (h:i<(flg n l).length):(flg n l)[i]'h=decide ((i:Int)∈l):=by simp[flg]
theorem zp {x:Int}(G:0<=x):(flg n l).set x.toNat true=flg n (l++[x]):=by
 apply LX
 ·simp[flg]
 intro i I E;rw[M2,Qa9 E];by_cases e:x.toNat=i
 ·have:(i:Int)=x:=oa
  rw[OU e,this];simp
 have:(i:Int)≠x:=oa
 rw[OT e,Qa9];simp[this]
theorem Qcw {v:O2}(h:Qu L ↑w v l)(U:a.st=(n:Int))(hp:a.st<=4096)(hl:∀s∈l,0<=s/\s<a.st):
  QR sV 197 [.agg #[va,sS a.st,vm,ve],v] w λr w'=>sW w w'/\∃b,r=sL b n n/\↑w<=b/\QL ↑w' b 4 ((flg n l).map Value.bool):=by
 have hq:=h.le;refine Zm func197 ?_;refine Qc<|Za [va,sS a.st,vm,ve] λb2 w1 G hr ha=>Qb<|Qc<|Qq O ha O O<|Qo<|YZ (n:=n) (OV sS U) (OV sS U) oa λb10 w2 V hc he=>Qb ?_;have hf:QL ↑w2 b10 4 ((flg n (l.take 0)).map Value.bool):=by
  have e:(oG n (Value.bool false).cells.toList).flatten=(flg n (l.take 0)).map Value.bool:=by
   simp only[flg,List.take_zero,oH,decide_false,List.map_map];apply LX
   ·simp[Value.cells]
   intro i h1 h2;simp[Value.cells]
  rw[<-e];exact he
 refine Qd<|Qk<|QG (h.I (G.D V)) O<|Qa<|xe<|QW (α:=Nat) [(7,7),(13,20)] (λz=>[(13,sS z)]) (λz w'=>z<=l.length/\sW w1 w'/\QL ↑w' b10 4 ((flg n (l.take z)).map Value.bool)) (λz=>l.length - z) 0 La ⟨Lo _,V,hf⟩ ?_;rintro k g w3 ⟨hk,J,S⟩;refine Zk rfl O (λT=>?_) (λT=>?_)
 ·refine Qt ?_;have hg:l.length<=k:=by have I:¬(k:Int)<(l.length:Int):=T;omega
  rw[Lq hg]at S;refine Qk<|Qb ?_;have ht:=G.size;exact Qh ⟨[sL b10 n n],La,G.D J,b10,O,oa,S⟩
 have E:k<l.length:=by have I:(k:Int)<(l.length:Int):=T;omega
 have hx:=hl _ (Le E);have Y:l.take (k+1)=l.take k++[l[k]'E]:=Lj E;refine Zg (l[k]'E) λs hs=>?_;rw[hs]at hx Y;have hh:s=(s.toNat:Int):=oa
 refine Qf<|Qd<|Qn<|Qc<|xii (i:=k) ((h.I G).I J) O O E λhu I=>?_;rw[hs]at I;refine x (Qr I O)<|Qb<|Qs<|Qa<|Qa<|x (QF (i:=s.toNat) O (OV sS hh) oa)<|Qo<|Qw (j:=0+s.toNat*1) (u:=.bool true) S O O (by rw[Ll,Uz];omega) O λw4 hj hm=>xe ?_;have ho:QL ↑w4 b10 4 ((flg n (l.take (k+1))).map Value.bool):=by
  rw[Y,<-(zp (n:=n) (l:=l.take k) hx.1),Ny];simpa using hm
 refine Qs<|QD O O<|Qa<|xe ?_;exact⟨k+1,oa,La,E,J.Q hj hc,ho⟩
def Rv (l:LI)(i:Nat)(li:LI):Prop:=∃h:li.length=l.length,∀k (E:k<l.length),li[k]'oa=if k<i\/l.length<=k+i then l[l.length - 1 - k]'oa else l[k]'E
theorem Rv.start (l:LI):Rv l 0 l:=⟨O,λk E=>by rw[OT oa]⟩
theorem Rv.next (h:Rv l i li)(hi:i<l.length - 1 - i):Rv l (i+1) ((li.set i (l[l.length - 1 - i]'oa)).set (l.length - 1 - i) (l[i]'oa)):=by
 obtain⟨E,G⟩:=h;refine⟨by simp[E],λk I=>?_⟩;rw[M2,M2];by_cases e1:l.length - 1 - i=k
 ·rw[OU e1,OU oa];congr 1;omega
 rw[OT e1];by_cases e2:i=k
 ·rw[OU e2,OU oa];subst e2;rfl
 rw[OT e2,G k I];by_cases e3:k<i\/l.length<=k+i
 ·rw[OU e3,OU oa]
 rw[OT e3,OT oa]
theorem Rv.fin (h:Rv l i li)(hi:l.length - 1 - i<=i)(J:2*i<=l.length):li=l.reverse:=by
 obtain⟨E,G⟩:=h;apply LX
 ·simp[E]
 intro k S T;have I:k<l.length:=oa
 rw[G k I,List.getElem_reverse];by_cases e:k<i\/l.length<=k+i
 ·rw[OU e]
 rw[OT e];congr 1;omega
theorem Rv.at_i (h:Rv l i li)(hi:i<l.length - 1 - i):∃(G:i<li.length) (I:l.length - 1 - i<li.length),li[i]'G=l[i]'oa/\li[l.length - 1 - i]'I=l[l.length - 1 - i]'oa:=by
 obtain⟨J,E⟩:=h;refine⟨oa,oa,?_,?_⟩
 ·rw[E i oa,OT oa]
 rw[E _ oa,OT oa]
theorem yO {v:O2}(h:Qi 3 base w v l)(hh:l.length<=1099511627776):
  QR sV 144 [v] w λ_ w'=>Qi 3 base w' v l.reverse/\O5 (ob v) w w':=by
 refine Zm func144 ?_;refine Qk<|QG (QO (L:=[]) h hh od) rfl<|x (Jq rfl rfl ⟨oa,oa⟩)<|x Qe<|Qb<|QW (α:=Nat×LI) [(2,3),(7,27)] (λz=>[(2,sS z.1),(3,sS ((l.length:Int) - 1 - z.1))])
  (λz w'=>Rv l z.1 z.2/\2*z.1<=l.length/\O5 (ob v) w w'/\Qi 3 base w' v z.2) (λz=>l.length - z.1) (0,l) ⟨O,OV sS od,Z⟩ ⟨Rv.start l,od,O5.Y _ _,h⟩ ?_
 rintro⟨i,li⟩ g J ⟨hR,hk,T,E⟩;refine Qd<|Qk<|Qa<|ZX O O<|xe<|Zr rfl (λh9=>?_) (λh9=>?_)
 ·refine Qt ?_;rw[hR.fin oa hk]at E;exact⟨[],Z,E,T⟩
 have U:i<l.length - 1 - i:=oa
 have V:(l.length:Int) - 1 - (i:Int)=((l.length - 1 - i:Nat):Int):=oa
 have hq:li.length=l.length:=hR.1;refine Exists.elim (hR.at_i U) λY G=>Exists.elim G λh3 G=>?_;refine Exists.elim (U6 E oa) λgg hg=>Exists.elim hg λcap I=>?_;have ha:Qu [] ↑J v li:=QO E oa od;refine Qf<|Qd<|Qn<|ZL [] (Xg 0 16 [13,15])<|p Qx<|p Qx<|p Qx<|p Qx<|p Qx<|p Qx<|pii (i:=l.length - 1 - i) O ha O (OV sS V) h3 λhs he=>?_;rw[G.2]at he;refine pq (λ_ S=>Qr (he.I S) O)<|p Qx<|p Qx<|pii (i:=i) O ha O O Y λht hf=>?_;rw[G.1]at hf;refine pq (λ_ S=>Qr (hf.I S) O)<|p (λ_=>QF (i:=i) (show ev _ _=_ from I) O oa) <|
  pkk<|jF (Qm E (O5.X [] J)) I O O Y λw2 hm hn=>p (λ_=>QF (i:=l.length - 1 - i) (show ev _ _=_ from I) (OV sS V) oa) <|
  pkk<|jF hn (by rw[MX];exact I) O O (by rw[MX];exact h3) λw3 ho hp=>pe ?_
 refine Qs<|Qa<|QD O O<|Qa<|x (Jq O O ⟨oa,oa⟩)<|x Qe<|Qb<|⟨(i+1,_),oe,⟨O,OV sS oa,Z⟩,(hR.next U),oe,((T.D (O5.X [] J)).V hm).V ho,hp⟩
open Go.RowKit
def upY (P:O4)(m:Nat)(dst:xE)(f:Fr)(K:xx):Result Next->Prop
 | .ok (.value v) w'=>K (QP f dst v) w'
 | .ok .skip w'=>K (QP f dst undef) w'
 | .ok (.enter g args) w'=>Calls P g args w' λe E=>match e with| .returned v=>K (QP f dst v) E|_=>False
 | .ok (.round l fn tmps assign body) w'=>RoundIn (fen none) (m - 1) P l fn tmps assign body w' λe E=>match e with| .returned v=>K (QP f dst v) E|_=>False
 | _=>False
def XOY (P:O4)(m:Nat)(o:Oper)(f:Fr)(w:O1)(K:xx):Prop:=upY P m o.dst f K ((execOp (ev f) o).run P w)
def Jm (P:O4)(m:Nat)(ops:xD)(K:xx):xD->Fr->O1->Prop
 | [],f,w=>K f w
 | o::l,f,w=>bif Z8 ops f o then XOY P m o f w (Jm P m ops K l) else Jm P m ops K l (QP f o.dst undef) w
theorem XOY.of_XO {o:Oper}{K':xx}(hK:∀f w,K f w->K' f w)(h:XO P o f w K):XOY P m o f w K':=by
 unfold XO at h;unfold XOY;generalize (execOp (ev f) o).run P w=r at h;cases r with
 | ok nx w' =>
  cases nx <;> simp only[upF]at h <;> simp only[upY]
  case value v=>exact hK _ _ h
  case skip=>exact hK _ _ h
  case enter g args =>
   refine Calls.mono h λe G E=>?_;cases e with
   | returned v=>exact hK _ _ E
   | panicked c=>exact E.elim
   | outgrown=>exact E.elim
 | halt x w'=>exact h.elim
theorem Jm.pre {ops:xD}{K:xx}{l2:xD}:∀(E:xD) (f:Fr) (w:O1),XL P ops (λf w=>Jm P m ops K l2 f w) E f w->Jm P m ops K (E++l2) f w
 | [],f,w,h=>by unfold XL at h;exact h
 | o::E,f,w,h=>by
  unfold XL at h;show(bif Z8 ops f o then XOY P m o f w (Jm P m ops K (E++l2)) else Jm P m ops K (E++l2) (QP f o.dst undef) w);cases G:Z8 ops f o with
  | false=>rw[G]at h;exact Jm.pre E _ _ h
  | true=>rw[G]at h;exact XOY.of_XO (λf w h=>Jm.pre E f w h) h
theorem Jm.pre2 {o1 o2:Oper}{l2:xD}(h:XL P ops (λf w=>Jm P m ops K l2 f w) [o1,o2] f w):Jm P m ops K (o1::o2::l2) f w:=Jm.pre [o1,o2] f w h
theorem Jm.of_XL {l:xD}(h:XL P ops K l f w):Jm P m ops K l f w:=by
 have:=Jm.pre (m:=m) (l2:=[]) l f w h
 rwa [LF]at this
theorem QkH {o:Oper}{a:Act}{K':Act->O1->Prop}{Q:Exit->Act->O1->Prop}(h:Xf n ds a f)
  (hK:∀v w',K (QP f o.dst v) w'->K' (a.put o.dst v) w') (hx:XOY P m o f w K):o.wpIn (fen none) m P a w K' Q:=by
 unfold XOY at hx;refine⟨λ_ _=>trivial,?_⟩;have e:Oper.semAt (fen none).round a.eval o=execOp (ev f) o:=by rw[h.eval];rfl
 rw[e];generalize (execOp (ev f) o).run P w=r at hx;cases r with
 | ok nx w' =>
  cases nx <;> simp only[upY]at hx <;> simp only[Oper.uponIn]
  case value v=>exact hK v w' hx
  case skip=>exact hK _ w' hx
  case enter g args =>
   refine⟨λh=>by simp[Fence.wide]at h,?_⟩;refine(callsIn_wide (n:=m - 1)).2 (Calls.mono hx λe G E=>?_);cases e with
   | returned v=>exact hK v G E
   | panicked c=>exact E.elim
   | outgrown=>exact E.elim
  case round l fn tmps assign body =>
   refine⟨λh=>by simp[Fence.wide]at h,?_⟩;refine RoundIn.mono hx λe G E=>?_;cases e with
   | returned v=>exact hK v G E
   | panicked c=>exact E.elim
   | outgrown=>exact E.elim
 | halt x w'=>exact hx.elim
theorem Qc3 {Q:Exit->LN->Fr->O1->Prop}{all:xD}(G:∀o∈all,∀d,o.dst=some d->d<n)(f0:Fr):
  ∀(l:xD) (k:Nat) (a:Act) (f:Fr) (w:O1),(∀j,l[j]?=all[k+j]?)->Xf n ds a f->(∀t,Yn all t=false->f t=f0 t) ->
   Jm P m all (λf w=>Q .normal ds f w) l f w ->
   wpOpsIn (fen none) m P all.toArray (λe V w'=>∃ds' f',Xf n ds' V f'/\(∀t,Yn all t=false->f' t=f0 t)/\Q e ds' f' w') (oN k l.length) a w
 | [],_,a,f,w,_,E,I,h=>⟨ds,f,E,I,by unfold Jm at h;exact h⟩
 | o::l,k,a,f,w,hl,E,I,h=>by
  have S:all[k]?=some o:=by simpa using(hl 0).symm
  have J:o∈all:=Ml S;have ih:=λa f w=>Qc3 (Q:=Q) G f0 l (k+1) a f w (λj=>by have:=hl (j+1);simpa[Nat.add_assoc,Nat.add_comm 1 j]using this);have next:∀v,(∀t,Yn all t=false->QP f o.dst v t=f0 t):=λv t T=>(Xa (Jn J T) v).D (I t T);simp only[oQ,Oz,wpOpsIn,oR,S];rw[VH E G o];unfold Jm at h;cases U:Z8 all f o with
  | false =>
   rw[U]at h;exact⟨λ_ _=>trivial,ih _ _ _ (E.put (G o J) _) (next _) h⟩
  | true =>
   rw[U]at h;exact QkH E (λv w' hx=>ih _ _ _ (E.put (G o J) v) (next v) hx) h
theorem Kr {Q:Exit->LN->Fr->O1->Prop}{l:xD}(E:Xu n l=true)(h:Jm P m l (λf w=>Q .normal ds f w) l f w):WG none m P n (.region id l.toArray false) Q ds f w:=by
 unfold WG;intro a G;refine wpIn_region ?_;have:=Qc3 (m:=m) (XJ E) f l 0 a f w od G (λ_ _=>rfl) h;simpa[List.range_eq_range',X9]using this
theorem xy {rest:xD}{x:O3}{l:Nat}{R:Ending->O1->Prop}
  (hx:ev f x=.func (.yield l) #[] #[]) (E:YieldAt (fen none) (m - 1) P l #[ev f y] w R) (hK:∀e w',R e w'->∃v,e=.returned v/\Jm P m ops K rest (QP f d v) w')
  (G:Z8 ops f ⟨d,.call ⟨.value x,#[y],at_⟩,ty,pS,af,gd⟩=true:=by rfl):
  Jm P m ops K (⟨d,.call ⟨.value x,#[y],at_⟩,ty,pS,af,gd⟩::rest) f w:=by
 obtain⟨fn,tmps,assign,body,I,J⟩:=E;have S:(execOp (ev f) ⟨d,.call ⟨.value x,#[y],at_⟩,ty,pS,af,gd⟩).run P w=.ok (.round l fn tmps assign body) w:=by
  simp[execOp,resolve,hx,Deferred.ofValue,invoke,I]
 unfold Jm;rw[G];simp only[XOY,S,upY,cond_true];exact J.mono λe w' h=>by obtain⟨v,rfl,T⟩:=hK e w' h;exact T
attribute [irreducible] Jm
structure Lw (B:Nat)(L:LN)(w w':O1):Prop where
 os:w'.os=w.os
 tape:w'.tape=w.tape
 output:w'.output=w.output
 size:w.heap.size<=↑w'
 low:∀k,k<B->k∉L->w'.heap[k]?=w.heap[k]?
theorem Lw.refl (B:Nat)(L:LN)(w:O1):Lw B L w w:=⟨O,O,O,Lp _,λ_ _ _=>O⟩
theorem Lw.D {B:Nat}{L:LN}{E w w':O1}(h:Lw B L E w)(k:Lw B L w w'):Lw B L E w' :=
 ⟨k.os.D h.os,k.tape.D h.tape,k.output.D h.output,Lx h.size k.size,λi hi G=>(k.low i hi G).D (h.low i hi G)⟩
theorem O5.lw {E:O1}(h:O5 L w w')(k:Lw ↑w L w' E):O5 L w E :=
 ⟨k.os.D h.os,k.tape.D h.tape,k.output.D h.output,Lx h.size k.size,λi hi G=>(k.low i hi G).D (h.block i hi G)⟩
structure XX (B:Nat)(L:LN)(W W':O1):Prop where
 lw:Lw B L W W'
 other:∀(k:Nat) (o:Obj),W.heap[k]?=some o->o.isCells=false->W'.heap[k]?=some o
theorem XX.refl (B:Nat)(L:LN)(w:O1):XX B L w w:=⟨Lw.refl _ _ _,λ_ _ h _=>h⟩
theorem XX.D {B:Nat}{L:LN}{E w w':O1}(h:XX B L E w)(k:XX B L w w'):XX B L E w':=⟨h.lw.D k.lw,λi o hi G=>k.other i o (h.other i o hi G) G⟩
theorem XX.J {X:LN}{W:O1}(h:O5 X W W')(T:B<=↑W)(hX:∀b∈X,(b∈L\/B<=b)/\∃o:Obj,W.heap[b]?=some o/\o.isCells=true):XX B L W W':=by
 refine⟨⟨h.os,h.tape,h.output,h.size,λk G J=>h.block k oa (λhx=>?_)⟩,λk o G S=>?_⟩
 ·rcases(hX k hx).1 with E|E
  ·exact J E
  omega
 refine(h.block k (LH.1 G).1 (λhx=>?_)).D G;obtain⟨U,E,I⟩:=(hX k hx).2;rw[G]at E;cases E;rw[S]at I;cases I
theorem XX.I {W:O1}(h:sW W W')(E:B<=↑W):XX B L W W':=XX.J h E (λ_ hb=>by cases hb)
theorem QL.cells {H:xA}{b:Nat}(h:QL H b T cs):∃o:Obj,H[b]?=some o/\o.isCells=true:=⟨_,h,O⟩
theorem XX.blk {W:O1}{b:Nat}(h:O5 [b] W W')(E:B<=↑W)(hb:QL ↑W b T cs)(G:b∈L\/B<=b):XX B L W W' :=
 XX.J h E (λc I=>by
  have e:c=b:=by simpa using I
  subst e;exact⟨G,hb.cells⟩)
def Ye (B:Nat)(I:xz):Prop:=∀W W' X,I W->O5 X W W'->(∀r∈X,B<=r/\∃o:Obj,W.heap[r]?=some o/\o.isCells=false)->I W'
theorem Ye.own {I:β->O1->Prop}(h:∀s,Ye B (I s)):OwnFrom B I:=λs W W' row G J S =>
 h s W W' _ G (O5.of_grown J) (λr E=>S r (by cases row <;> simp at E ⊢;exact E.symm))
theorem Ye.blk {b:Nat}:Ye B (λW=>QL ↑W b T cs):=λW W' X h G hX=>h.J G (λhb=>by
 obtain⟨_,o,E,I⟩:=hX b hb;unfold QL at h;rw[h]at E;cases E;cases I)
theorem Ye.and {I J:xz}(h:Ye B I)(k:Ye B J):Ye B (λW=>I W/\J W):=λW W' X hi E hX=>⟨h W W' X hi.1 E hX,k W W' X hi.2 E hX⟩
theorem Ye.ex {I:β->O1->Prop}(h:∀z,Ye B (I z)):Ye B (λW=>∃z,I z W):=λW W' X ⟨z,hi⟩ E hX=>⟨z,h z W W' X hi E hX⟩
theorem Ye.pure (p:Prop):Ye B (λ_=>p):=λ_ _ _ h _ _=>h
theorem Ye.J (G:↑w<=B):Ye B (λW=>O5 L w W):=λW W' X h E hX=>h.O E (λb hb=>.inr (oo (hX b hb).1))
theorem Zb {e:Nat}{v:O2}(h:w.ownsRow base e sz v n cs):∀b∈ob v,∃o:Obj,w.heap[b]?=some o/\o.isCells=true:=by
 intro b hb;rcases h.2 with⟨E,_⟩|⟨g,cap,cur,E,I,G,_⟩
 ·subst E;simp[ob]at hb
 subst E;simp[ob]at hb;subst hb;exact⟨_,G,O⟩
theorem Ye.row {e:Nat}{v:O2}:Ye B (λW=>W.ownsRow base e sz v n cs):=λW W' X h I hX=>Qg h I (λb hb hx=>by
 obtain⟨_,o,J,S⟩:=hX b hx;obtain⟨T,E,G⟩:=Zb h b hb;rw[J]at E;cases E;rw[S]at G;cases G)
theorem Qf5 {Q:Exit->LN->Fr->O1->Prop}{g:O3}{p:Nat}{assign body:Code}(L:LN)(Y:1<=m)
    [hF:Fu P gf fn]  (hg:ev f g=.func (.func gf) #[] capt.toArray) {enc:α->O2} {S:List α->Prop}  (hp:p<n)
  (hh:SeqStopsK (fen none) (m - 1) P gf capt.toArray (λx=>#[enc x]) (Lw ↑w L) S (λ_=>True) N w)
  (I:List α->O1->Prop) (hI:∀s,Ye ↑w (I s)) (h0:I [] w) (A:Fr->α->Fr->O1->Prop) (hA:∀x E,Ye ↑w (A f x E))
  (he:∀l pre x W,I pre W->WG (some l) (m - 1 - 1) P n assign (Qds (λhc E W'=>hc=[]/\XX ↑w L W W'/\I pre W'/\A f x E W') (λ_ _ _ _=>False)) [] (upd f p (enc x)) W)
  (hf:∀l pre x E W,I pre W->A f x E W->pre.length<N->WG (some l) (m - 1 - 1) P n body (Qds (λ_ _ W'=>XX ↑w L W W'/\I (pre++[x]) W') (λ_ _ _ _=>False)) [] E W)
  (hj:∀D xs W,↑w<=D->S xs->I xs W->W.heap[D]?=some (.deferred (some []))->Q .normal (D::ds) f W):
  WG none m P n (.rangeFunc g #[p] assign body) Q ds f w:=by
 unfold WG at he hf ⊢;intro a U;have eg:∀args w,(callFunc gf args).run P w=.ok (.enter gf args) w:=by
  intro args w;have Y:¬fn.name = "runtime.NumGoroutine" := by simpa using hF.nm
  have T:¬fn.body=none:=by have:=hF.b;intro e;rw[e]at this;cases this
  simp[callFunc,hF.f,Y,T]
 have keep:∀{W W':O1},XX ↑w L W W'->KeepsFrom ↑w W W':=λh=>⟨h.lw.size,λk o _ hk ho=>h.other k o hk ho⟩;refine wpIn_rangeFunc_ownH (F:=fen none) O Y (gf:=gf) (lb:=capt.toArray) (by rw[U.eval];exact hg) Z eg hh (λh k=>h.D k)
  (λW l o o' hl ho _ _=>⟨O,O,O,od,λk hk _=>World.putObj_heap_other oa⟩) (Below.refl _ _) (λ_=>rfl) I (λ_ _ _=>False) (Ye.own hI) (λ_ _ _ _ _ hs _ _=>hs) h0
  (λx V W=>∃E,Xf n [] V E/\A f x E W) (λx V=>Ye.own λ_=>Ye.ex λE=>Ye.and (Ye.pure _) (hA x E)) ?_ ?_ ?_ ?_
 ·intro l pre x W K hi hK;have hr:Xf n [] { tmps:=((#[p]:Array Nat).zip #[enc x]).foldl (λt (p,v)=>t.setIfInBounds p v) a.tmps,defers:=[] } (upd f p (enc x)):=by
   have T:Xf n [] { a with defers:=[] } f:=⟨U.size,O,U.get⟩
   have G:=T.put (dst:=some p) (λd e=>by cases e;exact hp) (enc x);have e:((#[p]:Array Nat).zip #[enc x]).foldl (λt (p,v)=>t.setIfInBounds p v) a.tmps=a.tmps.setIfInBounds p (enc x):=od
   rw[e];exact G
  refine wpIn_mono (he l pre x W hi _ hr) ?_;rintro e V W' ⟨hc,E,T,_,G⟩;cases e with
  | normal=>obtain⟨rfl,h4,J,h6⟩:=G;exact hK V W' (keep h4) h4.lw J ⟨E,T,h6⟩
  | exit id=>exact G.elim
  | goto l=>exact G.elim
  | ret=>exact G.elim
  | panic ch=>exact G.elim
  | outgrown=>exact G.elim
 ·rintro l pre x V W _ _ hi ⟨E,T,G⟩ hm;refine wpIn_mono (hf l pre x E W hi G hm V T) ?_;rintro e hn W' ⟨hc,hq,h4,_,J⟩;cases e with
  | normal=>exact⟨keep J.1,J.1.lw,J.2⟩
  | exit id=>exact J.elim
  | goto l=>exact J.elim
  | ret=>exact J.elim
  | panic ch=>exact J.elim
  | outgrown=>exact J.elim
 ·intro D xs W hD hS hi hd;exact⟨D::ds,f,⟨U.size,by rw[show coll (D::ds)={ target:=.collected D,args:=#[] }::coll ds from rfl,U.defers],U.get⟩,λ_ _=>rfl,hj D xs W hD hS hi hd⟩
 intro D c pre W _ _ h _;exact h.elim
def Qpw (P:O4)(t:Nat):Option (LV×xu):=match P.info? t,P.underlying t with
 | some it,some (.struct fs)=>match it.zero,fs.toList.mapM (λf=>(P.info? f.type).map λi=>(f.offset,i.size)) with
  | some (.agg zs),some pl=>some (zs.toList,pl)
  | _,_=>none
 | _,_=>none
class Bw (P:O4)(t:Nat)(zs:outParam (LV))(pl:outParam xu):Prop where
 h:Qpw P t=some (zs,pl):=by first|kernel_rfl|decide|rfl|exact sX (by kernel_rfl)
 b:pl.all (λx=>x.1+x.2<=zs.length)=true:=by first|kernel_rfl|decide|rfl|exact sX (by kernel_rfl)
def QbS:LV->Nat->LV->LV
 | zs,_,[]=>zs
 | zs,o,u::us=>QbS (zs.set o u) (o+1) us
def QkE (pl:xu)(zs:LV):List (Nat×LV)->LV
 | []=>zs
 | (j,us)::ps=>QkE pl (QbS zs (pl.getD j (0,0)).1 us) ps
def Qnx:List (Nat×O2)->List (Nat×LV)->Prop
 | [],[]=>True
 | (j,v)::vs,(j',us)::uss=>v.cells=us.toArray/\j=j'/\Qnx vs uss
 | _,_=>False
theorem QbR:∀(us zs:LV) (o:Nat),(QbS zs o us).length=zs.length
 | [],_,_=>rfl
 | u::us,zs,o=>by rw[QbS,QbR us,MX]
theorem jv (o:Nat):∀(us:LV) (k:Nat) (zs:LV),(us.zipIdx k).foldl (λ(cs:Array O2) (x:O2×Nat)=>cs.setIfInBounds (o+x.2) x.1) zs.toArray=(QbS zs (o+k) us).toArray
 | [],_,_=>rfl
 | u::us,k,zs=>by
  rw[ND,LO,QbS];have:=jv o us (k+1) (zs.set (o+k) u);rw[<-List.setIfInBounds_toArray]at this;exact this
theorem QjJ {pl:xu}:∀(vs:List (Nat×O2)) (uss:List (Nat×LV)) (zs:LV),Qnx vs uss->uss.all (λp=>p.1<pl.length && (p.2.length == (pl.getD p.1 (0,0)).2))=true ->
  (∀x∈pl,x.1+x.2<=zs.length)->Instr.fill (pl.toArray[·]?) zs.toArray vs=some (QkE pl zs uss).toArray
 | [],[],zs,_,_,_=>rfl
 | [],_::_,_,h,_,_=>h.elim
 | _::_,[],_,h,_,_=>h.elim
 | (j,v)::vs,(j',us)::uss,zs,I,G,J=>by
  obtain⟨T,rfl,I⟩:=I;simp only[Ob,oI,decide_eq_true_eq,beq_iff_eq]at G;obtain⟨⟨E,hl⟩,G⟩:=G;have S:pl.getD j (0,0)=pl[j]'E:=by simp[oO,E]
  have U:=J _ (Le E);unfold Instr.fill;simp only[oR,oV E,T];rw[S]at hl;rw[OT (by simp only[Od,hl,ne_eq,not_true,decide_false,Bool.false_or,decide_eq_true_eq];omega)];have e:=jv (pl[j]'E).1 us 0 zs;rw[MY]at e;have e2:(us.toArray.zipIdx).foldl (λ(cs:Array O2) (x:O2×Nat)=>cs.setIfInBounds ((pl[j]'E).1+x.2) x.1) zs.toArray=(QbS zs (pl[j]'E).1 us).toArray:=by
   rw[<-e];simp
  rw[e2,QkE,S];simpa only[oR]using(QjJ vs uss (QbS zs (pl[j]'E).1 us) I G (λx hx=>by rw[QbR];exact J x hx))
theorem Qeo {zs:LV}{pl:xu}(h:Qpw P t=some (zs,pl))(hb:pl.all (λx=>x.1+x.2<=zs.length)=true)(vs:List (Nat×O2))(uss:List (Nat×LV))(J:Qnx vs uss)
  (S:uss.all (λp=>p.1<pl.length && (p.2.length == (pl.getD p.1 (0,0)).2))=true):P.built t vs=some (QkE pl zs uss).toArray:=by
 have T:∀x∈pl,x.1+x.2<=zs.length:=λo U=>ou (Mc.1 hb o U)
 unfold Qpw at h;unfold Program.built;cases hi:P.info? t with
 | none=>simp[hi]at h
 | some it =>
  cases I:P.underlying t with
  | none=>simp[hi,I]at h
  | some dd =>
   simp only[hi,I]at h;cases dd <;> simp only[]at h <;> try (cases h)
   case struct fs =>
    cases E:it.zero with
    | none=>simp[E]at h
    | some z =>
     cases z <;> simp only[E]at h <;> try (cases h)
     rename_i za;cases G:fs.toList.mapM (λf=>(P.info? f.type).map λi=>(f.offset,i.size)) with
     | none=>simp[G]at h
     | some pl' =>
      simp only[G,Option.some.injEq,Prod.mk.injEq]at h;obtain⟨rfl,rfl⟩:=h;simp only[E,G,Value.cells];exact QjJ vs uss za.toList J S T
theorem Zu {zs:LV}{pl:xu}[h:Bw P t zs pl]{parts:List (Nat×O3)}(uss:List (Nat×LV))
  (E:Qnx (parts.map λx=>(x.1,ev f x.2)) uss) (G:uss.all (λp=>p.1<pl.length && (p.2.length == (pl.getD p.1 (0,0)).2))=true:=by rfl):
  (execOp (ev f) ⟨d,.build t parts.toArray,ty,pS,af,gd⟩).run P w=.ok (.value (sT (QkE pl zs uss))) w:=by
 simp only[execOp,Sem.run_bind,(run_build (P:=P) w t (parts.toArray.map λ(i,x)=>(i,ev f x)) _ (by simpa using(Qeo h.h h.b _ uss E G))),Result.andThen_ok,Sem.run_pure]
def cnE (p:Ed->Bool)(es:List Ed):Int:=((es.filter p).length:Int)
theorem QcL (p:Ed->Bool)(es:List Ed)(e:Ed):cnE p (es++[e])=cnE p es+if p e=true then 1 else 0:=by
 unfold cnE;rw[LT,Lc];by_cases h:p e=true
 ·simp[h]
 simp[h]
theorem VV (p:Ed->Bool)(es:List Ed):0<=cnE p es/\cnE p es<=es.length:=by
 unfold cnE;have:=LJ p es;omega
def gA (n:Nat)(f:Nat->Int):LI:=(oJ n).map f
theorem Qo4 (n:Nat)(f:Nat->Int):(gA n f).length=n:=by simp[gA]
theorem QjD {f:Nat->Int}(h:i<(gA n f).length):(gA n f)[i]'h=f i:=by simp[gA]
theorem Qd5 {f g:Nat->Int}{u:Int}(G:u=g i)(h:∀j,j<n->j≠i->g j=f j):(gA n f).set i u=gA n g:=by
 apply LX
 ·simp[gA]
 intro k I E;rw[M2,QjD E];by_cases e:i=k
 ·rw[OU e,G,e]
 rw[OT e,QjD];exact(h k (by simpa[gA]using E) (Ne.symm e)).symm
theorem Qcu {f g:Nat->Int}(h:∀j,j<n->f j=g j):gA n f=gA n g:=List.map_congr_left (λj E=>h j (MB.1 E))
def cN (es:List Ed)(s:Nat):Int:=cnE (λe=>decide (e.1+1=(s:Int))) es
def fS (es:List Ed)(s:Nat):Int:=cnE (λe=>decide (e.1<(s:Int))) es
theorem Qfz (es:List Ed)(s:Nat):fS es (s+1)=cN es (s+1)+fS es s:=by
 unfold fS cN cnE;induction es with
 | nil=>rfl
 | cons e es ih =>
  simp only[OA];by_cases I:e.1<(s:Int)
  ·have G:e.1<((s+1:Nat):Int):=oa
   have E:¬e.1+1=((s+1:Nat):Int):=oa
   simp only[I,G,E,decide_true,decide_false,if_true,oQ]at ih ⊢;simp only[Ok,if_false]at ih ⊢;omega
  by_cases G:e.1+1=((s+1:Nat):Int)
  ·have E:e.1<((s+1:Nat):Int):=oa
   simp only[I,G,E,decide_true,decide_false,if_true,oQ]at ih ⊢;simp only[Ok,if_false]at ih ⊢;omega
  have E:¬e.1<((s+1:Nat):Int):=oa
  simp only[I,G,E,decide_false,Ok,if_false]at ih ⊢;exact ih
theorem Qfy (h:∀e∈es,0<=e.1):fS es 0=0/\cN es 0=0:=by
 unfold fS cN cnE;refine⟨?_,?_⟩
 ·have:(es.filter λe=>decide (e.1<((0:Nat):Int)))=[]:=MH.2 (λe E=>by have:=h e E;simp;omega);rw[this];rfl
 have:(es.filter λe=>decide (e.1+1=((0:Nat):Int)))=[]:=MH.2 (λe E=>by have:=h e E;simp;omega);rw[this];rfl
def mX (es:List Ed)(s j:Nat):Int:=if j<=s then fS es j else cN es j
theorem Ql7 (h:∀e∈es,0<=e.1)(n:Nat):gA n (cN es)=gA n (mX es 0):=Qcu λj _=>by
 unfold mX;by_cases e:j<=0
 ·have:j=0:=oa
  subst this;rw[OU (Lp _),(Qfy h).1,(Qfy h).2]
 rw[OT e]
theorem Ql8 (es:List Ed)(s n:Nat):(gA n (mX es s)).set (s+1) (mX es s (s+1)+mX es s s)=gA n (mX es (s+1)):=by
 refine Qd5 ?_ λj _ E=>?_
 ·unfold mX;rw[OT oa,OU (Lp _),OU (Lp _),Qfz]
 unfold mX;by_cases e:j<=s
 ·rw[OU oa,OU e]
 rw[OT oa,OT e]
theorem Qnc (es:List Ed)(e:Ed)(E:0<=e.1)(n:Nat):(gA n (cN es)).set (e.1.toNat+1) (cN es (e.1.toNat+1)+1)=gA n (cN (es++[e])):=by
 refine Qd5 ?_ λj _ G=>?_
 ·unfold cN;rw[QcL,OU (by simp;omega)]
 unfold cN;rw[QcL,OT (by simp;omega)];simp
theorem jL (n:Nat):(oG n (sS 0).cells.toList).flatten=(gA n (cN [])).map (Value.int .i64):=by
 apply LX
 ·simp[Value.cells,gA]
 intro i E G;simp[Value.cells,gA,cN,cnE]
theorem Ug [XN P t]{x:O3}{b:Nat}{g:Nat->Int}(h:QL ↑w b T ((gA n g).map (.int .i64)))(hx:ev f x=.pointer (some ⟨b,0+i*1,none⟩))(hi:i<n):
  (execOp (ev f) ⟨d,.load t x,ty,pS,af,gd⟩).run P w=.ok (.value (sS (g i))) w:=Ql h hx (by simp[gA,hi])
theorem zV [h1:XN P t]{x:O3}{b:Nat}{g E:Nat->Int}{u:Int}(G:QL ↑w b T ((gA n g).map (.int .i64)))(hx:ev f x=.pointer (some ⟨b,0+i*1,none⟩))(I:ev f y=sS u)(hi:i<n)(J:(gA n g).set i u=gA n E)
  (hK:∀w',O5 [b] w w'->QL ↑w' b T ((gA n E).map (.int .i64))->K (QP f d undef) w'):XO P ⟨d,.store t x y,ty,pS,af,gd⟩ f w K :=
 Ka G hx I (by rw[Qo4];exact hi) λw' S U=>hK w' S (by rw[<-J];exact U)
instance:Bw sV 304 [nS,sS 0,nS,nS,nS] [(0,4),(4,1)]:={}
theorem Qcg (h:Zp [] ↑w va vm ve a)(hn:a.st=(n:Int))(hS:a.st<=4096)(h4:∀e∈a.ed,0<=e.1/\e.1<a.st):
  QR sV 198 [.agg #[va,sS a.st,vm,ve]] w λr w'=>sW w w'/\∃b,r=.agg #[va,sS a.st,vm,ve,sL b (n+1) (n+1)]/\↑w<=b/\QL ↑w' b 3 ((gA (n+1) (fS a.ed)).map (Value.int .i64)):=by
 have hT:=h.ed.le;refine Zm func198 ?_;refine Qc<|Za [va,sS a.st,vm,ve] λb1 w1 hv hD hE=>QN [nS,sS 0,nS,nS,nS] λb2 G hw hU h5=>xe ?_;have ha:=hE.I hw;have hp:a.st+1=((n+1:Nat):Int):=oa
 have hy:sW G { G with drawn:=G.drawn+1 }:=O5.X [] G
 have hV:=hy.size;refine QX (α:=Nat×Nat) [(3,3),(7,12)] (λz=>[(3,.pointer (some ⟨z.1,0,none⟩))]) (λz w'=>sW G w'/\QL ↑w' z.1 304 [va,sS a.st,vm,ve,.slice (some ⟨z.2,0,none⟩) (n+1) (n+1)]/\QL ↑w' z.2 3 ((gA (n+1) (cN [])).map (Value.int .i64))/\↑G<=z.1/\↑G<=z.2/\z.1≠z.2) oh ?_ ?_
 ·refine Qf0 (sW G) (.f2 [oz 0,oz 1,oz 2,oz 3] 4 6 (.pl [oz 5,oA 6,oA 7]) (.pl [oA 4,oz 5,oA 7])) mixed oh oc (O5.X _ _) ?_;refine u2<|pq (λ_ E=>Q7 (ha.I E) O O)<|p (QH O)<|pq (λ_ E=>Ql (ha.I E) O O)<|p (λ_=>Xp O O ⟨oa,oa⟩)<|pe ⟨?_,?_⟩
  ·refine ue<|YZ (n:=n+1) (OV sS hp) (OV sS hp) oa λb11 w3 hz hF hq=>?_;have hf:=hy.D hz;have hW:=hq.lt;refine⟨hf,?_⟩;refine uP<|p (λ_=>Zu [(0,[va,sS a.st,vm,ve]),(1,[sL b11 (n+1) (n+1)])] ⟨O,O,O,O,Z⟩)<|pk<|YU (us:=[nS,sS 0,nS,nS,nS]) O λT w4 hg h6 U=>?_;have I:=hf.D hg;refine⟨I,?_⟩;refine pk<|Uk [va,sS a.st,vm,ve,sL b11 (n+1) (n+1)] U ⟨h.al.one,O,h.mr.one,h.ed.one,O,Z⟩ λw5 J hh=>⟨I.Q J oa,pe ?_⟩;have h0:QL ↑w3 b11 3 ((gA (n+1) (cN [])).map (Value.int .i64)):=by rw[<-jL];exact hq
   exact⟨(T,b11),La,I.Q J oa,hh,(h0.I hg).J J (by simp;omega),oe,oe,oe⟩
  refine ue<|YU (us:=[nS,sS 0,nS,nS,nS]) O λT w3 hz h6 U=>?_;have hf:=hy.D hz;have hX:=U.lt;refine⟨hf,?_⟩;refine uP<|pk<|YZ (n:=n+1) (OV sS hp) (OV sS hp) oa λb11 w4 hg hF hq=>?_;have I:=hf.D hg;refine⟨I,?_⟩;refine p (λ_=>Zu [(0,[va,sS a.st,vm,ve]),(1,[sL b11 (n+1) (n+1)])] ⟨O,O,O,O,Z⟩)<|pk<|Uk [va,sS a.st,vm,ve,sL b11 (n+1) (n+1)] (U.I hg) ⟨h.al.one,O,h.mr.one,h.ed.one,O,Z⟩ λw5 J hh=>⟨I.Q J oa,pe ?_⟩;have h0:QL ↑w4 b11 3 ((gA (n+1) (cN [])).map (Value.int .i64)):=by rw[<-jL];exact hq
  exact⟨(T,b11),La,I.Q J oa,hh,h0.J J (by simp;omega),oe,oe,oe⟩
 rintro⟨T,bF⟩ g6 w6 ⟨h7,U,hG,h6,h8,hY⟩;have hZ:=ha.lt;have ga:=h5.lt;refine Qd<|Qc<|Qq O (ha.I h7) O O<|QG h.ed O<|Qa<|xe ?_;have hH:∀e∈a.ed,0<=e.1:=λe he=>(h4 e he).1;refine QW (α:=Nat) [(5,5),(16,29)] (λz=>[(16,sS z)]) (λz w'=>z<=a.ed.length/\sW G w'/\QL ↑w' T 304 [va,sS a.st,vm,ve,sL bF (n+1) (n+1)]/\QL ↑w' bF 3 ((gA (n+1) (cN (a.ed.take z))).map (Value.int .i64))) (λz=>a.ed.length - z) 0 La
  ⟨Lo _,h7,U,hG⟩ ?_
 rintro k g w7 ⟨hk,hr,h1,hs⟩;refine Zk rfl O (λh2=>?_) (λh2=>?_)
 ·refine Qt ?_;have hI:a.ed.length<=k:=by have ht:¬(k:Int)<(a.ed.length:Int):=h2;omega
  rw[Lq hI,Ql7 hH (n+1)]at hs;refine Qd<|Qc<|Qq O (ha.I hr) O O<|Qa<|xe<|QW (α:=Nat) [(6,6),(32,48)] (λz=>[(32,sS z)]) (λz w'=>z<=n/\sW G w'/\QL ↑w' T 304 [va,sS a.st,vm,ve,sL bF (n+1) (n+1)]/\QL ↑w' bF 3 ((gA (n+1) (mX a.ed z)).map (Value.int .i64))) (λz=>n - z) 0 La
   ⟨Lo _,hr,h1,hs⟩ ?_
  rintro j g w8 ⟨hj,hm,hu,V⟩;refine Zk O O (λh9=>?_) (λh9=>?_)
  ·refine Qt ?_;have h3:j=n:=oa
   rw[h3]at V;have hJ:gA (n+1) (mX a.ed n)=gA (n+1) (fS a.ed):=Qcu λi hi=>by unfold mX;rw[OU oa]
   rw[hJ]at V;refine Qc<|QV hu O O<|Q2 [va,sS a.st,vm,ve,sL bF (n+1) (n+1)] (h5.I hm) ⟨h.al.one,O,h.mr.one,h.ed.one,O,Z⟩ λw9 S hK=>xe ?_;have gb:=hv.size;refine Qh ⟨[_],⟨Jl hK,Z⟩,((hv.D hw).D hm).Q S oa,bF,O,oa,V.J S (by simp;omega)⟩
  have h3:j<n:=by have gc:(j:Int)<a.st:=h9;omega
  have ge:=VV (λe:Ed=>decide (e.1<(j:Int))) a.ed;have gg:=VV (λe:Ed=>decide (e.1+1=((j+1:Nat):Int))) a.ed;have hL:mX a.ed j (j+1)=cN a.ed (j+1):=by unfold mX;rw[OT oa]
  have hM:mX a.ed j j=fS a.ed j:=by unfold mX;rw[OU (Lp _)]
  have hD:0<=mX a.ed j (j+1)/\mX a.ed j (j+1)<=1099511627776:=by rw[hL];unfold cN;omega
  have gh:0<=mX a.ed j j/\mX a.ed j j<=1099511627776:=by rw[hM];unfold fS;omega
  refine Qf<|Qd<|Qn<|Qk<|Qb<|ZL [] (Xg 0 14 [13])<|p (QH O)<|pq (λ_ E=>Ql (hu.I E) O O)<|p Qx<|p (λ_=>Xp O O ⟨oa,oa⟩) <|
   p (λ_=>QF (i:=j+1) O O oa)<|pq (λ_ E=>Ug (i:=j+1) (V.I E) O oa)<|p (QH O)<|pq (λ_ E=>Ql (hu.I E) O O) <|
   p Qx<|p (λ_=>QF (i:=j) O O oa)<|pq (λ_ E=>Ug (i:=j) (V.I E) O oa)<|p (λ_=>Xp O O ⟨oa,oa⟩) <|
   p (λ_=>QF (i:=j+1) O O oa)<|pkk<|zV (i:=j+1) (V.I (O5.X [] w8)) O O oa (Ql8 a.ed j (n+1)) λw9 S hN=>pe ?_
  refine Qs<|QD O O<|Qa<|xe ?_;exact⟨j+1,oa,La,h3,(hm.D (O5.X [] w8)).Q S h8,(hu.I (O5.X [] w8)).J S (by simp;omega),hN⟩
 have Y:k<a.ed.length:=by have ht:(k:Int)<(a.ed.length:Int):=h2;omega
 have hA:a.ed.take (k+1)=a.ed.take k++[a.ed[k]'Y]:=Lj Y;have hB:=h4 _ (Le Y);refine Zg (a.ed[k]'Y) λe he=>?_;rw[he]at hA hB;have hfr:e.1+1=((e.1.toNat+1:Nat):Int):=oa
 have hO:=VV (λd:Ed=>decide (d.1+1=((e.1.toNat+1:Nat):Int))) (a.ed.take k);have gi:0<=cN (a.ed.take k) (e.1.toNat+1)/\cN (a.ed.take k) (e.1.toNat+1)<=1099511627776:=by unfold cN;rw[LC]at hO;omega
 refine Qf<|Qd<|Qn<|Qc<|xie ((h.I (hv.D hw)).ed.I hr) O O Y λgj ht=>?_;rw[he]at ht;refine x (QA ht O O)<|QN [sS 0,sS 0,sS 0] λb5 w8 hm hP hh=>Q2 (Qp e) hh ox λw9 S hQ=>xe ?_;have ho:sW w7 w9:=hm.Q S hP;refine Qs<|Qq O (h1.I ho) O O<|Qq O hQ O O<|QD O O<|x (QF (i:=e.1.toNat+1) O (OV sS hfr) oa) <|
  x (Ug (i:=e.1.toNat+1) (hs.I ho) O oa)<|QD O O<|x (QF (i:=e.1.toNat+1) O (OV sS hfr) oa) <|
  Qo<|zV (i:=e.1.toNat+1) (hs.I ho) O O oa (Qnc (a.ed.take k) e hB.1 (n+1)) λgk hC hR=>xe ?_
 refine Qs<|QD O O<|Qa<|xe<|⟨k+1,oa,La,Y,(hr.D ho).Q hC h8,(h1.I ho).J hC (by simp;omega),?_⟩;rw[hA];exact hR
open Go.RowKit
section
variable {l:xD}
end
def Xr {α:Type}(f:Nat->α)(i:Nat)(x:α):Nat->α:=λj=>if j=i then x else f j
theorem Zy (f:Nat->α)(i:Nat)(x:α):Xr f i x i=x:=by simp[Xr]
theorem ZQ (f:Nat->α)(x:α)(h:j≠i):Xr f i x j=f j:=by simp[Xr,h]
theorem J5 (k:α->β)(n:Nat)(f:Nat->α)(i:Nat)(x:α):((oJ n).map λj=>k (f j)).set i (k x)=(oJ n).map λj=>k (Xr f i x j):=by
 apply LX
 ·simp
 intro j E G;rw[M2];by_cases e:i=j
 ·subst e;simp[Zy]
 rw[OT e];simp[ZQ _ _ (Ne.symm e)]
structure VE (base:Nat)(w:O1)(n:Nat)(f:Nat->O2)(g:Nat->LI):Prop where
 own:∀i,i<n->Qi 3 base w (f i) (g i)
 dj:∀i j,i<n->j<n->i≠j->Dj (f i) (f j)
theorem VE.app {f:Nat->O2}{g:Nat->LI}(h:VE base w n f g)(hi:i<n)(T:Qi 3 base w' v' l)(U:O5 (ob (f i)) w w')
  (V:∀b∈ob v',b∈ob (f i)\/↑w<=b):VE base w' n (Xr f i v') (Xr g i l):=by
 refine⟨λj E=>?_,λj k E I G=>?_⟩
 ·by_cases e:j=i
  ·subst e;rw[Zy,Zy];exact T
  rw[ZQ _ _ e,ZQ _ _ e];exact Qg (h.own j E) U (h.dj j i E hi e)
 have key:∀j,j<n->j≠i->Dj v' (f j):=λj E e b hb J=>by
  rcases V b hb with S|S
  ·exact h.dj i j hi E (Ne.symm e) b S J
  have:=QU (h.own j E) b J;omega
 by_cases e1:j=i
 ·subst e1;rw[Zy,ZQ _ _ (Ne.symm G)];exact key k I (Ne.symm G)
 rw[ZQ _ _ e1];by_cases e2:k=i
 ·subst e2;rw[Zy];exact(key j E e1).symm
 rw[ZQ _ _ e2];exact h.dj j k E I G
theorem VE.J {X:LN}{f:Nat->O2}{g:Nat->LI}(h:VE base w n f g)(E:O5 X w w')(hX:∀i,i<n->∀b∈ob (f i),b∉X):VE base w' n f g :=
 ⟨λi hi=>Qg (h.own i hi) E (hX i hi),h.dj⟩
theorem VE.I {f:Nat->O2}{g:Nat->LI}(h:VE base w n f g)(E:sW w w'):VE base w' n f g:=h.J E (λ_ _ _ _=>od)
def Y1 (es:List Ed)(s:Nat):LI:=(es.filter λe=>decide (e.2.2=(s:Int))).map (·.1)
theorem Qd0 (es:List Ed)(e:Ed)(E:0<=e.2.2):∀s,Xr (Y1 es) e.2.2.toNat (Y1 es e.2.2.toNat++[e.1]) s=Y1 (es++[e]) s:=by
 intro s;unfold Y1;rw[LT,Lv];by_cases h:s=e.2.2.toNat
 ·subst h;rw[Zy];have:e.2.2=(e.2.2.toNat:Int):=oa
  simp[<-this]
 rw[ZQ _ _ h];have:¬e.2.2=(s:Int):=oa
 simp[this]
theorem QgJ {s:Nat}{p:Int}(h:p∈Y1 es s):∃e∈es,e.1=p/\e.2.2=(s:Int):=by
 unfold Y1 at h;simp only[Ol,Oi,decide_eq_true_eq]at h;obtain⟨e,⟨E,G⟩,I⟩:=h;exact⟨e,E,I,G⟩
theorem qd (es:List Ed)(s:Nat):(Y1 es s).length<=es.length:=by
 unfold Y1;rw[Ll];exact LJ _ _
def bwE (s:Int)(st:LI×LI)(p:Int):LI×LI:=if O6 st.1 p.toNat<0 then(st.1.set p.toNat (O6 st.1 s.toNat+1),st.2++[p]) else st
def qX (n:Nat)(to:LI):LI:=(oJ n).map λi:Nat=>if(i:Int)∈to then 0 else -1
structure QkX (n:Nat)(o q:LI):Prop where
 len:o.length=n
 q:∀x∈q,0<=x/\x<(n:Int)
 le:∀x∈o,-1<=x/\x+(neg o:Int)<=n
theorem Qoz (l:LI):neg l<=l.length:=LJ _ _
theorem Qpx {p:Int}{st:LI×LI}(h:QkX n st.1 st.2)(Y:0<=s/\s<(n:Int))(E:0<=O6 st.1 s.toNat)(S:0<=p/\p<(n:Int)):
  QkX n (bwE s st p).1 (bwE s st p).2/\neg (bwE s st p).1+(bwE s st p).2.length=neg st.1+st.2.length/\0<=O6 (bwE s st p).1 s.toNat:=by
 unfold bwE;have hl:=h.len;have G:p.toNat<st.1.length:=oa
 have T:s.toNat<st.1.length:=oa
 by_cases I:O6 st.1 p.toNat<0
 ·rw[OU I];have U:st.1[p.toNat]'G<0:=by rw[ZA G];exact I
  have hv:=h.le _ (Xv T);have ha:=Un st.1 p.toNat (O6 st.1 s.toNat+1) G U oa;refine⟨⟨by simp[hl],λx hx=>?_,λx hx=>?_⟩,?_,?_⟩
  ·simp only[oW,oF]at hx;rcases hx with hx|rfl
   ·exact h.q x hx
   exact S
  ·simp only[]at hx ⊢;rcases Nv hx with J|J
   ·have:=h.le x J;omega
   subst J;omega
  ·simp only[oM,oL];omega
  simp only[];have V:s.toNat≠p.toNat:=λe=>by rw[e]at E;omega
  have:O6 (st.1.set p.toNat (O6 st.1 s.toNat+1)) s.toNat=O6 st.1 s.toNat:=by
   unfold O6;simp[oO,List.getElem?_set_ne (Ne.symm V)]
  rw[this];exact E
 rw[OT I];exact⟨h,rfl,E⟩
theorem UJ (n:Nat)(to:LI):(qX n to).length=n:=by simp[qX]
theorem Qpy {to:LI}(h:∀x∈to,0<=x/\x<(n:Int)):QkX n (qX n to) to:=by
 refine⟨UJ n to,h,λx hx=>?_⟩;have E:=Qoz (qX n to);rw[UJ]at E;unfold qX at hx;simp only[Ol]at hx;obtain⟨i,_,rfl⟩:=hx;split <;> omega
theorem Qnf {to:LI}{x:Int}(h:0<=x/\x<(n:Int))(hx:x∈to):O6 (qX n to) x.toNat=0:=by
 have E:x.toNat<(qX n to).length:=by rw[UJ];omega
 rw[<-ZA E];have:((x.toNat:Nat):Int)=x:=oa
 simp[qX,this,hx]
def QpH (o q:LI):Prop:=∀x∈q,0<=O6 o x.toNat
theorem QkA {p:Int}{st:LI×LI}(h:QkX n st.1 st.2)(J:0<=O6 st.1 s.toNat)(S:0<=p/\p<(n:Int))(E:QpH st.1 st.2):QpH (bwE s st p).1 (bwE s st p).2:=by
 unfold bwE;have I:p.toNat<st.1.length:=by have:=h.len;omega
 by_cases G:O6 st.1 p.toNat<0
 ·rw[OU G];intro x hx;have e1:O6 (st.1.set p.toNat (O6 st.1 s.toNat+1)) x.toNat=if x.toNat=p.toNat then O6 st.1 s.toNat+1 else O6 st.1 x.toNat:=by
   by_cases e:x.toNat=p.toNat
   ·rw[OU e,e];unfold O6;simp[oO,I]
   rw[OT e];unfold O6;simp[oO,List.getElem?_set_ne (Ne.symm e)]
  rw[e1];split
  ·omega
  rename_i e;simp only[oW,oF]at hx;rcases hx with hx|rfl
  ·exact E x hx
  exact OW O e
 rw[OT G];exact E
theorem Ud (n:Nat):(oG n (nS).cells.toList).flatten=(oJ n).map (λ_=>nS):=by
 apply LX
 ·simp[Value.cells]
 intro i E G;simp[Value.cells]
theorem QgI (n:Nat):(oG n (sS 0).cells.toList).flatten=(gA n (λj=>if j<0 then -1 else 0)).map (Value.int .i64):=by
 apply LX
 ·simp[Value.cells,gA]
 intro i E G;simp[Value.cells,gA]
theorem KY {rv:Nat->O2}(hi:i<n):((oJ n).map rv)[0+i*1]?=some (rv i):=by simp[hi]
theorem QrR {C:xz}{pl:xt}
  {e bys:Nat}  {x G I:O3}  {v:O2}   {H:xA} {k:IntKind} {hi:Nat} [h:Sl P t e sz bys z]
  (J:QT ops E=⟨d,.slice t x (some G) (some I) none,ty,pS,af,gd⟩) (hA:Zt L H v n sz cs) (hx:ev f x=v) (hl:ev f G=.int k lo) (S:ev f I=.int k' hi) (T:lo<=hi) (U:hi<=n)
  (hK:∀v',Zt L H v' (hi - lo) sz ((cs.drop (lo*sz)).take ((hi - lo)*sz))->XP P ops C K pl (QP f d v') w)
  (V:Z8 ops f (QT ops E)=true:=by rfl):XP P ops C K ((E,true)::pl) f w:=by
 obtain⟨v',Y,h4⟩:=Qe3 (P:=P) (d:=d) (ty:=ty) (pS:=pS) (af:=af) (gd:=gd) (t:=t) hA hx hl S T U;exact Lg.p (λw'=>by rw[J];exact h4 w') (by rw[J];exact hK v' Y) V
theorem QfA (G:es.Pairwise λx y=>x.1<=y.1)(s:Nat):∀(m:Nat) (E:m<es.length),(m:Int)<fS es s↔(es[m]'E).1<(s:Int):=by
 unfold fS cnE;induction es with
 | nil=>intro m E;simp at E
 | cons e es ih =>
  intro m E;simp only[OB]at G;have ih:=ih G.2;simp only[OA];by_cases I:e.1<(s:Int)
  ·simp only[I,decide_true,if_true,oQ];cases m with
   | zero=>simp only[Ot];omega
   | succ m =>
    have:=ih m (ou E);simp only[List.getElem_cons_succ];rw[<-this];omega
  have J:(es.filter λe=>decide (e.1<(s:Int)))=[]:=MH.2 (λd hd=>by have:=G.1 d hd;simp;omega);simp only[I,decide_false,Ok,if_false,J,List.length_nil];cases m with
  | zero=>simp only[Ot];omega
  | succ m =>
   have hd:es[m]'(ou E)∈es:=Le _;have:=G.1 _ hd;simp only[List.getElem_cons_succ];omega
theorem QmL (es:List Ed)(s:Nat):fS es s<=fS es (s+1):=by
 have h:=Qfz es s;have:=(VV (λe:Ed=>decide (e.1+1=((s+1:Nat):Int))) es).1;unfold cN at h;omega
theorem Qlw (G:es.Pairwise λx y=>x.1<=y.1)(s lo hi:Nat)(U:fS es s=(lo:Int))(J:fS es (s+1)=(hi:Int)):(es.drop lo).take (hi - lo)=QQ es s/\hi<=es.length/\lo<=hi:=by
 have E:=QmL es s;have hl:=(VV (λe:Ed=>decide (e.1<((s+1:Nat):Int))) es).2;have I:hi<=es.length:=by unfold fS at J;omega
 refine⟨?_,I,oa⟩;exact yw (λe:Ed=>decide (e.1=(s:Int))) es lo hi oa I
  (λm E V=>by have:=(QfA G s m E).1 oa;simp;omega)
  (λm E S Y=>by
   have h5:¬(es[m]'E).1<(s:Int):=λh=>oo ((QfA G s m E).2 h)
   have T:=(QfA G (s+1) m E).1 oa;simp;omega)
  (λm E S=>by
   have T:¬(es[m]'E).1<((s+1:Nat):Int):=λh=>oo ((QfA G (s+1) m E).2 h)
   simp;omega)
theorem jX:∀(l:List Ed) (k:Nat),(l.flatMap Qp).drop (k*3)=(l.drop k).flatMap Qp
 | [],k=>od
 | e::l,0=>od
 | e::l,k+1=>by
  simp only[oT,List.drop_succ_cons,Ou,OL];rw[MV,<-List.drop_drop,show(Qp e++l.flatMap Qp).drop 3=l.flatMap Qp from rfl,jX l k]
theorem jW:∀(l:List Ed) (k:Nat),(l.flatMap Qp).take (k*3)=(l.take k).flatMap Qp
 | [],k=>od
 | e::l,0=>od
 | e::l,k+1=>by
  simp only[oT,List.take_succ_cons,Ou,OL];rw[MV,NC,show(Qp e).length=3 from rfl,show 3+k*3 - 3=k*3 by omega,jW l k,Lq (by rw[show(Qp e).length=3 from rfl];omega)]
theorem Qj1 {vf:O2}{st:Int}:
  QR sV 255 [.agg #[va,sS st,vm,ve,vf],sS s] w λr w'=>sW w w'/\∃b1 E,r=.func (.func 285) #[] #[sP b1,sP E] /\
   ↑w<=b1/\↑w<=E/\QL ↑w' b1 304 [va,sS st,vm,ve,vf]/\QL ↑w' E 3 [sS s]:=by
 refine Zm func255 ?_;refine Qc<|Za [va,sS st,vm,ve,vf] λE V G J S=>Za [sS s] λT Y I ha U=>Qb<|Qc<|x Zn<|Qb ?_;have hc:=G.size;exact Qh ⟨[_],La,G.D I,E,T,O,J,oa,S.I I,U⟩
theorem Qed {U V bF s:Nat}(h4:QL ↑w U 304 [va,sS a.st,vm,ve,sL bF (n+1) (n+1)])(h5:QL ↑w V 3 [sS s])
  (h6:QL ↑w bF 3 ((gA (n+1) (fS a.ed)).map (Value.int .i64))) (hE:UP L ↑w ve a.ed) (h7:a.ed.Pairwise λx y=>x.1<=y.1) (hs:s<n) (hn:n<=4096):
  SeqStopsK (fen none) m sV 285 #[sP U,sP V] (λx:{ e:Ed // e∈a.ed }=>#[sT (Qp x.1)]) (Lw ↑w L)
   (λys=>ys.map (·.1)=QQ a.ed s) (λ_=>True) (a.ed.length+1) w:=by
 intro l J Jx W h8 hJ h9 hY h0;have hf:sW w W:=O5.of_below h8;have ab:∀{ys:List { e:Ed // e∈a.ed }} {W1 W2:O1},J ys W1->sW W1 W2->J ys W2:=λ{ys W1 W2} hj Y=>hJ ys W1 W2 none hj ⟨Y.os,Y.tape,Y.output,Y.size,λk hk _=>Y.block k hk od⟩ (λr e=>by cases e);have hO:=VV (λe:Ed=>decide (e.1<(s:Int))) a.ed;have hP:=VV (λe:Ed=>decide (e.1<((s+1:Nat):Int))) a.ed;obtain⟨lo,hq⟩:∃lo:Nat,fS a.ed s=(lo:Int):=⟨(fS a.ed s).toNat,by unfold fS;omega⟩;obtain⟨hi,hr⟩:∃hi:Nat,fS a.ed (s+1)=(hi:Int):=⟨(fS a.ed (s+1)).toNat,by unfold fS;omega⟩;obtain⟨ht,hA,hB⟩:=Qlw h7 s lo hi hq hr;have hQ:=hE.le;have hC:(QQ a.ed s).length=hi - lo:=by rw[<-ht,LC,Mo];omega
 have hD:∀e∈QQ a.ed s,e∈a.ed:=λe G=>(ZH G).1;have key:QR sV 285 [.func (.yield l) #[] #[],sP U,sP V] W (λ_ W'=>(∃ys,ys.map (·.1)=QQ a.ed s/\J ys W')\/(∃pre,True/\Jx pre W')):=by
  refine QR.of_G m func285 O ntmps285 results285 od ?_;have hm:=h4.I hf;have hu:=h5.I hf;have hv:=h6.I hf;refine QS<|V4 (sW W) [oz 0,oz 1,oz 2,oz 3,oz 4,oz 5,oz 6,oz 7,oz 8,oz 9,oz 10,oz 11,oz 12,oz 13,oz 14,oz 15,oz 16] mixed oh oh oc (O5.X _ _) ?_;refine p (QH O)<|p (QH O)<|pq (λ_ E=>Ql (hm.I E) O O)<|p (QH O)<|pq (λ_ E=>Ql (hm.I E) O O)<|pq (λ_ E=>Ql (hu.I E) O O) <|
   p (λ_=>QF (i:=s) O O oa)<|pq (λ_ E=>Ug (i:=s) (hv.I E) O oa)<|p (QH O)<|pq (λ_ E=>Ql (hm.I E) O O) <|
   pq (λ_ E=>Ql (hu.I E) O O)<|p (λ_=>Xp O O ⟨oa,oa⟩)<|p (λ_=>QF (i:=s+1) O O oa)<|pq (λ_ E=>Ug (i:=s+1) (hv.I E) O oa) <|
   QrR (lo:=lo) (hi:=hi) O hE O (OV sS hq) (OV sS hr) hB hA λhF hw=>p (λ_=>YY hw O)<|p Qx<|pe ?_
  have hS:UP L ↑w hF (QQ a.ed s):=by
   unfold UP;rw[hC,<-ht,<-jW,<-jX];exact hw
  have hy:sW W { W with drawn:=W.drawn+1 }:=O5.X _ _
  refine ZO<|KG (α:=Nat×List { e:Ed // e∈a.ed }) [(5,5),(22,30)] (λz=>[(22,sS z.1)]) (λz ds W'=>ds=[]/\z.1<=(QQ a.ed s).length/\O5 L w W'/\z.2.map (·.1)=(QQ a.ed s).take z.1/\J z.2 W') (λz=>(QQ a.ed s).length - z.1) oh (0,[]) La
   ⟨O,Lo _,(hf.D hy).any,O,ab h0 hy⟩ ?_
  rintro⟨k,ys⟩ g ds w1 ⟨rfl,hk,hz,ha,ho⟩;simp only[]at hk ha ho;refine QS<|Qy oh oh<|ZX O O<|xe<|QS<|UO O (λhp=>?_) (λhp=>?_)
  ·refine JD ?_;have hG:(QQ a.ed s).length<=k:=by
    have hg:¬(k:Int)<((hi - lo:Nat):Int):=hp;omega
   rw[Lq hG]at ha;exact⟨λ_ h=>(by cases h),Ms,[],λW' I=>⟨Z,.inl ⟨ys,ha,ab ho I⟩⟩⟩
  refine Yb ?_;have S:k<(QQ a.ed s).length:=by
   have hg:(k:Int)<((hi - lo:Nat):Int):=hp;omega
  have hR:=Yg a.ed s;have h2:(QQ a.ed s).take (k+1)=(QQ a.ed s).take k++[(QQ a.ed s)[k]'S]:=Lj S;have hh:=hD _ (Le S);have hT:ys.length=k:=by have:=OV oU ha;rw[Ll,LC]at this;omega
  refine Zg ((QQ a.ed s)[k]'S) λe G=>?_;rw[G]at h2 hh;refine QS<|ZO<|QS<|Qy oh oh<|xie (i:=k) (hS.st hz) O O S λhU hg=>?_;rw[G]at hg;refine x (QA hg O O)<|QN [sS 0,sS 0,sS 0] λb5 w2 hH hI hK=>Q2 (Qp e) hK ox λw3 hL hM=>xe ?_;have h3:sW w1 w3:=hH.Q hL hI;refine QS<|Kr oh ?_;refine Jm.pre2 ?_;refine Qa<|QV hM O O<|xe<|xy (l:=l) O (hY ys ⟨e,hh⟩ w3 (ab ho h3) oa) λen W3 hN=>Or.elim hN (λT=>⟨.bool true,T.1,?_⟩) (λT=>⟨.bool false,T.1,?_⟩)
  ·refine Jm.of_XL<|x (Zl O)<|xe<|JX O<|Yb ?_;refine Qy oh oh<|QD O O<|Qa<|xe ?_;exact⟨(k+1,ys++[⟨e,hh⟩]),oe,La,O,S,(hz.D h3).lw T.2.2,by rw[h2,Lv,ha];rfl,T.2.1⟩
  refine Jm.of_XL<|x (Zl O)<|xe<|yT O ?_;refine JW ⟨λ_ h=>(by cases h),Ms,[],λW' I=>⟨Z,.inr ⟨ys++[⟨e,hh⟩],Z,?_⟩⟩⟩;exact h9 _ W3 W' none T.2 ⟨I.os,I.tape,I.output,I.size,λk hk _=>I.block k hk od⟩ (λr e=>by cases e)
 refine(callsIn_wide (n:=m)).2 ?_;have ea:(#[.func (.yield l) #[] #[]]++[sP U,sP V].toArray:Array O2)=#[.func (.yield l) #[] #[],sP U,sP V]:=od
 rw[ea];unfold QR at key;refine Calls.mono key λe w' G=>?_;cases e with
 | returned v=>exact⟨⟨v,O⟩,G⟩
 | panicked c=>exact G.elim
 | outgrown=>exact G.elim
def stS (st:List Ed):LI:=st.map (·.1)
def gE (st:List Ed)(k:Nat):Ed:=st.getD k (0,-1,0)
theorem QjC {st:List Ed}{k:Nat}(h:k<st.length):st[k]'h=gE st k:=by simp[gE,oO,h]
theorem Qo3 {st:List Ed}{k:Nat}(h:k<st.length):gE st k∈st:=by rw[<-QjC h];exact Le h
def KD (pm:Ed->Bool)(i:Nat)(st:List Ed)(e:Ed):List Ed:=if e.2.2∉stS st/\pm e=true then st++[(e.2.2,(i:Int),e.2.1)]else st
def wrd (st:List Ed):Nat->Nat->LI
 | 0,_=>[]
 | f+1,k=>if 0<=(gE st k).2.1 then(gE st k).2.2::wrd st f (gE st k).2.1.toNat else[]
def QaD (wt:Int->Bool)(pm:Ed->Bool)(es:List Ed):Nat->Nat->List Ed->LI×Bool
 | 0,_,_=>([],false)
 | f+1,i,st=>if i<st.length then(if wt (gE st i).1=true then((wrd st (i+1) i).reverse,true) else QaD wt pm es f (i+1) ((QQ es (gE st i).1).foldl (KD pm i) st)) else([],false)
def pth (wt:Int->Bool)(pm:Ed->Bool)(es:List Ed)(n from0:Nat):LI×Bool:=QaD wt pm es (n+1) 0 [((from0:Int),-1,-1)]
structure Qez (n:Nat)(st:List Ed):Prop where
 nd:(stS st).Nodup
 rg:∀x∈st,0<=x.1/\x.1<(n:Int)
 par:∀k,k<st.length->(gE st k).2.1=-1\/(0<=(gE st k).2.1/\(gE st k).2.1<(k:Int))
theorem Qez.le {st:List Ed}(h:Qez n st):st.length<=n:=by
 have:=xH n (stS st) h.nd (λx hx=>by
  unfold stS at hx;obtain⟨y,E,rfl⟩:=Ly.1 hx;exact h.rg y E)
 simpa[stS]using this
theorem QmE {st:List Ed}{x:Ed}{k:Nat}(h:k<st.length):gE (st++[x]) k=gE st k:=by
 unfold gE;simp[oO,Oa h]
theorem QmF (st:List Ed)(x:Ed):gE (st++[x]) st.length=x:=by
 unfold gE;simp[oO]
theorem Qno {pm:Ed->Bool}{st:List Ed}{e:Ed}(h:Qez n st)(hi:i<st.length)(I:0<=e.2.2/\e.2.2<(n:Int)):Qez n (KD pm i st e)/\i<(KD pm i st e).length:=by
 unfold KD;split
 ·rename_i E;refine⟨⟨?_,λx hx=>?_,λk J=>?_⟩,by simp;omega⟩
  ·unfold stS at E ⊢;rw[Lv];exact Jv h.nd E.1
  ·simp only[oW,oF]at hx;rcases hx with hx|rfl
   ·exact h.rg x hx
   exact I
  by_cases G:k<st.length
  ·rw[QmE G];exact h.par k G
  have:k=st.length:=by simp at J;omega
  subst this;rw[QmF];simp only[];omega
 exact⟨h,hi⟩
theorem Qoj {from0:Nat}(h:from0<n):Qez n [((from0:Int),-1,-1)]:=by
 refine⟨by simp[stS],λx hx=>?_,λk E=>?_⟩
 ·simp at hx;subst hx;simp only[];omega
 simp at E;subst E;exact .inl O
theorem Qgp {wt:Int->Bool}{pm:Ed->Bool}{f:Nat}{st:List Ed}(h:¬i<st.length):QaD wt pm es f i st=([],false):=by
 cases f with
 | zero=>rfl
 | succ f=>rw[QaD,OT h]
abbrev Lf:=List Bool
def lft (l:Lf)(s:Int):Bool:=l.getD s.toNat false
def cut (l:Lf)(s:Int):Lf:=l.set s.toNat false
def K8 (ul:LI)(lf:Lf)(out:xw)(e:Ed):xw:=
 if lft lf e.1=false\/lft lf e.2.2=true\/e.2.1∉ul then out else if out.getLast?.map (·.1)=some e.1 then out else out++[(e.1,e.2.1)]
def lost (a:Qz)(ul:LI)(lf:Lf):xw:=a.ed.foldl (K8 ul lf) []
def dsE (lf:Lf)(x:Int)(z:LI×LI)(y:Int):LI×LI:=if lft lf y=true/\O6 z.1 y.toNat<0 then(z.1.set y.toNat (O6 z.1 x.toNat+1),z.2++[y]) else z
def dsL (es:List Ed)(lf:Lf):Nat->Nat->LI×LI->LI×LI
 | 0,_,z=>z
 | f+1,i,z=>if i<z.2.length then dsL es lf f (i+1) ((Y1 es (O6 z.2 i).toNat).foldl (dsE lf (O6 z.2 i)) z) else z
def ds1 (lf:Lf)(z:LI×LI)(x:Int):LI×LI:=if lft lf x=true then(z.1.set x.toNat 0,z.2++[x]) else z
def ds0 (a:Qz)(lf:Lf):LI×LI:=a.mr.foldl (ds1 lf) (oG a.st.toNat (-1),[])
def dsts (a:Qz)(lf:Lf):LI:=(dsL a.ed lf a.st.toNat 0 (ds0 a lf)).1
def VA (lf:Lf):Nat->LI->LI
 | _,[]=>[]
 | i,d::l=>if lf.getD i false=true/\d<0 then(i:Int)::VA lf (i+1) l else VA lf (i+1) l
def nxs (a:Qz)(ul:LI)(lf:Lf):LI:=if(lost a ul lf).length≠0 then(lost a ul lf).map (·.1) else VA lf 0 (dsts a lf)
def zM (a:Qz)(ul:LI):Nat->Lf->Lf
 | 0,lf=>lf
 | f+1,lf=>if(nxs a ul lf).length=0 then lf else zM a ul f ((nxs a ul lf).foldl cut lf)
def lf0 (n:Nat)(fb:LI):Lf:=fb.foldl cut (oG n true)
def zN (a:Qz)(fb ul:LI):Lf:=zM a ul (a.st.toNat+1) (lf0 a.st.toNat fb)
def rstr (a:Qz)(lf:Lf):Qz:=⟨a.al,a.st,a.mr,a.ed.filter λe=>lft lf e.2.2⟩
def QbI (a:Qz)(lf:Lf):Qz:=if a.st=0\/lft lf 0=false then⟨a.al,0,[],[]⟩else Xw (rstr a lf)
def zC (a:Qz)(fb ul:LI):Qz:=QbI a (zN a fb ul)
def fbs (s:Spc):LI:=s.fb.map (·.st)
def KQ (c:Z2):Int:=YN c
def Ks (c:Z2):Qz:=zC (spc c).a (fbs (spc c)) (unc c.ev)
def orB (b:Nat)(k:Nat):Nat:=b ||| (1 <<< k)
def rqB (x:X5):Nat->Nat->List X5->Nat
 | _,b,[]=>b
 | k,b,y::l=>rqB x (k+1) (if(y.a.al.any λe=>decide (e∈x.a.al))=true then orB b k else b) l
def prB (ls:xw):Nat:=ls.foldl (λb l=>orB b l.1.toNat) 0
def srR (c:Z2):LN:=c.rq.map λx=>rqB x 0 0 c.co
def srX (c:Z2):LN:=c.ex.map λx=>prB x.ls
def srC (c:Z2):LN:=c.cs.map λx=>prB x.ts
structure Mdl where
 kd:Int
 ix:Int
 co:LI
def Ql6 (k:Int):Nat->LN->List Mdl
 | _,[]=>[]
 | i,b::l=>⟨k,i,setK b 8⟩::Ql6 k (i+1) l
def O9 (c:Z2):List Mdl:=Ql6 1 0 (srR c)++(Ql6 2 0 (srX c)++Ql6 3 0 (srC c))
def sets (c:Z2):LN:=srR c++(srX c++srC c)
def QrL (c:Z2):Nat:=(sets c).foldl (λl b=>l &&& (65535 ^^^ b)) (2 ^ c.co.length - 1)
def rem (c:Z2):LI:=setK (QrL c) 8
structure Prt where
 co:LI
 rq:LI
 ex:LI
 cs:LI
def chs (l:List X5)(ix:LI):List X5:=ix.map λi=>l.getD i.toNat ⟨.empty,⟨[],0,[],[]⟩⟩
def ixP (co:LI)(ls:xw):xw:=ls.map λl=>((co.idxOf l.1:Int),l.2)
def QrH (c:Z2)(p:Prt):List Exc:=p.ex.map λi=>⟨(c.ex.getD i.toNat ⟨.empty,[]⟩).nm,ixP p.co (c.ex.getD i.toNat ⟨.empty,[]⟩).ls⟩
def QrI (c:Z2)(p:Prt):List xL:=p.cs.map λi=>⟨(c.cs.getD i.toNat ⟨.empty,[],0⟩).nm,ixP p.co (c.cs.getD i.toNat ⟨.empty,[],0⟩).ts,(c.cs.getD i.toNat ⟨.empty,[],0⟩).bd⟩
def QrJ (c:Z2)(p:Prt):Z2:=⟨c.ev,chs c.co p.co,chs c.rq p.rq,QrH c p,QrI c p⟩
def prt (m:Mdl):Prt:=⟨m.co,if m.kd=1 then[m.ix]else[],if m.kd=2 then[m.ix]else[],if m.kd≠1/\m.kd≠2 then[m.ix]else[]⟩
def mcC (c:Z2)(m:Mdl):Z2:=QrJ c (prt m)
def msA (c:Z2)(m:Mdl):Qz:=Ks (mcC c m)
def QrD (c:Z2):List Qz:=(O9 c).map (msA c)++(rem c).map λi=>(c.co.getD i.toNat ⟨.empty,⟨[],0,[],[]⟩⟩).a
def JG (l:List Qz):Int:=if KR l≠0 then KR l else match xo l with|none=>3|some _=>0
def tgA (c:Z2):Qz:=JZ (QrD c)
theorem Qpc (lf:Lf)(x:Int)(z:LI×LI)(y:Int):dsE lf x z y=if lft lf y=true then bwE x z y else z:=by
 unfold dsE bwE;by_cases h:lft lf y=true <;> by_cases E:O6 z.1 y.toNat<0 <;> simp[h,E]
structure DsI (n:Nat)(z:LI×LI):Prop where
 ok:QkX n z.1 z.2
 cnt:neg z.1+z.2.length=n
 s0:QpH z.1 z.2
theorem DsI.le {z:LI×LI}(h:DsI n z):z.2.length<=n:=by have:=h.cnt;omega
theorem Qj5 {lf:Lf}{x y:Int}{z:LI×LI}(h:DsI n z)(hx:0<=x/\x<(n:Int))(E:0<=O6 z.1 x.toNat)(G:0<=y/\y<(n:Int)):
  DsI n (dsE lf x z y)/\0<=O6 (dsE lf x z y).1 x.toNat:=by
 rw[Qpc];split
 ·obtain⟨I,S,J⟩:=Qpx h.ok hx E G;exact⟨⟨I,oo h.cnt,QkA h.ok E G h.s0⟩,J⟩
 exact⟨h,E⟩
theorem QmX (lf:Lf)(x:Int)(z:LI×LI)(y:Int):∃r,(dsE lf x z y).2=z.2++r:=by
 unfold dsE;split
 ·exact⟨[y],O⟩
 exact⟨[],od⟩
theorem QmW {n:Nat}{lf:Lf}{x:Int}(hx:0<=x/\x<(n:Int)):∀(l:LI) (z:LI×LI),DsI n z->0<=O6 z.1 x.toNat->(∀y∈l,0<=y/\y<(n:Int)) ->
  DsI n (l.foldl (dsE lf x) z)/\∃r,(l.foldl (dsE lf x) z).2=z.2++r
 | [],z,h,_,_=>⟨h,[],od⟩
 | y::l,z,h,E,hl=>by
  obtain⟨G,I⟩:=Qj5 (lf:=lf) h hx E (hl y Lm);obtain⟨J,r2,S⟩:=QmW hx l _ G I (λy T=>hl y (Lk _ T));obtain⟨U,V⟩:=QmX lf x z y;exact⟨J,U++r2,by rw[LO,S,V,LA]⟩
theorem Qj4 {lf:Lf}{f:Nat}{z:LI×LI}(h:¬i<z.2.length):dsL es lf f i z=z:=by
 cases f with
 | zero=>rfl
 | succ f=>rw[dsL,OT h]
theorem QfU {x:Int}(E:0<=x):(qX n l).set x.toNat 0=qX n (l++[x]):=by
 apply LX
 ·simp[qX]
 intro i G I;rw[M2];by_cases e:x.toNat=i
 ·have:(i:Int)=x:=oa
  rw[OU e];simp[qX,this]
 have:(i:Int)≠x:=oa
 rw[OT e];simp[qX,this]
theorem QcI {lf:Lf}(G:∀x∈a.mr,0<=x)(k:Nat):(a.mr.take k).foldl (ds1 lf) (oG a.st.toNat (-1),[])=(qX a.st.toNat ((a.mr.take k).filter (lft lf)),(a.mr.take k).filter (lft lf)):=by
 induction k with
 | zero =>
  simp only[List.take_zero,List.foldl_nil,List.filter_nil];congr 1;apply LX
  ·simp[qX]
  intro i I J;simp[qX]
 | succ k ih =>
  by_cases E:k<a.mr.length
  ·rw[Lj E,Mj,ih,LT];simp only[List.foldl_cons,List.foldl_nil,ds1];by_cases hl:lft lf (a.mr[k]'E)=true
   ·rw[OU hl,QfU (G _ (Le E))];simp[hl]
   rw[OT hl];simp[hl]
  have e:a.mr.take (k+1)=a.mr.take k:=by rw[Lq oa,Lq oa]
  rw[e];exact ih
theorem Qpe {lf:Lf}(E:∀x∈a.mr,0<=x):ds0 a lf=(qX a.st.toNat (a.mr.filter (lft lf)),a.mr.filter (lft lf)):=by
 have:=QcI (lf:=lf) E a.mr.length;rw[OI]at this;exact this
theorem Ql4 (l:LI)(G:l.Nodup)(hb:∀x∈l,0<=x/\x<(n:Int)):neg (qX n l)+l.length=n:=by
 have key:∀k,k<=l.length->neg (qX n (l.take k))+k=n:=by
  intro k;induction k with
  | zero =>
   intro _;have e:qX n (l.take 0)=oG n (-1):=by
    apply LX
    ·simp[qX]
    intro i I V;simp[qX]
   rw[e];unfold neg;simp
  | succ k ih =>
   intro Y;have I:=ih oa;have hx:=hb _ (Le (show k<l.length by omega));rw[Lj (show k<l.length by omega),<-QfU hx.1];have J:(l[k]'oa).toNat<(qX n (l.take k)).length:=by rw[UJ];omega
   have ha:=Un (qX n (l.take k)) (l[k]'oa).toNat 0 J (by
    have e:(((l[k]'oa).toNat:Nat):Int)=l[k]'oa:=oa
    have S:(l[k]'oa)∉l.take k:=λh=>by
     obtain⟨j,T,E⟩:=LP h;rw[M6]at E;have U:j<k:=by simp at T;omega
     have:=(Mi.1 G) j k oa oa U;exact this E
    simp[qX,e,S]) (Mx _)
   omega
 have:=key l.length (Lp _)
 rwa [OI]at this
theorem Qpd {lf:Lf}(E:Q0 a)(G:a.st=(n:Int)):DsI n (ds0 a lf):=by
 have hb:∀x∈a.mr.filter (lft lf),0<=x/\x<(n:Int):=λx hx=>by rw[<-G];exact E.mr x (LQ.1 hx).1
 have e:a.st.toNat=n:=oa
 rw[Qpe (λx hx=>(E.mr x hx).1),e];refine⟨Qpy hb,Ql4 _ ((E.mri.imp (λh=>oa)).filter _) hb,λx hx=>?_⟩;rw[Qnf (hb x hx) hx];exact Mx _
def VU (l:Lf):Nat:=l.countP (· == true)
theorem Qm3 (l:Lf):VU l<=l.length:=List.countP_le_length
theorem QfK (l:Lf)(s:Int):(cut l s).length=l.length:=by simp[cut]
theorem yv:∀(xs:LI) (l:Lf),(xs.foldl cut l).length=l.length
 | [],_=>rfl
 | x::xs,l=>by rw[LO,yv xs,QfK]
theorem QfL:∀(l:Lf) (i:Nat),VU (l.set i false)+(if l.getD i false=true then 1 else 0)=VU l
 | [],i=>by simp[VU]
 | b::l,0=>by cases b <;> simp[VU]
 | b::l,i+1=>by
  have ih:=QfL l i;unfold VU at *;simp only[List.set_cons_succ,List.countP_cons,List.getD_cons_succ];omega
theorem QfM (l:Lf)(s:Int):VU (cut l s)+(if lft l s=true then 1 else 0)=VU l:=QfL l s.toNat
theorem QcK:∀(xs:LI) (l:Lf),VU (xs.foldl cut l)<=VU l
 | [],_=>Lp _
 | x::xs,l=>by
  have E:=QcK xs (cut l x);have G:=QfM l x;rw[LO];omega
theorem Qkh {xs:LI}{l:Lf}(h:0<xs.length)(E:∀x∈xs,lft l x=true):VU (xs.foldl cut l)<VU l:=by
 cases xs with
 | nil=>simp at h
 | cons x xs =>
  have I:=QcK xs (cut l x);have G:=QfM l x;rw[OU (E x Lm)]at G;rw[LO];omega
def QkR (a:Qz)(lf:Lf)(out:xw):Prop:=∀p∈out,lft lf p.1=true/\∃e∈a.ed,e.1=p.1/\e.2.1=p.2
theorem Qma {lf:Lf}{out:xw}{e:Ed}(h:QkR a lf out)(G:e∈a.ed):QkR a lf (K8 ul lf out e)/\(K8 ul lf out e).length<=out.length+1:=by
 unfold K8;split
 ·exact⟨h,oa⟩
 rename_i I;split
 ·exact⟨h,oa⟩
 refine⟨λp E=>?_,od⟩;simp only[oW,oF]at E;rcases E with E|rfl
 ·exact h p E
 exact⟨by cases hl:lft lf e.1 with|true=>rfl|false=>exact OW (.inl hl) I,e,G,rfl,rfl⟩
theorem z1 {a:Qz}{ul:LI}{lf:Lf}:∀(l:List Ed) (out:xw),(∀e∈l,e∈a.ed)->QkR a lf out->QkR a lf (l.foldl (K8 ul lf) out)/\(l.foldl (K8 ul lf) out).length<=out.length+l.length
 | [],out,_,h=>⟨h,od⟩
 | e::l,out,hl,h=>by
  obtain⟨E,J⟩:=Qma (ul:=ul) h (hl e Lm);obtain⟨G,S⟩:=z1 l _ (λe I=>hl e (Lk _ I)) E;exact⟨G,by rw[LO,LL];omega⟩
theorem QaT (a:Qz)(ul:LI)(lf:Lf):QkR a lf (lost a ul lf)/\(lost a ul lf).length<=a.ed.length:=by
 have:=z1 (ul:=ul) (lf:=lf) a.ed [] (λ_ h=>h) (λp E=>by cases E);unfold lost;simpa using this
theorem UK (lf:Lf):∀(l:LI) (i:Nat),(∀x∈VA lf i l,lft lf x=true/\(i:Int)<=x/\x<(i:Int)+l.length)/\(VA lf i l).length<=l.length
 | [],i=>⟨λx hx=>(by cases hx),Lp _⟩
 | d::l,i=>by
  obtain⟨E,I⟩:=UK lf l (i+1);unfold VA;split
  ·rename_i G;refine⟨λx hx=>?_,by simp;omega⟩;rcases Ln.1 hx with rfl|hx
   ·exact⟨by unfold lft;simpa using G.1,Mx _,by simp;omega⟩
   have:=E x hx;exact⟨this.1,oa,by simp only[oQ];omega⟩
  refine⟨λx hx=>?_,by simp;omega⟩;have:=E x hx;exact⟨this.1,oa,by simp only[oQ];omega⟩
theorem QiS {lf:Lf}(x:Int)(hx:x∈nxs a ul lf):lft lf x=true:=by
 unfold nxs at hx;split at hx
 ·obtain⟨p,E,rfl⟩:=Ly.1 hx;exact((QaT a ul lf).1 p E).1
 exact((UK lf (dsts a lf) 0).1 x hx).1
theorem Qgl {f:Nat}{lf:Lf}(h:(nxs a ul lf).length=0):zM a ul f lf=lf:=by
 cases f with
 | zero=>rfl
 | succ f=>rw[zM,OU h]
theorem Qgk {f:Nat}{lf:Lf}(h:(nxs a ul lf).length≠0):zM a ul (f+1) lf=zM a ul f ((nxs a ul lf).foldl cut lf):=by rw[zM,OT h]
theorem QiT {lf:Lf}(h:(nxs a ul lf).length≠0):VU ((nxs a ul lf).foldl cut lf)<VU lf:=Qkh oa (λx hx=>QiS x hx)
theorem UX (h:Q0 a)(lf:Lf):Q0 (rstr a lf):=
 ⟨h.al,h.ali,h.st0,h.st1,h.mr,h.mri,λe E=>h.ed e (LQ.1 E).1,h.edi.filter _⟩
structure PI (w0:O1)(b4 b7 b10 b11 bS n:Nat)(gc:LV)(pf:O2)(bi i:Nat)(vs:O2)(st:List Ed)(W:O1):Prop where
 stp:sW w0 W
 B4:QL ↑W b4 304 gc
 B7:QL ↑W b7 275 [pf]
 B10:QL ↑W b10 356 [vs]
 B11:QL ↑W b11 301 [sL bS n n]
 BS:QL ↑W bS 4 ((flg n (stS st)).map Value.bool)
 BI:QL ↑W bi 3 [sS i]
 R:Yd 355 ↑w0 W vs st
 ne:∀b∈ob vs,b≠b4/\b≠b7/\b≠b10/\b≠b11/\b≠bS/\b≠bi
theorem PI.I {G:O1}{I J b10 b11 bS n:Nat}{gc:LV}{pf:O2}{bi i:Nat}{vs:O2}{st:List Ed}{W W':O1}(h:PI G I J b10 b11 bS n gc pf bi i vs st W)(E:sW W W'):PI G I J b10 b11 bS n gc pf bi i vs st W' :=
 ⟨h.stp.D E,h.B4.I E,h.B7.I E,h.B10.I E,h.B11.I E,h.BS.I E,h.BI.I E,Qm h.R E,h.ne⟩
theorem PI.stb {G:O1}{I J b10 b11 bS:Nat}{gc:LV}{pf:O2}{bi:Nat}{st:List Ed}(S:↑G<=B):Ye B (λW=>PI G I J b10 b11 bS n gc pf bi i vs st W):=λW W' X h E hX =>
 ⟨Ye.J S W W' X h.stp E hX,Ye.blk W W' X h.B4 E hX,Ye.blk W W' X h.B7 E hX,Ye.blk W W' X h.B10 E hX,Ye.blk W W' X h.B11 E hX,Ye.blk W W' X h.BS E hX,Ye.blk W W' X h.BI E hX,Ye.row W W' X h.R E hX,h.ne⟩
def KI (lo hi:Nat)(ds:LN)(W:O1):Prop:=ds.Nodup/\∀D∈ds,lo<=D/\D<hi/\W.heap[D]?=some (.deferred (some []))
theorem KI.J {hi:Nat}{W:O1}{X:LN}(h:KI lo hi ds W)(I:O5 X W W')(hX:∀b∈X,∃o:Obj,W.heap[b]?=some o/\o.isCells=true):KI lo hi ds W':=by
 refine⟨h.1,λD hD=>⟨(h.2 D hD).1,(h.2 D hD).2.1,?_⟩⟩;have E:=(h.2 D hD).2.2;refine(I.block D (LH.1 E).1 (λhx=>?_)).D E;obtain⟨o,G,J⟩:=hX D hx;rw[E]at G;cases G;cases J
theorem KI.I {hi:Nat}{W:O1}(h:KI lo hi ds W)(E:sW W W'):KI lo hi ds W':=h.J E (λ_ hb=>by cases hb)
theorem KI.blk {hi:Nat}{W:O1}{b:Nat}(h:KI lo hi ds W)(E:O5 [b] W W')(hb:QL ↑W b T cs):KI lo hi ds W' :=
 h.J E (λc G=>by
  have e:c=b:=by simpa using G
  subst e;exact hb.cells)
theorem KI.up {hi hi':Nat}{W:O1}(h:KI lo hi ds W)(E:hi<=hi'):KI lo hi' ds W:=⟨h.1,λD hD=>⟨(h.2 D hD).1,oo (h.2 D hD).2.1,(h.2 D hD).2.2⟩⟩
theorem KI.cons {hi:Nat}{W:O1}{D:Nat}(h:KI lo hi ds W)(hl:lo<=hi)(hD:hi<=D)(hd:W.heap[D]?=some (.deferred (some []))):KI lo ↑W (D::ds) W:=by
 have G:=(LH.1 hd).1;refine⟨List.nodup_cons.2 ⟨λI=>oo (h.2 D I).2.1,h.1⟩,λE hE=>?_⟩;rcases Ln.1 hE with rfl|hE
 ·exact⟨oa,G,hd⟩
 have:=h.2 E hE;exact⟨this.1,(LH.1 this.2.2).1,this.2.2⟩
theorem KI.stb {hi:Nat}(I:hi<=B):Ye B (λW=>KI lo hi ds W):=λW W' X h G hX=>by
 refine⟨h.1,λD hD=>⟨(h.2 D hD).1,(h.2 D hD).2.1,?_⟩⟩;have E:=(h.2 D hD).2.2;refine(G.block D (LH.1 E).1 (λhx=>?_)).D E;have:=(hX D hx).1;have:=(h.2 D hD).2.1;omega
theorem KI.own {hi:Nat}{W:O1}{e:Nat}{v:O2}(h:KI lo hi ds W)(G:W.ownsRow base e sz v n cs):∀b∈ob v,b∉ds:=λb hb hd=>by
 obtain⟨o,E,I⟩:=Go.Lg.Zb G b hb;rw[(h.2 b hd).2.2]at E;cases E;cases I
theorem KI.rst {hi:Nat}{W:O1}(h:KI lo hi ds W)(E:XX B L W W'):KI lo hi ds W':=⟨h.1,λD hD=>⟨(h.2 D hD).1,(h.2 D hD).2.1,E.other D _ (h.2 D hD).2.2 O⟩⟩
theorem PI.add {J:O1}{S U b10 b11 bS:Nat}{gc:LV}{pf:O2}{bi:Nat}{v:O2}{st:List Ed}{x:Ed}{W W1 W2 W3 W4:O1}{L0:LN}(h:PI J S U b10 b11 bS n gc pf bi i v st W)
  (hd:bS≠S/\bS≠U/\bS≠b10/\bS≠b11/\bS≠bi/\b10≠S/\b10≠U/\b10≠b11/\b10≠bi) (hB:B<=↑W) (ha:↑J<=bS) (he:↑J<=b10) (hk:S<↑W/\U<↑W/\b11<W.heap.size/\bi<↑W)
  (V:O5 [bS] W W1) (hS:QL ↑W1 bS 4 ((flg n (stS (st++[x]))).map Value.bool)) (I:sW W1 W2) (Y:O5 (ob v) W2 W3) (hR:Yd 355 ↑J W3 v' (st++[x])) (hn:∀b∈ob v',b∈ob v\/↑W2<=b)
  (h4:O5 [b10] W3 W4) (hf:QL ↑W4 b10 356 [v']) (hv:∀b∈ob v,b∈L0\/B<=b):
  PI J S U b10 b11 bS n gc pf bi i v' (st++[x]) W4/\XX B (bS::b10::L0) W W4/\(∀b∈ob v',b∈L0\/B<=b):=by
 have ho:=V.size;have hp:=I.size;have hq:=Y.size;have hr:=h.BS.lt;have hs:=h.B10.lt;have key:∀b T cs,QL ↑W b T cs->b≠bS->b∉ob v->b≠b10->QL ↑W4 b T cs:=λb T cs hb e1 e2 e3=>(((hb.J V (ou e1)).I I).J Y e2).J h4 (ou e3);have G:=h.ne;have nin:∀b,(∀c∈ob v,c≠b)->b∉ob v:=λb hb hm=>hb b hm O;have hg:b10∉ob v:=nin _ λc E=>(G c E).2.2.1;have hh:bS∉ob v:=nin _ λc E=>(G c E).2.2.2.2.1;have hj:W2.ownsRow ↑J 355 3 v st.length (st.flatMap Qp):=Qm (Qg h.R V (λb hb=>by have:=(G b hb).2.2.2.2.1;simpa using this)) I;have hge:∀b∈ob v',b≠S/\b≠U/\b≠b10/\b≠b11/\b≠bS/\b≠bi:=λb hb=>by
  rcases hn b hb with hb|hb
  ·exact G b hb
  omega
 refine⟨⟨?_,key _ _ _ h.B4 hd.1.symm (nin _ λc E=>(G c E).1) hd.2.2.2.2.2.1.symm,key _ _ _ h.B7 hd.2.1.symm (nin _ λc E=>(G c E).2.1) hd.2.2.2.2.2.2.1.symm,hf,
  key _ _ _ h.B11 hd.2.2.2.1.symm (nin _ λc E=>(G c E).2.2.2.1) hd.2.2.2.2.2.2.2.1.symm,((hS.I I).J Y hh).J h4 (by have:=hd.2.2.1;simpa using this),key _ _ _ h.BI hd.2.2.2.2.1.symm (nin _ λc E=>(G c E).2.2.2.2.2) hd.2.2.2.2.2.2.2.2.symm,
  Qg hR h4 (λb hb=>by have:=(hge b hb).2.2.1;simpa using this),hge⟩,?_,λb hb=>?_⟩
 ·exact(((h.stp.Q V ha).D I).O Y (λb hb=>.inr (Qj h.R b hb).1)).Q h4 he
 ·have r1:XX B (bS::b10::L0) W W1:=XX.blk V hB h.BS (.inl od);have r2:XX B (bS::b10::L0) W1 W2:=XX.I I oa;have r3:XX B (bS::b10::L0) W2 W3:=XX.J Y oa (λb hb=>⟨(hv b hb).imp (λh=>by simp[h]) id,Go.Lg.Zb hj b hb⟩);have r4:XX B (bS::b10::L0) W3 W4:=XX.blk h4 oa ((((h.B10.J V (by have:=hd.2.2.1;simpa using this.symm)).I I).J Y hg)) (.inl od);exact((r1.D r2).D r3).D r4
 rcases hn b hb with hb|hb
 ·exact hv b hb
 exact .inr oa
theorem ym {x:Int}(G:0<=x)(I:x<(n:Int)):((flg n l).map Value.bool)[0+x.toNat*1]?=some (.bool (decide (x∈l))):=by
 have E:x.toNat<(flg n l).length:=by rw[Uz];omega
 have e:((x.toNat:Nat):Int)=x:=oa
 simp only[oX,OQ,List.getElem?_map,oV E,OD,Qa9,e]
theorem QlN {bF from0 gw:Nat}{fw fp:Func}[Fu sV gw fw][Fu sV gp fp]{cw cp:LV}{wt:Int->Bool}{pm:Ed->Bool}
  (hA:Zp [] ↑w va vm ve a) (hn:a.st=(n:Int)) (kn:n<=4096) (ko:∀e∈a.ed,0<=e.2.2/\e.2.2<(n:Int)) (kq:a.ed.Pairwise λx y=>x.1<=y.1) (kr:QL ↑w bF 3 ((gA (n+1) (fS a.ed)).map (Value.int .i64))) (hf:from0<n)
  (kt:∀(s:Int) (w':O1),0<=s->s<(n:Int)->sW w w'->QR sV gw (sS s::cw) w' λr hQ=>r=.bool (wt s)/\sW w' hQ)
  (ku:∀(e:Ed) (w':O1),e∈a.ed->sW w w'->QR sV gp (sT (Qp e)::cp) w' λr hQ=>r=.bool (pm e)/\sW w' hQ):
  QR sV 199 [.agg #[va,sS a.st,vm,ve,sL bF (n+1) (n+1)],sS from0,.func (.func gw) #[] cw.toArray,.func (.func gp) #[] cp.toArray] w λr w' =>
   sW w w'/\∃v,r=.tuple #[v,.bool (pth wt pm a.ed n from0).2]/\Qi 3 ↑w w' v (pth wt pm a.ed n from0).1:=by
 refine QR.of_G 3 func199 O ntmps199 results199 od ?_;refine QS<|Qy oh oh<|Za [va,sS a.st,vm,ve,sL bF (n+1) (n+1)] λb4 w1 kv j1 hR=>Za [.func (.func gp) #[] cp.toArray] λb7 w2 kw j2 gk=>x Qe<|Qb<|QS<|Qy oh oh<|Qa<|x (QE ⟨O,O,O,Z⟩)<|Qo<|Q9 [[sS from0,sS (-1),sS (-1)]] λbL w3 gl j3 gm =>
  QN [nS] λb10 w4 hS j4 gn=>Qo<|Qw (u:=sL bL 1 1) gn O O og O λw5 hB hC=>xe ?_
 have za:=hR.lt;have z0:=gk.lt;have z2:=gm.lt;have z3:=gn.lt;have z4:=hB.size;have hT:sW w1 w5:=((kw.D gl).D hS).Q hB oa;have kx:sW w2 w5:=(gl.D hS).Q hB oa;have kz:sW w3 w5:=hS.Q hB oa;refine QS<|Qy oh oh<|Zc O<|Qq O (hR.I hT) O O<|Qo<|YZ (n:=n) (OV sS hn) (OV sS hn) oa λbS w6 k0 z5 go=>QN [nS] λb11 w7 gq hb11 gr =>
  Qo<|Qw (u:=sL bS n n) gr O O og O λw8 hU gs=>xe ?_
 have hlS:=go.lt;have hl11:=gr.lt;have hz8:=hU.size;have h4:sW w5 w8:=(k0.D gq).Q hU oa;have k4:sW w6 w8:=gq.Q hU oa;have k5:QL ↑w6 bS 4 ((flg n []).map Value.bool):=by
  have e:(oG n (Value.bool false).cells.toList).flatten=(flg n []).map Value.bool:=by
   simp only[flg,oH,decide_false,List.map_map];apply LX
   ·simp[Value.cells]
   intro i h1 h2;simp[Value.cells]
  rw[<-e];exact go
 refine QS<|Qy oh oh<|ZE gs O O<|Qa<|x (QF (i:=from0) O O hf)<|Qo<|Qw (j:=0+from0*1) (u:=.bool true) (k5.I k4) O O (by rw[Ll,Uz];omega) O λw9 ho k6=>xe ?_;have hz9:=ho.size;have k9:QL ↑w9 bS 4 ((flg n [(from0:Int)]).map Value.bool):=by
  have e1:=zp (n:=n) (l:=[]) (x:=(from0:Int)) oa;rw[Mv]at e1;rw[<-e1,Ny];simpa using k6
 refine QS<|QS<|Qy oh oh<|QN [sS 0] λgt w10 ma mc gu=>Qo<|Qw (u:=sS 0) gu O O og O λhE gv mf=>xe ?_;have hl12:=gu.lt;have hz11:=gv.size;have hq:sW w9 hE:=ma.Q gv mc;have mg:sW w hE:=(((kv.D hT).D h4).Q ho oa).D hq;have mh:PI w b4 b7 b10 b11 bS n [va,sS a.st,vm,ve,sL bF (n+1) (n+1)] (.func (.func gp) #[] cp.toArray) gt 0 (sL bL 1 1) [((from0:Int),-1,-1)] hE:=by
  refine⟨mg,(((hR.I hT).I h4).J ho (by simp;omega)).I hq,(((gk.I kx).I h4).J ho (by simp;omega)).I hq,((hC.I h4).J ho (by simp;omega)).I hq,
   (gs.J ho (by simp;omega)).I hq,k9.I hq,mf,?_,λb hb=>?_⟩
  ·have mj:=(((gm.I kz).I h4).J ho (by simp;omega)).I hq;exact mj.own (n:=1) (sz:=3) O oa oa
  have e:b=bL:=by simpa[ob]using hb
  subst e;omega
 refine ZO<|KG (α:=Nat×Nat×Nat×O2×List Ed) [(8,9),(12,15),(26,68),(70,94)] (λz=>[(12,.pointer (some ⟨z.2.1,0,none⟩))])
  (λz ds W=>PI w b4 b7 b10 b11 bS n [va,sS a.st,vm,ve,sL bF (n+1) (n+1)] (.func (.func gp) #[] cp.toArray) z.2.1 z.1 z.2.2.2.1 z.2.2.2.2 W/\Qez n z.2.2.2.2/\KI ↑w ↑W ds W/\hE.heap.size<=↑W /\
   (z.2.1≠b4/\z.2.1≠b7/\z.2.1≠b10/\z.2.1≠b11/\z.2.1≠bS)/\↑w<=z.2.1/\z.1<=z.2.2.2.2.length/\n+1<=z.2.2.1+z.1/\QaD wt pm a.ed z.2.2.1 z.1 z.2.2.2.2=pth wt pm a.ed n from0)
  (λz=>n+1 - z.1) oh (0,gt,n+1,sL bL 1 1,[((from0:Int),-1,-1)]) La
  ⟨mh,Qoj hf,⟨Ms,λ_ h=>by cases h⟩,Lp _,oe,oe,od,od,rfl⟩ ?_
 rintro⟨i,bi,fu,vs,st⟩ g ds hF ⟨Y,hok,h5,hz12,mo,mq,ms,mt,S⟩;simp only[]at Y hok h5 mo mq ms mt S;have hstl:=hok.le;refine QS<|QS<|Qy oh oh<|ZE Y.BI O O<|ZE Y.B10 O O<|QG (QO (L:=[]) Y.R oa od) rfl<|ZX rfl rfl<|xe<|UO rfl (λhV=>?_) (λhV=>?_)
 ·refine JD ?_;have mu:¬i<st.length:=by have mv:¬(i:Int)<(st.length:Int):=hV;omega
  rw[Qgp mu]at S;refine QS<|Qy oh oh<|x Qe<|Qb<|JW ⟨λD hD=>(h5.2 D hD).2.2,h5.1,[nS,.bool false],λw' hG=>⟨ov,Y.stp.O hG (λD hD=>.inr (h5.2 D hD).1),_,by rw[<-S];rfl,?_⟩⟩;rw[<-S];exact QM _ _ _ _
 have hr:i<st.length:=by have mv:(i:Int)<(st.length:Int):=hV;omega
 refine Exists.elim (Nl (show fu≠0 by omega)) λmw hW=>?_;subst hW;rw[QaD,OU hr]at S;have hX:=hok.rg _ (Qo3 hr);have hge:=QjC hr;refine Zg (gE st i) λs0 my=>?_;rw[my]at S hX hge;refine Yb<|QS<|ZO<|QS<|QS<|Qy oh oh<|Qa<|ZE Y.B10 O O<|ZE Y.BI O O<|xie (i:=i) (QO (L:=[]) Y.R oa od) rfl rfl hr λa35 gx=>?_;rw[hge]at gx;refine x (ZI O)<|x (Qr (gx.fld 0 (sS s0.1) O) O)<|Qo<|xc (first:=[]) (capt:=cw) O<|(kt s0.1 _ hX.1 hX.2 Y.stp).S ?_;rintro r13 hj ⟨rfl,hY⟩;have hz13:=hY.size;have hk:=Y.I hY;have gy:=h5.I hY;refine xe<|KH rfl (λhZ=>?_) (λhZ=>?_)
 ·rw[OU hZ]at S;have mz:KI ↑w ↑hF ds hj:=gy;refine QS<|Qy oh oh<|Qb<|QS<|QS<|Qy oh oh<|ZE hk.BI O O<|Qb<|ZO<|KG (α:=Nat×Nat×O2×LI) [(13,14),(40,58)] (λz=>[(13,z.2.2.1),(14,sS z.2.1)])
   (λz gz W=>gz=ds/\sW hj W/\KI ↑w ↑hF ds W/\z.2.1<z.1/\z.2.1<st.length/\Qi 3 ↑hj W z.2.2.1 z.2.2.2/\z.2.2.2.length+z.1<=i+1/\z.2.2.2++wrd st z.1 z.2.1=wrd st (i+1) i)
   (λz=>z.1) oh (i+1,i,nS,[]) ov ⟨O,O5.Y _ _,mz,od,hr,QM _ _ _ _,od,rfl⟩ ?_
  rintro⟨f,k,v,acc⟩ g gz hg ⟨rfl,h6,hH,m0,hy,ht,m1,hu⟩;simp only[]at m0 hy ht m1 hu;refine Exists.elim (Nl (show f≠0 by omega)) λf' hW=>?_;subst hW;rw[wrd]at hu;have hI:=QjC hy;have m2:=hok.par k hy;refine Zg (gE st k) λs1 m3=>?_;rw[m3]at hu hI m2;have J:=hk.I h6;have m4:=h6.size;refine QS<|QS<|Qy oh oh<|ZE J.B10 O O<|Qa<|xie (i:=k) (QO (L:=[]) J.R oa od) rfl rfl hy λa42 g0=>?_;rw[hI]at g0;refine x (ZI O)<|x (Qr (g0.fld 1 (sS s1.2.1) O) O)<|x (Yl O O)<|xe<|UO O (λga=>?_) (λga=>?_)
  ·refine JD ?_;rw[OT ga,LF]at hu;refine QS<|Qy oh oh<|Qa<|KS<|(yO ht oa).S ?_;rintro r15 g2 ⟨g3,V⟩;have hJ:=hH.J V (Go.Lg.Zb ht);refine xe<|QS<|Qy oh oh<|Qa<|x Qe<|Qb<|JW ⟨λD hD=>(hJ.2 D hD).2.2,hJ.1,[v,.bool true],λw' hG=>⟨ov,?_,v,by rw[<-S];rfl,?_⟩⟩
   ·exact((J.stp).O V (λb hb=>.inr (oo (Qj ht b hb).1))).O hG (λD hD=>.inr (hJ.2 D hD).1)
   rw[<-S,<-hu];exact Zf (Qg g3 hG (hJ.own g3)) oa
  rw[OU ga]at hu;refine Yb<|QS<|ZO<|Qy oh oh<|Qa<|ZE J.B10 O O<|Qa<|xie (i:=k) (QO (L:=[]) J.R oa od) rfl rfl hy λa54 g4=>?_;rw[hI]at g4;refine x (ZI O)<|x (Qr (g4.fld 2 (sS s1.2.2) O) O)<|Qo<|Q9 [[sS s1.2.2]] λb57 h7 I hb57 m5=>Qo<|Q8 (m:=1) (news:=[sS s1.2.2]) (Qm ht I) O O O (m5.at (L:=[]) od) om oa (oo I.size) λm6 g5 m7 hv hn17 =>
   Qb ?_
  have g6:sW hj g5:=(h6.D I).O hv (λb hb=>.inr (Qj ht b hb).1);have g7:=hk.I g6;have m8:=(hH.I I).J hv (Go.Lg.Zb (Qm ht I));refine Qy oh oh<|ZE g7.B10 O O<|Qa<|xie (i:=k) (QO (L:=[]) g7.R oa od) rfl rfl hy λa48 g8=>?_;rw[hI]at g8;refine x (ZI O)<|x (Qr (g8.fld 1 (sS s1.2.1) O) O)<|Qb ?_;have m9:s1.2.1=(s1.2.1.toNat:Int):=oa
  refine⟨(f',s1.2.1.toNat,m6,acc++[s1.2.2]),oe,⟨O,OV sS m9,Z⟩,O,g6,m8,oe,oe,Qi.snoc m7,?_,?_⟩
  ·simp only[oM,oL];omega
  rw[LA];exact hu
 rw[OT (by rw[hZ];decide)]at S;have g9:s0.1=(s0.1.toNat:Int):=oa
 refine Yb ?_;have pc:sW hj { hj with drawn:=hj.drawn+1 }:=O5.X _ _
 refine QS<|V4 (sW hj) [oz 0,oz 1,oz 2,oz 3,oz 4,oz 5,oA 6] mixed oh oh oc (O5.X _ _) ?_;refine pq (λ_ hc=>Q7 (hk.B4.I hc) O O)<|pq (λ_ hc=>Ql (hk.B10.I hc) O O)<|pq (λ_ hc=>Ql (hk.BI.I hc) O O) <|
  pie (i:=i) O (QO (L:=[]) hk.R oa od) rfl rfl hr λa65 ka=>?_
 rw[hge]at ka;refine p (λ_=>ZI O)<|pq (λ_ hc=>Qr ((ka.fld 0 (sS s0.1) O).I hc) O)<|pk<|xf<|(Qj1 (va:=va) (vm:=vm) (ve:=ve) (vf:=sL bF (n+1) (n+1)) (st:=a.st) (s:=s0.1)).S ?_;rintro r18 hg ⟨h6,b1,b2,rfl,hb1,hb2,pd,kb⟩;have hK:=pc.D h6;refine⟨hK,pe ?_⟩;have J:=hk.I hK;have hH:KI ↑w ↑hF ds hg:=gy.I hK;have m4:=hK.size;have pf:UP (bS::b10::ob vs) ↑hg ve a.ed:=by
  refine(hA.ed.up (L':=bS::b10::ob vs) (λb hb=>.inr ?_)).J J.stp (λ_ hb=>by cases hb);rcases Ln.1 hb with rfl|hb
  ·omega
  rcases Ln.1 hb with rfl|hb
  ·omega
  exact(Qj J.R b hb).1
 rw[g9]at kb;have pg:w.heap.size<=hg.heap.size:=J.stp.size;have gb:bS≠b4/\bS≠b7/\bS≠b10/\bS≠b11/\bS≠bi/\b10≠b4/\b10≠b7/\b10≠b11/\b10≠bi:=oa
 have hqS:=J.BS.lt;have hqi:=J.BI.lt;refine ZO<|Qf5 (α:={ e:Ed // e∈a.ed }) (bS::b10::ob vs) oa (capt:=[sP b1,sP b2]) O (enc:=λx=>sT (Qp x.1)) og
  (Qed pd kb (kr.I J.stp) pf kq oa kn)
  (λpre W=>∃v,PI w b4 b7 b10 b11 bS n [va,sS a.st,vm,ve,sL bF (n+1) (n+1)] (.func (.func gp) #[] cp.toArray) bi i v ((pre.map (·.1)).foldl (KD pm i) st) W/\Qez n ((pre.map (·.1)).foldl (KD pm i) st)/\i<((pre.map (·.1)).foldl (KD pm i) st).length /\
   (∀b∈ob v,b∈ob vs\/↑hg<=b)/\KI ↑w ↑hF ds W/\hg.heap.size<=↑W)
  (λpre=>Ye.ex λv=>(PI.stb pg).and ((Ye.pure _).and ((Ye.pure _).and ((Ye.pure _).and ((KI.stb oa).and (λW W' X h hs _=>Lx h hs.size))))))
  ⟨vs,J,hok,hr,λb hb=>.inl hb,hH,Lp _⟩
  (λf x f' W=>∃b,f'=upd (upd f 69 (sT (Qp x.1))) 15 (sP b)/\↑hg<=b/\QL ↑W b 179 (Qp x.1))
  (λx f'=>Ye.ex λb=>(Ye.pure _).and ((Ye.pure _).and Ye.blk)) ?_ ?_ ?_
 ·rintro l pre ⟨e,he⟩ W ⟨v,E,T,ha,hz,hw,h0⟩;refine Qy oh oh<|QN [sS 0,sS 0,sS 0] λb15 g2 V kc h3=>Q2 (Qp e) h3 ox λh7 I ph=>xe ?_;have hL:sW W h7:=V.Q I kc;have pj:=hL.size;exact⟨O,XX.I hL h0,⟨v,E.I hL,T,ha,hz,hw.I hL,oa⟩,b15,O,oa,ph⟩
 ·rintro l pre ⟨e,he⟩ f' W ⟨v,E,T,ha,hz,hw,h0⟩ ⟨b15,rfl,kc,h3⟩ _;have h8:((pre++[(⟨e,he⟩:{ e:Ed // e∈a.ed })]).map (·.1)).foldl (KD pm i) st=KD pm i ((pre.map (·.1)).foldl (KD pm i) st) e:=by rw[Lv,Mj];rfl
  refine Zg ((pre.map (·.1)).foldl (KD pm i) st) λG gc=>?_;rw[gc]at E T ha h8;have hM:=ko e he;have ge:e.2.2=(e.2.2.toNat:Int):=oa
  have gg:=Qno (pm:=pm) T ha hM;have hN:=ym (l:=stS G) hM.1 hM.2;have pn:=T.le;have pj:=E.stp.size;refine ZO<|QS<|Qy oh oh ?_;by_cases hO:e.2.2∈stS G
  ·rw[OX hO]at hN;have h9:KD pm i G e=G:=by unfold KD;rw[OT (λh=>h.1 hO)]
   refine ZE E.B11 O O<|Qq O h3 O O<|x (QF (i:=e.2.2.toNat) O (OV sS ge) oa)<|ZE E.BS O hN<|x (Zl O)<|x Jr <|
    Zq<|QB rfl<|xe ?_
   refine JX O<|Yb ?_;refine⟨XX.refl _ _ _,v,?_⟩;rw[h8,h9];exact⟨E,T,ha,hz,hw,h0⟩
  rw[OZ hO]at hN;refine ZE E.B11 O O<|Qq O h3 O O<|x (QF (i:=e.2.2.toNat) O (OV sS ge) oa)<|ZE E.BS O hN<|x (Zl O)<|x Jr <|
   ZE E.B7 O O<|QV h3 O O<|Qo<|xc (first:=[]) (capt:=cp) O<|(ku e _ he E.stp).S ?_
  rintro r19 g2 ⟨rfl,V⟩;refine QB O<|xe ?_;have hh:=E.I V;have hz15:=V.size;refine KH O (λhp=>?_) (λhp=>?_)
  ·have h9:KD pm i G e=G++[(e.2.2,(i:Int),e.2.1)]:=by unfold KD;rw[OU ⟨hO,hp⟩]
   rw[h9]at h8 gg;have ke:=h3.I V;refine QS<|Qy oh oh<|ZE hh.B11 O O<|Qq O ke O O<|x (QF (i:=e.2.2.toNat) O (OV sS ge) oa)<|Qo<|Qw (j:=0+e.2.2.toNat*1) (u:=.bool true) hh.BS O O (by rw[Ll,Uz];omega) O λh7 I po=>xe ?_;have pp:QL ↑h7 bS 4 ((flg n (stS (G++[(e.2.2,(i:Int),e.2.1)]))).map Value.bool):=by
    have e1:=zp (n:=n) (l:=stS G) hM.1;have e2:stS (G++[(e.2.2,(i:Int),e.2.1)])=stS G++[e.2.2]:=by unfold stS;rw[Lv];rfl
    rw[e2,<-e1,Ny];simpa using po
   have hz16:=I.size;have hC:=hh.B10.J I (by have:=gb.2.2.1;simpa using this.symm);have pt:=hh.BI.J I (by have:=gb.2.2.2.2.1;simpa using this.symm);have pu:Yd 355 ↑w h7 v G:=Qg hh.R I (λb hb=>by have:=(hh.ne b hb).2.2.2.2.1;simpa using this);have kf:=ke.J I (by simp;omega);refine Qy oh oh<|ZE hC O O<|Qq O kf O O<|ZE pt O O<|Qq O kf O O<|x (QE ⟨O,O,O,Z⟩) <|
    Qo<|Q9 [[sS e.2.2,sS i,sS e.2.1]] λb92 g5 hv hb92 pw =>
    Qo<|Q8 (m:=1) (news:=[sS e.2.2,sS i,sS e.2.1]) (Qm pu hv) O O O (pw.at (L:=[]) od) om oa (oo hv.size) λkg w18 kh ki pz=>?_
   have p0:b10∉ob v:=λhm=>(hh.ne b10 hm).2.2.1 O;refine Qo<|Qw (u:=kg) ((hC.I hv).J ki p0) O O od (QO (L:=[]) kh oa od).one λp4 p5 p6=>xe ?_;have gh:=hh.add (B:=↑hg) (L0:=ob vs) gb oa oa oa ⟨oa,oa,oa,oa⟩ I pp hv ki (Yd.snoc kh) pz p5 p6 hz;have gi:XX ↑hg (bS::b10::ob vs) W p4:=(XX.I V h0).D gh.2.1;have hzf:=gi.lw.size;refine⟨gi,kg,?_⟩;rw[h8];exact⟨gh.1,gg.1,gg.2,gh.2.2,hw.rst gi,oa⟩
  have h9:KD pm i G e=G:=by unfold KD;rw[OT (λh=>by rw[hp]at h;exact OW h.2 og)]
  refine Yb<|⟨XX.I V h0,v,?_⟩;rw[h8,h9];exact⟨hh,T,ha,hz,hw.I V,oa⟩
 rintro D xs W hD p7 ⟨v,E,T,ha,hz,hw,h0⟩ p8;rw[p7,<-g9]at E T ha;refine Zg ((QQ a.ed s0.1).foldl (KD pm i) st) λG gc=>?_;rw[gc]at E T ha S;have pn:=T.le;have p9:=hw.cons oa oa p8;refine QS<|QS<|Qy oh oh<|ZE E.BI O O<|xe<|Qy oh oh<|QN [sS 0] λbj w20 qa kj qe=>Qo<|Qw (u:=sS i) qe O O od rfl λw21 qf kk=>xe ?_;refine Qy oh oh<|ZE kk O O<|QD O O<|Qo<|Qw (u:=sS ((i:Int)+1)) kk O O od rfl λqj ql qm=>xe ?_;have gj:sW W qj:=(qa.Q qf kj).Q ql kj;have q0:=gj.size;have U:=E.I gj;have q4:=(p9.I gj).up q0;have q5:∀b∈ob v,b≠bj:=λb hb e=>oo (QU E.R b hb)
 refine⟨(i+1,bj,mw,v,G),oe,La,⟨U.stp,U.B4,U.B7,U.B10,U.B11,U.BS,qm,U.R,λb hb=>⟨(U.ne b hb).1,(U.ne b hb).2.1,(U.ne b hb).2.2.1,(U.ne b hb).2.2.2.1,(U.ne b hb).2.2.2.2.1,q5 b hb⟩⟩,T,q4,oa,?_,oe,ha,oe,S⟩;have t4:=E.B4.lt;have t7:=E.B7.lt;have t10:=E.B10.lt;have t11:=E.B11.lt;have tS:=E.BS.lt;simp only[];omega
open Go.RowKit
def sl (d:xE)(f:Fr):O2:=match d with|some d=>f d|none=>undef
def ow:O2->LN
 | .slice (some a) _ _=>[a.block]
 | .pointer (some a)=>[a.block]
 | .map (some b)=>[b]
 | _=>[]
def Fa (p:Nat->Prop):LN->Prop
 | []=>True
 | i::l=>p i/\Fa p l
theorem Fa.all {p:Nat->Prop}:∀{l:LN},Fa p l->∀i∈l,p i
 | [],_,_,hi=>by cases hi
 | j::l,h,i,hi=>by
  rcases Ln.1 hi with rfl|hi
  ·exact h.1
  exact Fa.all h.2 i hi
theorem Fa.of {p:Nat->Prop}:∀{l:LN},(∀i∈l,p i)->Fa p l
 | [],_=>trivial
 | i::_,h=>⟨h i Lm,Fa.of λj E=>h j (Lk _ E)⟩
def undup:List (Array Bool)->List (Array Bool)->List (Array Bool)
 | [],acc=>acc
 | x::l,acc=>if acc.contains x then undup l acc else undup l (x::acc)
theorem UT {x:Array Bool}:∀{l acc:List (Array Bool)},(x∈l\/x∈acc)->x∈undup l acc
 | [],acc,h=>h.elim (λh=>by cases h) id
 | y::l,acc,h=>by
  unfold undup;split
  ·rename_i E;refine UT ?_;rcases h with h|h
   ·rcases Ln.1 h with e|h
    ·exact .inr (e ▸ List.contains_iff_mem.1 E)
    exact .inl h
   exact .inr h
  refine UT ?_;rcases h with h|h
  ·rcases Ln.1 h with e|h
   ·exact .inr (e ▸ Lm)
   exact .inl h
  exact .inr (Lk _ h)
def alv (tk:Nat->LN)(opn:LN)(ls:Array Bool)(j:Nat):Bool:=ls.getD j false && opn.all λk=>!(ls.getD k false && (tk k).contains j)
def z9 (all:Array Oper)(dp tk:Nat->LN)(opn fn nb:LN)(rest:xt):Nat->List (Array Bool)->Bool
 | 0,L=>L.all λls=>Xk all rest ls && fn.all λi=>opn.contains i && alv tk opn ls i
 | k+1,L=>(L.all λls=>!(Region.ready .any all ls).isEmpty && (Region.ready .any all ls).all λi=>opn.contains i && ((dp i).all λj=>opn.contains j && alv tk opn ls j) && ((tk i).all λj=>(dp i).contains j) && ((tk i).isEmpty || nb.all λj=>!ls.getD j false)) &&
  z9 all dp tk opn fn nb rest k (undup (L.flatMap λls=>(Region.ready .any all ls).map λi=>ls.setIfInBounds i true) [])
def Qcb (all:xD)(D:xu):LN->Bool
 | []=>true
 | i::l=>(QT all i).guard.isNone && (match (QT all i).dst with|some d=>J0 D d && l.all (λj=>!((QT all j).dst == some d))|none=>false) && !l.contains i && Qcb all D l
theorem Kx {all:xD}{D:xu}:∀{l:LN},Qcb all D l=true->(∀i∈l,(QT all i).guard=none/\∃d,(QT all i).dst=some d/\J0 D d=true)/\∀i∈l,∀j∈l,i≠j->(QT all i).dst≠(QT all j).dst
 | [],_=>⟨λ_ h=>(by cases h),λ_ h=>(by cases h)⟩
 | i::l,h=>by
  simp only[Qcb,oI,Option.isNone_iff_eq_none]at h;obtain⟨⟨⟨U,hd⟩,V⟩,hl⟩:=h;have ih:=Kx hl;cases G:(QT all i).dst with
  | none=>rw[G]at hd;cases hd
  | some d =>
   rw[G]at hd;simp only[oI,Oj,Oe,beq_eq_false_iff_ne,ne_eq]at hd;have I:∀j∈l,(QT all j).dst≠some d:=λj E=>hd.2 j E;refine⟨λj E=>?_,λj E k S T=>?_⟩
   ·rcases Ln.1 E with rfl|E
    ·exact⟨U,d,G,hd.1⟩
    exact ih.1 j E
   rcases Ln.1 E with hj1|hj1
   ·rcases Ln.1 S with hk1|hk1
    ·exact OW (hj1.D hk1.symm) T
    rw[hj1,G];exact λe=>I k hk1 e.symm
   rcases Ln.1 S with hk1|hk1
   ·rw[hk1,G];exact I j hj1
   exact ih.2 j hj1 k hk1 T
def QfH (all:xD)(dp tk:Nat->LN)(pre:xt)(opn fn nb:LN)(rest:xt)(D:xu):Bool :=
 Region.noSelect all.toArray && (pre.length+(opn.length+rest.length) == all.length) && Jb all.toArray pre (oP all.length false) && Qcb all D opn && z9 all.toArray dp tk opn fn nb rest opn.length [ZS pre (oP all.length false)]
  && opn.all λi=>!((ZS pre (oP all.length false)).getD i false)
theorem JT {tk:Nat->LN}{opn:LN}{ls:Array Bool}(hi:i∈opn)(E:i<ls.size)(S:j≠i)(h:alv tk opn (ls.setIfInBounds i true) j=true):alv tk opn ls j=true/\j∉tk i:=by
 unfold alv at *;simp only[oI,Oj,Oe,Bool.and_eq_false_iff]at *;refine⟨⟨by rw[getD_set_ne false (Ne.symm S)]at h;exact h.1,λk G=>?_⟩,λT=>?_⟩
 ·by_cases I:k=i
  ·subst I;refine .inr ((h.2 k G).resolve_left λe=>?_);simp[Array.getD_eq_getD_getElem?,E]at e
  have:=h.2 k G;rw[getD_set_ne false (Ne.symm I)]at this;exact this
 rcases h.2 i hi with e|e
 ·simp[Array.getD_eq_getD_getElem?,E]at e
 rw[List.contains_iff_mem.2 T]at e;cases e
section
variable {all:xD}{C J:xz}
theorem yj {o:Oper}(h:o.guard=none):Z8 all f o=true:=by unfold Z8;rw[h]
abbrev tkn (all:xD)(tk:Nat->LN)(i:Nat)(g:Fr):LN:=(tk i).flatMap λj=>ow (sl (QT all j).dst g)
theorem Qc4 {α:Type}{N:Nat}{D:xu}{dp tk:Nat->LN}{opn fn nb:LN}{rest:xt}{Φ:Nat->O2->O1->Prop}{S:α->List (Nat×O2)}{I:α->O1->Prop}{f1:Fr}(hs:Region.noSelect all.toArray=true)(hop:Qcb all D opn=true)
  (h4:∀w,J w->C w) (h7:∀i∈opn,∀own w w',J w->O5 own w w'->(∀b∈own,N<=b)->(tk i=[]->own=[])->J w') (hN:∀w,J w->N<=↑w) (stab:∀i∈opn,∀v own w w',Φ i v w->O5 own w w'->(∀b∈ow v,b∉own)->(i∈nb->own=[])->Φ i v w')
  (h8:∀(g:Fr) w,Fa (λi=>Φ i (sl (QT all i).dst g) w) fn->(∀i∈fn,∀j∈fn,i≠j->∀b∈ow (sl (QT all i).dst g),b∉ow (sl (QT all j).dst g))->(∀i∈fn,∀b∈ow (sl (QT all i).dst g),N<=b)->∃z,Y7 g (S z)/\I z w)
  (spec:Fa (λi=>∀g w,J w->Fa (λj=>Φ j (sl (QT all j).dst (mix D f1 g)) w) (dp i)->(∀j∈dp i,∀b∈ow (sl (QT all j).dst (mix D f1 g)),N<=b/\b<↑w)->XO P (QT all i) (mix D f1 g) w (λf' w'=>O5 (tkn all tk i (mix D f1 g)) w w'/\Φ i (sl (QT all i).dst f') w'/\∀b∈ow (sl (QT all i).dst f'),(↑w<=b\/b∈tkn all tk i (mix D f1 g))/\b<↑w')) opn)
  (fin:∀z g w,J w->I z w->XP P all C K rest (VJ (S z) (mix D f1 g)) w):
  ∀(k:Nat) {L:List (Array Bool)} (_:z9 all.toArray dp tk opn fn nb rest k L=true) (ls:Array Bool) (f:Fr) (w:O1),ls∈L->ls.size=all.length->J w->(∀t,J0 D t=false->f t=f1 t)->(∀i∈opn,alv tk opn ls i=true->Φ i (sl (QT all i).dst f) w) ->
   (∀i∈opn,alv tk opn ls i=true->(∀b∈ow (sl (QT all i).dst f),N<=b/\b<↑w)/\∀j∈opn,alv tk opn ls j=true->i≠j->∀b∈ow (sl (QT all i).dst f),b∉ow (sl (QT all j).dst f))->XA P all C K (k+rest.length) ls f w
 | 0,L,T,ls,f,w,hu,hv,hC,hf,hw,V=>by
  simp only[z9,oI,Oj,List.contains_iff_mem]at T;have T:=T ls hu;obtain⟨z,h1,Y⟩:=h8 f w (Fa.of λi hi=>hw i (T.2 i hi).1 (T.2 i hi).2) (λi hi j E G=>(V i (T.2 i hi).1 (T.2 i hi).2).2 j (T.2 j E).1 (T.2 j E).2 G) (λi hi b hb=>((V i (T.2 i hi).1 (T.2 i hi).2).1 b hb).1);have h3:=fin z f w hC Y;rw[K5 hf,XD h1]at h3;rw[LU];exact Yq hs rest ls f w hv (.inl (h4 _ hC)) T.1 h3
 | k+1,L,T,ls,f,w,hu,hv,hC,hf,hw,V=>by
  simp only[z9,oI,Oj,List.contains_iff_mem,Bool.or_eq_true,Oe]at T;obtain⟨T,hD⟩:=T;obtain⟨hy,T⟩:=T ls hu;rw[Nat.add_right_comm];refine JU (λh0=>(by rw[h0]at hy;cases hy)) ?_;intro i hi o ho;obtain⟨⟨⟨U,ha⟩,hq⟩,hE⟩:=T i hi;obtain⟨hg,d,hd,hF⟩:=(Kx hop).1 i U;have hsp:=Fa.all spec i U f w hC;rw[K5 hf]at hsp;have hsp:=hsp (Fa.of λj E=>hw j (ha j E).1 (ha j E).2) (λj E=>(V j (ha j E).1 (ha j E).2).1);have hr:=ZJ ho;have he:i<ls.size:=by rw[hv];exact(Mh.1 (ou ho)).1
  rw[hr]at hg hd hsp;rw[yj hg,cond_true];refine hsp.S λv w' hx=>?_;have hT:∀b∈tkn all tk i f,∃j,j∈tk i/\b∈ow (sl (QT all j).dst f):=λb hb=>by
   obtain⟨j,E,hb⟩:=Md.1 hb;exact⟨j,E,hb⟩
  have h9:=h7 i U _ w w' hC hx.1 (λb hb=>by
   obtain⟨j,E,hb⟩:=hT b hb;exact((V j (ha j (hq j E)).1 (ha j (hq j E)).2).1 b hb).1) λe=>by rw[tkn,e];rfl
  have hz:=hx.1.size;have old:∀j∈opn,j≠i->sl (QT all j).dst (QP f o.dst v)=sl (QT all j).dst f:=λj E G=>by
   obtain⟨_,dj,hA,_⟩:=(Kx hop).1 j E;have hy:o.dst≠some dj:=λe=>((Kx hop).2) j E i U G (by rw[hA,hr];exact e.symm);rw[hA];exact Xa hy v
  have apt:∀j∈opn,j≠i->alv tk opn (ls.setIfInBounds i true) j=true->∀b∈ow (sl (QT all j).dst f),b∉tkn all tk i f:=λj E G hc b hb hm=>by
   obtain⟨h1,Y⟩:=JT U he G hc;obtain⟨t,ht,h5⟩:=hT b hm;exact(V j E h1).2 t (ha t (hq t ht)).1 (ha t (hq t ht)).2 (λe=>Y (e ▸ ht)) b hb h5
  refine⟨.inr (.inr (h4 _ h9)),Qc4 hs hop h4 h7 hN stab h8 spec fin k hD _ _ _ (UT (.inl (Md.2 ⟨ls,hu,Ly.2 ⟨i,hi,O⟩⟩))) (ou hv) h9 (λt ht=>?_) (λj E hc=>?_) (λj E hc=>⟨λb hb=>?_,λk hk h6 hB b hb hh=>?_⟩)⟩
  ·rw[Xa (by rw[hd];intro e;cases e;rw[hF]at ht;cases ht)];exact hf t ht
  ·by_cases G:j=i
   ·subst G;have Y:=hx.2.1;rw[hr];exact Y
   rw[old j E G];refine stab j E _ _ _ _ (hw j E (JT U he G hc).1) hx.1 (apt j E G hc) λhG=>?_;rcases hE with e|e
   ·rw[List.isEmpty_iff]at e;show(tk i).flatMap _=[];rw[e];rfl
   have h1:=(JT U he G hc).1;unfold alv at h1;rw[e j hG]at h1;cases h1
  ·by_cases G:j=i
   ·subst G;rw[hr]at hb;refine⟨(hx.2.2 b hb).1.elim (λh=>Lx (hN w hC) h) λh=>?_,(hx.2.2 b hb).2⟩;obtain⟨t,ht,h5⟩:=hT b h;exact((V t (ha t (hq t ht)).1 (ha t (hq t ht)).2).1 b h5).1
   rw[old j E G]at hb;have:=(V j E (JT U he G hc).1).1 b hb;exact⟨this.1,oa⟩
  by_cases G:j=i
  ·subst G;have hn:k≠j:=Ne.symm hB;rw[old k hk hn]at hh;rw[hr]at hb;have h1:=((V k hk (JT U he hn h6).1).1 b hh).2;rcases(hx.2.2 b hb).1 with Y|Y
   ·omega
   exact apt k hk hn h6 b hh Y
  rw[old j E G]at hb;have h1:=((V j E (JT U he G hc).1).1 b hb).2;by_cases hn:k=i
  ·subst hn;rw[hr]at hh;rcases(hx.2.2 b hh).1 with Y|Y
   ·omega
   exact apt j E G hc b hb Y
  rw[old k hk hn]at hh;exact(V j E (JT U he G hc).1).2 k hk (JT U he hn h6).1 hB b hb hh
theorem yK {Q:Exit->Fr->O1->Prop}(C J:xz)(N:Nat)(pre:xt)(dp tk:Nat->LN)(opn fn nb:LN)(rest:xt)(D:xu)(Φ:Nat->O2->O1->Prop)(S:α->List (Nat×O2))(I:α->O1->Prop)
  (hm:P.follows .mixedOrders=true) (hn:Xu n all=true) (G:QfH all dp tk pre opn fn nb rest D=true) (hC:J { w with drawn:=w.drawn+1 }) (T:∀w,J w->C w) (ha:∀i∈opn,∀own w w',J w->O5 own w w'->(∀b∈own,N<=b)->(tk i=[]->own=[])->J w') (hN:∀w,J w->N<=↑w) (stab:∀i∈opn,∀v own w w',Φ i v w->O5 own w w'->(∀b∈ow v,b∉own)->(i∈nb->own=[])->Φ i v w')
  (hc:∀(g:Fr) w,Fa (λi=>Φ i (sl (QT all i).dst g) w) fn->(∀i∈fn,∀j∈fn,i≠j->∀b∈ow (sl (QT all i).dst g),b∉ow (sl (QT all j).dst g))->(∀i∈fn,∀b∈ow (sl (QT all i).dst g),N<=b)->∃z,Y7 g (S z)/\I z w)
  (h:XP P all C (λf1 _=>(Fa (λi=>∀g w,J w->Fa (λj=>Φ j (sl (QT all j).dst (mix D f1 g)) w) (dp i)->(∀j∈dp i,∀b∈ow (sl (QT all j).dst (mix D f1 g)),N<=b/\b<↑w)->XO P (QT all i) (mix D f1 g) w (λU w'=>O5 (tkn all tk i (mix D f1 g)) w w'/\Φ i (sl (QT all i).dst U) w'/\∀b∈ow (sl (QT all i).dst U),(↑w<=b\/b∈tkn all tk i (mix D f1 g))/\b<↑w')) opn) /\
   ∀z g w,J w->I z w->XP P all C (λf w=>Q .normal f w) rest (VJ (S z) (mix D f1 g)) w) pre f { w with drawn:=w.drawn+1 }):W P n (.region id all.toArray true) Q f w:=by
 simp only[QfH,oI,beq_iff_eq,Oj,Oe]at G;obtain⟨⟨⟨⟨⟨V,hl⟩,hq⟩,hop⟩,he⟩,hf⟩:=G;refine JB C hm hn ?_;rw[<-hl];have hg:(oP all.length false).size=all.length:=od
 have Y:∀i∈opn,alv tk opn (ZS pre (oP all.length false)) i=true->False:=λi hi E=>by
  unfold alv at E;rw[hf i hi]at E;cases E
 have h1:=YG (K:=λf w=>Q .normal f w) (m:=opn.length+rest.length) V pre (oP all.length false) f _ (T _ hC) hq (λf1 hB=>Qc4 (P:=P) (C:=C) V hop T ha hN stab hc hB.1 hB.2 opn.length he (ZS pre (oP all.length false)) f1 _ Lm (by rw[YK];exact hg) hC (λ_ _=>O) (λi hi E=>(Y i hi E).elim) (λi hi E=>(Y i hi E).elim)) h;rw[hl]at h1 ⊢;exact h1
theorem XP.keeps_mono {K':xx}:∀(l:xt) (f:Fr) (w:O1),XP P all C K l f w->(∀f w,K f w->K' f w)->XP P all C K' l f w
 | [],f,w,h,E=>by simp only[XP]at h ⊢;exact E _ _ h
 | (j,q)::l,f,w,h,E=>by
  simp only[XP]at h ⊢;cases G:Z8 all f (QT all j) with
  | false=>rw[G]at h;exact XP.keeps_mono l _ _ h E
  | true =>
   rw[G]at h;cases q with
   | true=>obtain⟨v,I,hx⟩:=h;exact⟨v,I,XP.keeps_mono l _ _ hx E⟩
   | false=>exact XO.S (λv w' hx=>⟨hx.1,XP.keeps_mono l _ _ hx.2 E⟩) h
theorem Qc6 {Q:Exit->Fr->O1->Prop}(C J:xz)(pre:xt)(dp:Nat->LN)(opn:LN)(rest:xt)(D:xu)(Φ:Nat->O2->O1->Prop)(S:α->List (Nat×O2))(I:α->O1->Prop)
  (T:P.follows .mixedOrders=true) (U:Xu n all=true) (V:QfH all dp (λ_=>[]) pre opn opn opn rest D=true) (hC:J { w with drawn:=w.drawn+1 }) (Y:∀w,J w->C w) (ha:∀w w',J w->sW w w'->J w') (stab:∀i v w w',Φ i v w->sW w w'->Φ i v w')
  (hc:∀(g:Fr) w,Fa (λi=>Φ i (sl (QT all i).dst g) w) opn->(∀i∈opn,∀j∈opn,i≠j->∀b∈ow (sl (QT all i).dst g),b∉ow (sl (QT all j).dst g))->∃z,Y7 g (S z)/\I z w)
  (h:XP P all C (λf1 _=>Fa (λi=>∀g w,J w->Fa (λj=>Φ j (sl (QT all j).dst (mix D f1 g)) w) (dp i)->XO P (QT all i) (mix D f1 g) w (λG w'=>sW w w'/\Φ i (sl (QT all i).dst G) w'/\∀b∈ow (sl (QT all i).dst G),↑w<=b/\b<↑w')) opn /\
   ∀z g w,J w->I z w->XP P all C (λf w=>Q .normal f w) rest (VJ (S z) (mix D f1 g)) w) pre f { w with drawn:=w.drawn+1 }):W P n (.region id all.toArray true) Q f w:=by
 refine yK C J 0 pre dp (λ_=>[]) opn opn opn rest D Φ S I T U V hC Y (λ_ _ _ w w' h E _ e=>?_) (λ_ _=>Lo _) (λi hi v _ w w' h E _ e=>?_) (λg w h1 h2 _=>hc g w h1 h2) (XP.keeps_mono _ _ _ h λf1 w1 hx=>⟨Fa.of λi hi g w hJ hd _=>(Fa.all hx.1 i hi g w hJ hd).S λ_ _ h=>⟨h.1,h.2.1,λb hb=>⟨.inl (h.2.2 b hb).1,(h.2.2 b hb).2⟩⟩,hx.2⟩)
 ·rw[e rfl]at E;exact ha w w' h E
 rw[e hi]at E;exact stab i v w w' h E
theorem Vh {Q:Exit->Fr->O1->Prop}(C:xz)(pre:xt)(dp:Nat->LN)(opn:LN)(rest:xt)(D:xu)(Φ:Nat->O2->O1->Prop)(S:α->List (Nat×O2))(I:α->O1->Prop)
  (G:P.follows .mixedOrders=true) (T:Xu n all=true) (U:QfH all dp (λ_=>[]) pre opn opn opn rest D=true) (hC:C { w with drawn:=w.drawn+1 }) (V:∀w w',C w->sW w w'->C w') (stab:∀i v w w',Φ i v w->sW w w'->Φ i v w')
  (Y:∀(g:Fr) w,Fa (λi=>Φ i (sl (QT all i).dst g) w) opn->(∀i∈opn,∀j∈opn,i≠j->∀b∈ow (sl (QT all i).dst g),b∉ow (sl (QT all j).dst g))->∃z,Y7 g (S z)/\I z w)
  (h:XP P all C (λf1 _=>Fa (λi=>∀g w,C w->Fa (λj=>Φ j (sl (QT all j).dst (mix D f1 g)) w) (dp i)->XO P (QT all i) (mix D f1 g) w (λE w'=>sW w w'/\Φ i (sl (QT all i).dst E) w'/\∀b∈ow (sl (QT all i).dst E),↑w<=b/\b<↑w')) opn /\
   ∀z g w,C w->I z w->XP P all C (λf w=>Q .normal f w) rest (VJ (S z) (mix D f1 g)) w) pre f { w with drawn:=w.drawn+1 }):W P n (.region id all.toArray true) Q f w :=
 Qc6 C C pre dp opn rest D Φ S I G T U hC (λ_ h=>h) V stab Y h
end
theorem flA [Ze P t z]{E:O1}{e:Nat}(us:LV)(hC:sW E w)(T:z.cells=us.toArray:=by rfl):XO P ⟨some e,.alloc t,ty,pS,af,gd⟩ f w λG w'=>sW w w'/\sW E w'/\(∃b,G e=sP b/\↑E<=b/\QL ↑w' b t us)/\∀b∈ow (G e),↑w<=b/\b<w'.heap.size:=YU T λb w' I hb S=>by
 have e1:QP f (some e) (sP b) e=sP b:=by simp[QP,upd]
 show sW w w'/\sW E w'/\(∃b',QP f (some e) (sP b) e=sP b'/\↑E<=b'/\QL ↑w' b' t us)/\∀b'∈ow (QP f (some e) (sP b) e),↑w<=b'/\b'<↑w';rw[e1];exact⟨I,hC.D I,⟨b,O,Lx hC.size hb,S⟩,λx hx=>by rw[show x=b by simpa using(show x∈[b] from hx)];exact⟨hb,S.lt⟩⟩
theorem Qb2 {x:O3}{e:Nat}[h:Ay P t m e 1][h1:XN P e]{k:IntKind}{u:O2}(hx:ev f x=sT cs)(E:ev f y=.int k i)(hi:i<m)(G:cs[i]?=some u):
  (execOp (ev f) ⟨d,.index t x y,ty,pS,af,gd⟩).run P w=.ok (.value u) w:=by
 have I:=zH (P:=P) (w:=w) (t:=e);have J:=jR (P:=P) (w:=w) (t:=e);simp[execOp,hx,E,Instr.index,asIntOf,run_underlying h.u,I,part,J,G];intro S;omega
theorem QkP {b:Nat}(G:QL ↑w b 301 [sL E n n])(hS:QL ↑w E 4 ((flg n l).map Value.bool))(I:0<=s)(J:s<(n:Int)):
  QR sV 200 [sS s,sP b] w λr w'=>r=.bool (decide (s∈l))/\sW w w':=by
 refine Zm func200 ?_;have S:s=(s.toNat:Int):=oa
 refine Qc<|Qb<|Qc<|ZE G O O<|Qa<|x (QF (i:=s.toNat) O (OV sS S) oa)<|ZE hS O (ym I J)<|Qb<|Qh ⟨[_],La,O,O5.Y _ _⟩
theorem QkO {b:Nat}{e:Ed}(I:QL ↑w b 301 [sL G n n])(hS:QL ↑w G 4 ((flg n l).map Value.bool))(J:0<=e.2.2)(S:e.2.2<(n:Int)):
  QR sV 201 [sT (Qp e),sP b] w λr w'=>r=.bool (decide (e.2.2∈l))/\sW w w':=by
 refine Zm func201 ?_;have T:e.2.2=(e.2.2.toNat:Int):=oa
 refine Qc<|Za (Qp e) λV Y E ha U=>Qb<|Qc<|ZE (I.I E) O O<|Qq O U O O<|x (QF (i:=e.2.2.toNat) O (OV sS T) oa)<|ZE (hS.I E) O (ym J S)<|Qb<|Qh ⟨[_],La,O,E⟩
instance ayJk1:Ay sV 300 2 47 1:=⟨oc,oc⟩
def ptR (a:Qz)(n from0:Nat)(tg wi:LI):LI×Bool:=pth (λs=>decide (s∈tg)) (λe=>decide (e.2.2∈wi)) a.ed n from0
theorem QeL (st:List Ed):∀(f k:Nat),(wrd st f k).length<=f
 | 0,_=>by simp[wrd]
 | f+1,k=>by
  rw[wrd];split
  ·have:=QeL st f (gE st k).2.1.toNat;simp only[oQ];omega
  simp
theorem Qb3 (wt:Int->Bool)(pm:Ed->Bool)(es:List Ed):∀(f i:Nat) (st:List Ed),(QaD wt pm es f i st).1.length<=f+i
 | 0,_,_=>by simp[QaD]
 | f+1,i,st=>by
  rw[QaD];split
  ·split
   ·have:=QeL st (i+1) i;simp only[List.length_reverse];omega
   have:=Qb3 wt pm es f (i+1) ((QQ es (gE st i).1).foldl (KD pm i) st);omega
  simp
theorem QlE (a:Qz)(n:Nat)(tg wi:LI):(ptR a n 0 tg wi).1.length<=n+1:=Qb3 _ _ _ (n+1) 0 _
def phP (N n:Nat)(tg wi:LI)(i:Nat)(v:O2)(w:O1):Prop :=
 if i=2 then ∃b,v=sL b n n/\N<=b/\QL ↑w b 4 ((flg n wi).map Value.bool)
 else if i=5 then ∃b,v=sL b n n/\N<=b/\QL ↑w b 4 ((flg n tg).map Value.bool)
 else ∃b,v=sP b/\N<=b/\QL ↑w b 301 [nS]
theorem QlK {tg wi:LI}(i:Nat)(v:O2)(w w':O1)(h:phP N n tg wi i v w)(J:sW w w'):phP N n tg wi i v w':=by
 unfold phP at *;split
 ·rename_i e;rw[OU e]at h;obtain⟨b,E,G,I⟩:=h;exact⟨b,E,G,I.I J⟩
 rename_i e;rw[OT e]at h;split
 ·rename_i e2;rw[OU e2]at h;obtain⟨b,E,G,I⟩:=h;exact⟨b,E,G,I.I J⟩
 rename_i e2;rw[OT e2]at h;obtain⟨b,E,G,I⟩:=h;exact⟨b,E,G,I.I J⟩
structure PhZ where
 bi:Nat
 bt:Nat
 b15:Nat
 b16:Nat
theorem Qns {vi:O2}{from0:Nat}{tg wi:LI}(h:Zp [] ↑w va vm ve a)(hck:X4 a=0)(hn:a.st=(n:Int))(hf:from0<n)(ht:Qu [] ↑w vt tg)(hi:Qu [] ↑w vi wi)
  (h6:J1 a.st none tg=0) (h7:J1 a.st none wi=0) (hM:(from0:Int)∈wi):
  QR sV 127 [.agg #[va,sS a.st,vm,ve],sS from0,vt,vi] w λr w'=>sW w w'/\∃v,r=.tuple #[v,.bool (ptR a n from0 tg wi).2,sS 0]/\Qi 3 ↑w w' v (ptR a n from0 tg wi).1:=by
 have J:=(ZC a).1 hck;have hz:=J.st1;refine Zm func127 ?_;refine Qc<|Za [va,sS a.st,vm,ve] λb4 w1 h8 hZ h9=>x Qe<|x Qe<|Qb<|Qd<|Qc<|QV h9 O O<|Qv<|(Y5 (h.I h8)).S ?_;rintro r2 w2 ⟨rfl,hA⟩;refine Qb<|Qk<|ZM O O<|xe<|Zi rfl (λhC=>OW hck hC) (λhC=>?_);refine Qf ?_;have hD:=h8.D hA;have h3:=h9.I hA;have hN:¬(from0:Int)≥a.st:=oa
 refine Qd<|Qk<|xb (YC O O) (λhE=>OW hE oa) (λhE=>?_);refine Qa<|Qa<|Qq O h3 O O<|x (Yl O O)<|QB O<|xe<|Zi rfl (λhF=>OW hF hN) (λhF=>?_);refine Qf<|Qd<|Qk<|Qa<|x (QE ⟨ht.cells,hi.cells,Z⟩)<|Qa<|xe<|QW (α:=Nat) [(8,10),(13,14),(33,42)] (λz=>[(33,sS z)]) (λz w'=>z<=2/\sW w2 w') (λz=>2 - z) 0 La ⟨oa,O5.Y _ _⟩ ?_;rintro k g w4 ⟨hk,ha⟩;refine Zk rfl O (λhG=>?_) (λhG=>?_)
 ·refine Qt ?_;have hg:=hD.D ha;have hH:=h.I hg;have ga:=hg.size;have h4:=h3.I ha;have hO:=((Xh a.st tg none).1 h6).1;have hP:=((Xh a.st wi none).1 h7).1;refine Qd<|Vh (α:=PhZ) (sW w4) [oz 0,oz 1,oz 3,oz 4] (λ_=>[]) [2,5,6,7] [oA 8,oA 9] [(15,16),(45,45),(48,48)] (phP ↑w4 n tg wi)
   (λz=>[(45,.slice (some ⟨z.bi,0,none⟩) n n),(48,.slice (some ⟨z.bt,0,none⟩) n n),(15,.pointer (some ⟨z.b15,0,none⟩)),(16,.pointer (some ⟨z.b16,0,none⟩))])
   (λz w'=>QL ↑w' z.bi 4 ((flg n wi).map Value.bool)/\QL ↑w' z.bt 4 ((flg n tg).map Value.bool)/\QL ↑w' z.b15 301 [nS]/\QL ↑w' z.b16 301 [nS]/\(z.b15≠z.b16/\z.bi≠z.b15/\z.bi≠z.b16/\z.bt≠z.b15/\z.bt≠z.b16)/\↑w4<=z.b15/\↑w4<=z.b16)
   mixed oh oc (O5.X _ _) (λ_ _ h1 h2=>h1.D h2) QlK ?_ ?_
  ·rintro g w' ⟨⟨bi,e1,_,hq⟩,⟨bt,e2,_,hr⟩,⟨b15,e3,U,hs⟩,⟨b16,e4,hh,hw⟩,_⟩ hj;refine⟨⟨bi,bt,b15,b16⟩,⟨e1,e2,e3,e4,Z⟩,hq,hr,hs,hw,?_,U,hh⟩;have d1:=hj 6 od 7 od og;have d2:=hj 2 od 6 od og;have d3:=hj 2 od 7 od og;have d4:=hj 5 od 6 od og;have d5:=hj 5 od 7 od og;rw[e3,e4]at d1;rw[e1,e3]at d2;rw[e1,e4]at d3;rw[e2,e3]at d4;rw[e2,e4]at d5;simp only[ow,oF,forall_eq]at d1 d2 d3 d4 d5;exact⟨d1,d2,d3,d4,d5⟩
  refine pq (λ_ E=>Q7 (h4.I E) O O)<|p Qx<|pq (λ_ E=>Q7 (h4.I E) O O)<|p Qx<|pe ⟨⟨?_,?_,?_,?_,Z⟩,?_⟩
  ·intro g w' E _;refine xg<|(Qcw ((hi.I hg).I E) hn hz hP).S ?_;rintro r5 w5 ⟨I,b,rfl,hb,G⟩;exact⟨I,⟨b,O,Lx E.size hb,G⟩,λc S=>by rw[Lb.1 (show c∈[b] from S)];exact⟨hb,G.lt⟩⟩
  ·intro g w' E _;refine xg<|(Qcw ((ht.I hg).I E) hn hz hO).S ?_;rintro r5 w5 ⟨I,b,rfl,hb,G⟩;exact⟨I,⟨b,O,Lx E.size hb,G⟩,λc S=>by rw[Lb.1 (show c∈[b] from S)];exact⟨hb,G.lt⟩⟩
  ·intro g w' E _;exact YU (us:=[nS]) O λb w5 I hb G=>⟨I,⟨b,O,Lx E.size hb,G⟩,λc S=>by rw[Lb.1 (show c∈[b] from S)];exact⟨hb,G.lt⟩⟩
  ·intro g w' E _;exact YU (us:=[nS]) O λb w5 I hb G=>⟨I,⟨b,O,Lx E.size hb,G⟩,λc S=>by rw[Lb.1 (show c∈[b] from S)];exact⟨hb,G.lt⟩⟩
  rintro⟨bi,bt,b15,b16⟩ g w5 h5 ⟨hq,hr,hs,hw,hQ,U,hh⟩;simp only[]at hq hr hs hw hQ U hh;refine pk<|Qw (u:=sL bi n n) hs O O od rfl λw6 V hR=>⟨h5.Q V U,?_⟩;refine pk<|Qw (u:=sL bt n n) (hw.J V (by simp;omega)) O O od rfl λw7 hm hS=>⟨(h5.Q V U).Q hm hh,pe ?_⟩;have hy:sW w4 w7:=(h5.Q V U).Q hm hh;have hI:=hR.J hm (by simp;omega);have hJ:=(hq.J V (by simp;omega)).J hm (by simp;omega);have hT:=(hr.J V (by simp;omega)).J hm (by simp;omega);have gb:=hy.size;have hU:((flg n wi).map Value.bool)[0+from0*1]?=some (.bool true):=by
   have e1:=ym (n:=n) (l:=wi) (x:=(from0:Int)) oa oa;rw[OX hM]at e1;exact e1
  refine Qd<|Qc<|ZE hI O O<|Qa<|x (QF (i:=from0) O O hf)<|ZE hJ O hU<|x (Zl O)<|xe<|ZD O<|Qf<|Qc<|QV (h4.I hy) O O<|Qv<|(Qcg (hH.I hy) hn hz (λe T=>⟨(J.ed e T).1,(J.ed e T).2.1⟩)).S ?_;rintro r8 w8 ⟨Y,bF,rfl,gc,hV⟩;have hK:=hy.D Y;have ge:=Y.size;refine Qa<|x (Zn (l:=[]) (l':=[_]))<|x (Zn (l:=[]) (l':=[_]))<|Qo<|xg <|
   (QlN (wt:=λs=>decide (s∈tg)) (pm:=λe=>decide (e.2.2∈wi)) (cw:=[sP b16]) (cp:=[sP b15]) (gw:=200) (gp:=201) (hH.I hK) hn oa (λe T=>oo (J.ed e T).2.2.2) J.eds hV hf
    (λs w' h0 h1 hp=>QkP ((hS.I Y).I hp) ((hT.I Y).I hp) h0 h1) (λe w' T hp=>QkO ((hI.I Y).I hp) ((hJ.I Y).I hp) (oo (J.ed e T).2.2.2) (oo (J.ed e T).2.2.2))).S ?_
  rintro r9 w9 ⟨hW,v,rfl,hv⟩;refine Qa<|QJ O O<|QJ O O<|x Qe<|Qb<|Qk<|Qa<|x Qe<|x Qe<|Qb<|Qh ⟨[_,_,_],ox,hg.D (hK.D hW),v,O,Zf hv oa⟩
 refine Qf ?_;have hX:k<2:=by have gg:(k:Int)<2:=hG;omega
 have hY:∃u l,[vt,vi][k]?=some u/\Qu [] ↑w u l/\J1 a.st none l=0:=by
  rcases k with _|k
  ·exact⟨vt,tg,O,ht,h6⟩
  have:k=0:=oa
  subst this;exact⟨vi,wi,O,hi,h7⟩
 refine Exists.elim hY λu hu=>Exists.elim hu λl hl=>?_;refine Qd<|Qn<|Qc<|x (Qb2 (i:=k) (cs:=[vt,vi]) O O hX hl.1)<|Qb<|Qc<|QV (h3.I ha) O O<|Qa<|Qv<|(yF (va:=va) (vm:=vm) (ve:=ve) (a:=a) ((hl.2.1.I hD).I ha)).S ?_;rintro r5 w5 ⟨rfl,I⟩;refine Qb<|Qk<|ZM O O<|xe<|Zi rfl (λhL=>OW hl.2.2 hL) (λhL=>?_);refine Qf<|Qs<|QD O O<|Qa<|xe ?_;exact⟨k+1,oa,La,oa,ha.D I⟩
theorem QlC [hm:Mp P t kt et (sS 0)][hk:Key P kt Yp]{x:O3}{b:Nat}{s:Qz}{q v:Int}(h:ZU Yp ↑w b (KM [] s.ed))
  (E:s.ed.Pairwise λx y=>x.1<y.1\/(x.1=y.1/\x.2.1<y.2.1)) (hx:ev f x=.map (some b)) (G:ev f y=Yp (q,v)):
  (execOp (ev f) ⟨d,.lookup t x y true,ty,pS,af,gd⟩).run P w=.ok (.value (.tuple #[sS ((xj s.ed q v).getD 0),.bool (decide ((xj s.ed q v).isSome=true))])) w:=by
 rw[K3 h hx G,qn s.ed [] q v E];cases xj s.ed q v <;> rfl
def Yu (k:Nat):LI:=(oJ k).map λi:Nat=>(i:Int)
theorem Jw (k:Nat):(Yu k).length=k:=by simp[Yu]
theorem U9 (k:Nat):Yu (k+1)=Yu k++[(k:Int)]:=by unfold Yu;rw[Nf,Lv];rfl
theorem Kf (k:Nat)(x:Int):x∈Yu k↔0<=x/\x<(k:Int):=by
 unfold Yu;simp only[Ol,List.mem_range];constructor
 ·rintro⟨i,hi,rfl⟩;omega
 intro h;exact⟨x.toNat,oa,oa⟩
theorem QiZ (k:Nat):YA (Yu k):=by
 induction k with
 | zero=>exact List.Pairwise.nil
 | succ k ih =>
  rw[U9];refine Mg.2 ⟨ih,M4 _ _,λx hx y E=>?_⟩;have:=(Kf k x).1 hx;simp at E;omega
theorem Qbj {n:Int}(E:∀x∈l,0<=x/\x<n)(G:YA l):J1 n none l=0:=(Xh n l none).2 ⟨E,G,λy I=>by cases I⟩
structure Vs where
 x:Int
 y:Int
 b:Int
 v:Int
def Vs.ky (p:Vs):Int×Int:=(p.x,p.y)
def jO (a b:Qz)(i:Nat)(p:Vs)(v:Int):Vs:=⟨nxt a.ed p.x v,nxt b.ed p.y v,(i:Int),v⟩
def z6 (a:Qz)(kd x:Int):Bool:=decide (0<=x) && (decide (kd=1) || decide (x∈a.mr))
def lgC (a b:Qz)(kd:Int)(p:Vs):Bool:=!(z6 a kd p.x == z6 b kd p.y)
def lgA (a b:Qz)(i:Nat)(p:Vs)(V:List Vs)(v:Int):List Vs:=if(jO a b i p v).ky≠(-1,-1)/\(jO a b i p v).ky∉V.map Vs.ky then V++[jO a b i p v]else V
def vs0:Vs:=⟨-1,-1,-1,0⟩
def gV (V:List Vs)(k:Nat):Vs:=V.getD k vs0
def lgW (V:List Vs):Nat->Nat->LI
 | 0,_=>[]
 | f+1,k=>if 0<=(gV V k).b then(gV V k).v::lgW V f (gV V k).b.toNat else[]
def lgL (a b:Qz)(kd:Int)(al:LI):Nat->Nat->List Vs->Option (LI)
 | 0,_,_=>none
 | f+1,i,V=>if i<V.length then(if lgC a b kd (gV V i)=true then some (lgW V (i+1) i).reverse else lgL a b kd al f (i+1) (al.foldl (lgA a b i (gV V i)) V)) else none
def fst (a:Qz):Int:=if a.st=0 then -1 else 0
def lgq (a b:Qz)(kd:Int):Option (LI):=lgL a b kd (mrg (· || ·) a.al b.al) ((a.st.toNat+1)*(b.st.toNat+1)+1) 0 [⟨fst a,fst b,-1,0⟩]
def lgE (a b:Qz)(kd:Int):Int:=if X4 a≠0 then X4 a else if X4 b≠0 then X4 b else if kd≠1/\kd≠2 then 11 else 0
def cdA (c:Z2):Qz:=zC (tgA c) [] (unc c.ev)
def ccA (c:Z2):Qz:=JZ [tgA c,cdA c]
def own (c:Z2)(k:Bool):Qz:=if k=true then ccA c else tgA c
abbrev Q5 (p:Int×Int):LV:=[sS p.1,sS p.2]
theorem Xc (p:Int×Int):(Q5 p).length=2:=rfl
abbrev P2s (L:LN)(H:xA)(v:O2)(l:xw):Prop:=Zt L H v l.length 2 (l.flatMap Q5)
abbrev Zo (e:KN):LV:=[.string e.nm,.bool e.co,.bool e.ob,.bool e.fo,sS e.fl]
theorem UB (e:KN):(Zo e).length=5:=rfl
abbrev yY (s:ByteArray):Prop:=s.size<=9223372036854775807
structure qA (L:LN)(H:xA)(v:O2)(l:List KN):Prop where
 arr:Zt L H v l.length 5 (l.flatMap Zo)
 nm:∀e∈l,yY e.nm
theorem qA.I {L:LN}{w w':O1}{v:O2}{l:List KN}(h:qA L ↑w v l)(E:sW w w'):qA L ↑w' v l:=⟨h.arr.I E,h.nm⟩
theorem qA.st {L:LN}{w w':O1}{v:O2}{l:List KN}(h:qA L ↑w v l)(E:O5 L w w'):qA L ↑w' v l:=⟨h.arr.st E,h.nm⟩
theorem qA.up {L L':LN}{H:xA}{v:O2}{l:List KN}(h:qA L H v l)(E:∀b∈L',b∈L\/H.size<=b):qA L' H v l:=⟨h.arr.up E,h.nm⟩
structure IV where
 nm:ByteArray
 p:AV
def IV.it (q:IV):X5:=⟨q.nm,q.p.a⟩
abbrev QZ (q:IV):LV:=[.string q.nm,q.p.va,sS q.p.a.st,q.p.vm,q.p.ve]
theorem Va (q:IV):(QZ q).length=5:=rfl
structure Vk (L:LN)(H:xA)(v:O2)(qs:List IV):Prop where
 arr:Zt L H v qs.length 5 (qs.flatMap QZ)
 each:∀q∈qs,Zp L H q.p.va q.p.vm q.p.ve q.p.a
 nm:∀q∈qs,yY q.nm
structure XV where
 nm:ByteArray
 v:O2
 ls:xw
def XV.x (q:XV):Exc:=⟨q.nm,q.ls⟩
abbrev Zw (q:XV):LV:=[.string q.nm,q.v]
theorem VF (q:XV):(Zw q).length=2:=rfl
structure jg (L:LN)(H:xA)(v:O2)(qs:List XV):Prop where
 arr:Zt L H v qs.length 2 (qs.flatMap Zw)
 each:∀q∈qs,P2s L H q.v q.ls
 nm:∀q∈qs,yY q.nm
structure KV where
 nm:ByteArray
 v:O2
 ts:xw
 bd:Int
def KV.k (q:KV):xL:=⟨q.nm,q.ts,q.bd⟩
abbrev Zz (q:KV):LV:=[.string q.nm,q.v,sS q.bd]
theorem VR (q:KV):(Zz q).length=3:=rfl
structure yS (L:LN)(H:xA)(v:O2)(qs:List KV):Prop where
 arr:Zt L H v qs.length 3 (qs.flatMap Zz)
 each:∀q∈qs,P2s L H q.v q.ts
 nm:∀q∈qs,yY q.nm
theorem Vk.I {L:LN}{w w':O1}{v:O2}{qs:List IV}(h:Vk L ↑w v qs)(E:sW w w'):Vk L ↑w' v qs:=⟨h.arr.I E,λq G=>(h.each q G).I E,h.nm⟩
theorem Vk.st {L:LN}{w w':O1}{v:O2}{qs:List IV}(h:Vk L ↑w v qs)(E:O5 L w w'):Vk L ↑w' v qs:=⟨h.arr.st E,λq G=>(h.each q G).st E,h.nm⟩
theorem Vk.up {L L':LN}{H:xA}{v:O2}{qs:List IV}(h:Vk L H v qs)(E:∀b∈L',b∈L\/H.size<=b):Vk L' H v qs:=⟨h.arr.up E,λq G=>(h.each q G).up E,h.nm⟩
theorem jg.I {L:LN}{w w':O1}{v:O2}{qs:List XV}(h:jg L ↑w v qs)(E:sW w w'):jg L ↑w' v qs:=⟨h.arr.I E,λq G=>(h.each q G).I E,h.nm⟩
theorem jg.st {L:LN}{w w':O1}{v:O2}{qs:List XV}(h:jg L ↑w v qs)(E:O5 L w w'):jg L ↑w' v qs:=⟨h.arr.st E,λq G=>(h.each q G).st E,h.nm⟩
theorem jg.up {L L':LN}{H:xA}{v:O2}{qs:List XV}(h:jg L H v qs)(E:∀b∈L',b∈L\/H.size<=b):jg L' H v qs:=⟨h.arr.up E,λq G=>(h.each q G).up E,h.nm⟩
theorem yS.I {L:LN}{w w':O1}{v:O2}{qs:List KV}(h:yS L ↑w v qs)(E:sW w w'):yS L ↑w' v qs:=⟨h.arr.I E,λq G=>(h.each q G).I E,h.nm⟩
theorem yS.st {L:LN}{w w':O1}{v:O2}{qs:List KV}(h:yS L ↑w v qs)(E:O5 L w w'):yS L ↑w' v qs:=⟨h.arr.st E,λq G=>(h.each q G).st E,h.nm⟩
theorem yS.up {L L':LN}{H:xA}{v:O2}{qs:List KV}(h:yS L H v qs)(E:∀b∈L',b∈L\/H.size<=b):yS L' H v qs:=⟨h.arr.up E,λq G=>(h.each q G).up E,h.nm⟩
structure CL where
 ve:O2
 vc:O2
 vr:O2
 vx:O2
 vk:O2
 ev:List KN
 co:List IV
 rq:List IV
 ex:List XV
 cs:List KV
def CL.C (c:CL):Z2:=⟨c.ev,c.co.map (·.it),c.rq.map (·.it),c.ex.map (·.x),c.cs.map (·.k)⟩
abbrev CL.cells (c:CL):LV:=[c.ve,c.vc,c.vr,c.vx,c.vk]
abbrev CL.val (c:CL):O2:=.agg #[c.ve,c.vc,c.vr,c.vx,c.vk]
structure ZP (L:LN)(H:xA)(c:CL):Prop where
 ev:qA L H c.ve c.ev
 co:Vk L H c.vc c.co
 rq:Vk L H c.vr c.rq
 ex:jg L H c.vx c.ex
 cs:yS L H c.vk c.cs
theorem ZP.I {L:LN}{w w':O1}{c:CL}(h:ZP L ↑w c)(E:sW w w'):ZP L ↑w' c:=⟨h.ev.I E,h.co.I E,h.rq.I E,h.ex.I E,h.cs.I E⟩
theorem ZP.st {L:LN}{w w':O1}{c:CL}(h:ZP L ↑w c)(E:O5 L w w'):ZP L ↑w' c:=⟨h.ev.st E,h.co.st E,h.rq.st E,h.ex.st E,h.cs.st E⟩
theorem ZP.up {L L':LN}{H:xA}{c:CL}(h:ZP L H c)(E:∀b∈L',b∈L\/H.size<=b):ZP L' H c:=⟨h.ev.up E,h.co.up E,h.rq.up E,h.ex.up E,h.cs.up E⟩
theorem ZP.ones {H:xA}{c:CL}(h:ZP L H c):Zv c.cells:=⟨h.ev.arr.one,h.co.arr.one,h.rq.arr.one,h.ex.arr.one,h.cs.arr.one,Z⟩
def yW (N:Nat)(H:xA)(v:O2)(k:Z2):Prop:=∃c:CL,v=c.val/\c.C=k/\∀L:LN,(∀b∈L,b<N)->ZP L H c
theorem yW.S {H:xA}{v:O2}{k:Z2}(h:yW N H v k)(E:M<=N):yW M H v k:=let⟨c,G,I,J⟩:=h;⟨c,G,I,λL S=>J L (λb hb=>LR (S b hb) E)⟩
theorem qy (s:ByteArray)(ha:yY s)(w:O1):QR sV 172 [.string s] w λr w'=>r=.bool (Xl s)/\w'=w:=by
 unfold yY at ha;refine Zm func172 ?_;refine Qc<|Qb<|Qd<|Qk<|x (QdE O)<|Qa<|xe<|QW (α:=Nat) [(2,5),(8,46)] (λz=>[(8,sS z)]) (λz w'=>w'=w/\z<=s.size/\(oN z (s.size - z)).all (nmQ s)=(oN 0 s.size).all (nmQ s)) (λz=>s.size - z) 0 La ⟨O,Lo _,by rw[ON]⟩ ?_;rintro k g w1 ⟨rfl,hk,E⟩;refine Zk rfl O (λG=>?_) (λG=>?_)
 ·refine Qt ?_;have he:s.size<=k:=by have hf:¬(k:Int)<(s.size:Int):=G;omega
  rw[Qlz he]at E;have I:Xl s=decide (0<s.size/\s.size<=32):=by unfold Xl;rw[<-E];simp
  rw[I];refine QX (α:=Bool) [(2,2),(47,54)] (λz=>[(2,.bool z)]) (λz w'=>w'=w1/\z=decide (0<s.size/\s.size<=32)) oh ?_ ?_
  ·refine Qs<|Qa<|x (QdE O)<|xb (Ya O O) (λhg=>?_) (λhg=>?_)
   ·refine Qa<|Qa<|x (QdE O)<|x (X6 O O)<|QB O<|Qb<|⟨_,La,O,by first|exact bT oa|exact bF oa|exact bD oa⟩
   refine Qa<|Zq<|QB O<|Qb<|⟨_,La,O,by first|exact bT oa|exact bF oa|exact bD oa⟩
  rintro z g w2 ⟨rfl,rfl⟩;exact Qh ⟨[_],La,O,O⟩
 have J:k<s.size:=by have hf:(k:Int)<(s.size:Int):=G;omega
 rw[Qh6 J,ME]at E;refine Qf<|Qd<|Qn<|Qk<|Qb<|Qk<|Qa<|x (Qih (i:=k) O O J)<|Qb ?_;have S:nmQ s k=decide (nmP k (chr s k)):=rfl;refine Zg (chr s k) λc T=>?_;rw[T]at S;refine QX (α:=Bool) [(5,5),(14,31)] (λz=>[(5,.bool z)]) (λz w'=>w'=w1/\z=decide ((97<=c/\c<=122)\/(65<=c/\c<=90)\/c=95)) oh ?_ ?_
 ·rw[<-T];refine Qs<|Qa<|xb (Yl O O) (λhh=>?_) (λhh=>?_)
  ·refine Qa<|Qa<|xb (X6 O O) (λhj=>?_) (λhj=>?_)
   ·refine QB O<|Qa<|Zq<|Zq<|QB O<|Qa<|Yf<|x (VM O) <|
     Qb<|⟨_,La,O,by first|exact bT oa|exact bF oa|exact bD oa⟩
   refine QB O<|Qa<|Qa<|xb (Yl O O) (λU=>?_) (λU=>?_)
   ·refine Qa<|Qa<|xb (X6 O O) (λV=>?_) (λV=>?_)
    ·refine QB O<|QB O<|Qa<|Yf<|QB O<|Qb<|⟨_,La,O,by first|exact bT oa|exact bF oa|exact bD oa⟩
    refine QB O<|QB O<|Qa<|Qa<|x (Zd O O)<|QB O<|Qb<|⟨_,La,O,by first|exact bT oa|exact bF oa|exact bD oa⟩
   refine Qa<|Yf<|QB O<|QB O<|Qa<|Qa<|x (Zd O O)<|QB O<|x Qe <|
    xe ?_
   exact⟨_,La,O,by first|exact bT oa|exact bF oa|exact bD oa⟩
  refine Qa<|Yf<|QB O<|Qa<|Qa<|xb (Yl O O) (λU=>?_) (λU=>?_)
  ·refine Qa<|Qa<|xb (X6 O O) (λV=>?_) (λV=>?_)
   ·refine QB O<|QB O<|Qa<|Yf<|QB O<|Qb<|⟨_,La,O,by first|exact bT oa|exact bF oa|exact bD oa⟩
   refine QB O<|QB O<|Qa<|Qa<|x (Zd O O)<|QB O<|Qb<|⟨_,La,O,by first|exact bT oa|exact bF oa|exact bD oa⟩
  refine Qa<|Yf<|QB O<|QB O<|Qa<|Qa<|x (Zd O O)<|QB O<|x Qe <|
   xe ?_
  exact⟨_,La,O,by first|exact bT oa|exact bF oa|exact bD oa⟩
 rintro z g w4 ⟨rfl,rfl⟩;refine QX (α:=Bool) [(32,45)] (λz=>[(45,.bool z)]) (λz w'=>w'=w4/\z=decide (¬nmP k c)) oh ?_ ?_
 ·unfold nmP;rw[<-T];refine Qs<|Qa<|xb (zQ O) (λhm=>?_) (λhm=>?_)
  ·refine Qa<|Qa<|xb (Zd O O) (λhn=>?_) (λhn=>?_)
   ·refine Qa<|Yf<|QB O<|Qa<|Yf<|QB O<|QB O<|xe ?_;exact⟨_,La,O,by first|exact bT oa|exact bF oa|exact bD oa⟩
   refine Qa<|Qa<|xb (YC O O) (λho=>?_) (λho=>?_)
   ·refine QB O<|Qa<|Yf<|QB O<|QB O<|xe ?_;exact⟨_,La,O,by first|exact bT oa|exact bF oa|exact bD oa⟩
   refine QB O<|Qa<|Qa<|x (Ya O O)<|QB O<|QB O<|xe ?_;exact⟨_,La,O,by first|exact bT oa|exact bF oa|exact bD oa⟩
  refine Qa<|Zq<|Zq<|Zq<|Kt<|QB O<|xe ?_;exact⟨_,La,O,by first|exact bT oa|exact bF oa|exact bD oa⟩
 rintro z g w5 ⟨rfl,rfl⟩;refine Zi rfl (λY=>?_) (λY=>?_)
 ·refine Qc<|Qb ?_;have I:Xl s=false:=by
   unfold Xl;rw[<-E,S,OZ Y];rfl
  exact Qh ⟨[_],La,by rw[I];rfl,O⟩
 refine Qf ?_;have hp:nmP k c:=Ls.1 Y;refine Qs<|QD O O<|Qa<|xe ?_;rw[S,OX hp,OK]at E;exact⟨k+1,oa,La,O,J,E⟩
def nmM (l:List ByteArray):List (ByteArray×O2):=l.map λs=>(s,.bool true)
theorem Ql3 (l:List ByteArray)(s:ByteArray):xd (nmM l) s=if s∈l then some (.bool true) else none:=by
 induction l with
 | nil=>rfl
 | cons a l ih =>
  show(if a=s then some (Value.bool true) else xd (nmM l) s)=_
  rw[ih];by_cases h:a=s
  ·subst h;simp
  have:s≠a:=λe=>h e.symm;simp[h,this]
theorem Qfh {l:List ByteArray}{s:ByteArray}(h:s∉l):xh (nmM l) s (.bool true)=nmM (l++[s]):=by
 induction l with
 | nil=>rfl
 | cons a l ih =>
  have E:a≠s:=λe=>h (by subst e;exact Lm);show(if a=s then(a,Value.bool true)::nmM l else(a,Value.bool true)::xh (nmM l) s (.bool true))=_
  rw[OT E,ih (λG=>h (Lk _ G))];rfl
theorem Qb1 [hm:Mp P t kt et (.bool false)][hk:Key P kt Xz]{x:O3}{b:Nat}{l:List ByteArray}{s:ByteArray}(h:ZU Xz ↑w b (nmM l))(hx:ev f x=.map (some b))(E:ev f y=.string s):
  (execOp (ev f) ⟨d,.lookup t x y false,ty,pS,af,gd⟩).run P w=.ok (.value (.bool (decide (s∈l)))) w:=by
 rw[Ji h hx E,Ql3];by_cases G:s∈l <;> simp[G]
theorem Qek {s:List ByteArray}{l:List KN}{k:Nat}(h:k<l.length):qG s (l.drop k)=if X7 s (l[k]'h)≠0 then X7 s (l[k]'h) else qG (s++[(l[k]'h).nm]) (l.drop (k+1)):=by
 rw[QY h];rfl
theorem yr {v:O2}{l:List KN}(h:qA L ↑w v l):QR sV 110 [v] w λr w'=>r=sS (XK l)/\sW w w':=by
 have h4:=h.arr.le;refine Zm func110 ?_;refine Qc<|Qb<|Qd<|Qk<|QG h.arr O<|x (Ya O O)<|xe<|Zi rfl (λh8=>?_) (λh8=>?_)
 ·refine Qc<|Qb<|Qh ⟨[_],La,by unfold XK;rw[OU (by have h9:(32:Int)<(l.length:Int):=h8;omega)];rfl,O5.Y _ _⟩
 have hck:XK l=qG [] l:=by unfold XK;rw[OT (by have h9:¬(32:Int)<(l.length:Int):=h8;omega)]
 rw[hck];refine Qf<|Qc<|Qo<|Z1 Xz λb9 w1 hj hq hr=>Qb<|Qd<|Qk<|QG (h.arr.I hj) O<|Qa<|xe<|QW (α:=Nat×List ByteArray) [(2,2),(5,5),(12,50)] (λz=>[(12,sS z.1)]) (λz w'=>z.1<=l.length/\sW w w'/\ZU Xz ↑w' b9 (nmM z.2)/\qG z.2 (l.drop z.1)=qG [] l) (λz=>l.length - z.1) (0,[]) La
  ⟨Lo _,hj,hr,O⟩ ?_
 rintro⟨k,sn⟩ g w2 ⟨hk,J,hs,G⟩;refine Zk rfl O (λhc=>?_) (λhc=>?_)
 ·refine Qt ?_;have ht:l.length<=k:=by have hu:¬(k:Int)<(l.length:Int):=hc;omega
  rw[Lr ht]at G;refine Qc<|Qb<|Qh ⟨[_],La,by rw[<-G];rfl,J⟩
 have V:k<l.length:=by have hu:(k:Int)<(l.length:Int):=hc;omega
 rw[Qek V]at G;have hm:=h.nm _ (Le V);refine Qf<|Qd<|Qn<|Qc<|O8 UB (h.arr.I J) O O V λh5 ho=>?_;refine Zg (l[k]'V) λe he=>?_;rw[he]at ho G hm;refine x (QA ho O O)<|QN [.string .empty,.bool false,.bool false,.bool false,sS 0] λb5 w3 hv hw I=>Q2 (Zo e) I ⟨O,O,O,O,O,Z⟩ λw4 hy I =>
  xe ?_
 have S:sW w2 w4:=hv.Q hy hw;have hp:=hs.I S;refine Qd<|Qn<|Qc<|Qq O I O O<|Qv<|(qy e.nm hm _).S ?_;rintro r5 w5 ⟨rfl,rfl⟩;refine x (Zl O)<|Qb<|Q6 O (λhf=>?_) (λhf=>?_)
 ·have T:Xl e.nm=false:=by simpa using hf
  have E:X7 sn e=7:=by unfold X7;rw[OU T]
  refine Qc<|Qb<|Qh ⟨[_],La,by rw[<-G,E];rfl,J.D S⟩
 have T:¬Xl e.nm=false:=by simpa using hf
 refine Qk<|Qq O I O O<|x (Qb1 hp O O)<|Qb<|Zi O (λU=>?_) (λU=>?_)
 ·have E:X7 sn e=8:=by unfold X7;rw[OT T,OU U]
  refine Qc<|Qb<|Qh ⟨[_],La,by rw[<-G,E];rfl,J.D S⟩
 refine QX (α:=Bool) [(26,34)] (λz=>[(26,.bool z)]) (λz w'=>w'=w5/\z=decide (e.fl<0\/4<e.fl)) oh ?_ ?_
 ·refine Qs<|Qq O I O O<|xb (YC O O) (λhz=>?_) (λhz=>?_)
  ·refine Qa<|Zq<|QB O<|Qb<|⟨_,La,O,by first|exact bT oa|exact bF oa|exact bD oa⟩
  refine Qa<|Qq O I O O<|x (Ya O O)<|QB O<|Qb<|⟨_,La,O,by first|exact bT oa|exact bF oa|exact bD oa⟩
 rintro z g w6 ⟨rfl,rfl⟩;refine Zi rfl (λY=>?_) (λY=>?_)
 ·have E:X7 sn e=2:=by unfold X7;rw[OT T,OT U,OU Y]
  refine Qc<|Qb<|Qh ⟨[_],La,by rw[<-G,E];rfl,J.D S⟩
 refine QX (α:=Bool) [(35,46)] (λz=>[(35,.bool z)]) (λz w'=>w'=w6/\z=decide (e.fl≠0/\(e.co || e.ob)=true)) oh ?_ ?_
 ·refine Qs<|Qq O I O O<|xb (JN O O) (λha=>?_) (λha=>?_)
  ·refine Qa<|Zc O<|xB (Ql I O O) (λhg=>?_) (λhg=>?_)
   ·refine Qa<|Yf<|QB O<|QB O<|Qb<|⟨_,La,O,by rw[hg,OX ⟨ha,od⟩]⟩
   refine Qa<|Qq O I O O<|QB O<|QB O<|Qb<|⟨_,La,O,?_⟩;show e.ob=_;rw[hg];cases e.ob <;> simp[show ¬e.fl=0 from ha]
  refine Qa<|Zq<|Zq<|QB O<|Qb<|⟨_,La,O,bF (λE=>ha E.1)⟩
 rintro z g w7 ⟨rfl,rfl⟩;refine Zi rfl (λhh=>?_) (λhh=>?_)
 ·have E:X7 sn e=13:=by unfold X7;rw[OT T,OT U,OT Y,OU hh]
  refine Qc<|Qb<|Qh ⟨[_],La,by rw[<-G,E];rfl,J.D S⟩
 have E:X7 sn e=0:=by unfold X7;rw[OT T,OT U,OT Y,OT hh]
 rw[E,OT (λh=>h rfl)]at G;refine Qf<|Qs<|Qa<|Qq O I O O<|Qo<|YO (k:=e.nm) hp O O λw8 h0 h2=>xe ?_;refine Qs<|QD O O<|Qa<|xe ?_;have h3:ZU Xz ↑w8 b9 (nmM (sn++[e.nm])):=by rw[<-Qfh U];exact h2
 exact⟨(k+1,sn++[e.nm]),oe,La,V,(J.D S).Q h0 hq,h3,G⟩
theorem Qcp {α:Type}(q:α->Bool)(x:α):∀(l:List α) (i:Nat),ixs q i (l++[x])=ixs q i l++if q x=true then[((i+l.length:Nat):Int)]else[]
 | [],i=>by simp[ixs]
 | a::l,i=>by
  simp only[oZ,ixs,(Qcp q x l (i+1)),oQ];rw[show i+1+l.length=i+(l.length+1) by omega];split <;> simp
theorem QaY {α:Type}(q:α->Bool):∀(l:List α) (i:Nat),(ixs q i l).length<=l.length
 | [],i=>by simp[ixs]
 | a::l,i=>by
  have ih:=QaY q l (i+1);unfold ixs;split <;> simp <;> omega
theorem Qjn (q:α->Bool){l:List α}{k:Nat}(h:k<l.length):ixs q 0 (l.take (k+1))=ixs q 0 (l.take k)++if q (l[k]'h)=true then[(k:Int)]else[]:=by
 rw[Lj h,Qcp];simp[Nat.min_eq_left (Nat.le_of_lt h)]
theorem Qg0 [Fu sV g fn]{q:KN->Bool}(hq:∀(e:KN) (w:O1),QR sV g [sT (Zo e)] w λr w'=>r=.bool (q e)/\sW w w'){v:O2}{l:List KN}(h:qA L ↑w v l):
  QR sV 195 [v,.func (.func g) #[] #[]] w λr w'=>sW w w'/\Qi 3 ↑w w' r (ixs q 0 l):=by
 have hu:=h.arr.le;refine Zm func195 ?_;refine Qc<|Qb<|Qc<|Qb<|Qd<|Qk<|QG h.arr O<|Qa<|xe<|QW (α:=Nat×O2) [(5,7),(10,22)] (λz=>[(5,z.2),(10,sS z.1)]) (λz w'=>z.1<=l.length/\sW w w'/\Qi 3 ↑w w' z.2 (ixs q 0 (l.take z.1))) (λz=>l.length - z.1) (0,nS) ov
  ⟨Lo _,O5.Y _ _,QM _ _ _ _⟩ ?_
 rintro⟨k,vo⟩ g w1 ⟨hk,E,J⟩;simp only[]at hk J;refine Zk rfl O (λT=>?_) (λT=>?_)
 ·refine Qt ?_;have hf:l.length<=k:=by have hg:¬(k:Int)<(l.length:Int):=T;omega
  rw[Lq hf]at J;refine Qk<|Qb<|Qh ⟨[_],La,E,J⟩
 have G:k<l.length:=by have hg:(k:Int)<(l.length:Int):=T;omega
 have I:=Qjn q G;have hv:=QaY q (l.take k) 0;have hw:(l.take k).length=k:=by simp;omega
 refine Qf<|Qd<|Qn<|Qk<|O8 UB (h.arr.I E) O O G λhy hc=>?_;refine Zg (l[k]'G) λe he=>?_;rw[he]at hc I;refine x (QA hc O O)<|QN [.string .empty,.bool false,.bool false,.bool false,sS 0] λb7 w2 hh hj U=>x Qe <|
  Q2 (Zo e) U ⟨O,O,O,O,O,Z⟩ λw3 hm U=>xe ?_
 have hn:sW w1 w3:=hh.Q hm hj;refine Qk<|QV U O O<|Qo<|xc (first:=[]) (capt:=[]) O<|(hq e w3).S ?_;rintro r4 w4 ⟨rfl,ho⟩;have S:=hn.D ho;have V:=Qm J S;have hz:=(E.D S).size;refine xe<|Q6 rfl (λY=>?_) (λY=>?_)
 ·rw[OU Y]at I;refine Qs<|Qa<|Qa<|Qo<|Q9 [[sS k]] λh0 w5 ha h1 hp=>?_;have hr:=Qm V ha;have h2:=ha.size;refine Qo<|Q8 (news:=[sS k]) (L:=[]) hr O O O (hp.at od) om oa oa λv6 w6 hs ht h3 =>
   Qb<|Qs<|QD O O<|Qa<|xe ?_
  refine⟨(k+1,v6),oe,ov,G,((E.D S).D ha).O ht (λb hb=>.inr ((Qj V) b hb).1),?_⟩;simp only[];rw[I];exact Qi.snoc hs
 rw[OT (by rw[Y];decide),LF]at I;refine Qf<|Qs<|QD O O<|Qa<|xe ?_;exact⟨(k+1,vo),oe,ov,G,E.D S,by simp only[];rw[I];exact V⟩
theorem Qev (e:KN)(w:O1):QR sV 190 [sT (Zo e)] w λr w'=>r=.bool (!e.co)/\sW w w':=by
 refine Zm func190 ?_;refine Qc<|Za (Zo e) λI J E S G=>Qb<|Qc<|Qq O G O O<|x (Zl O)<|Qb<|Qh ⟨[_],La,O,E⟩
theorem Qah {v:O2}{l:List KN}(h:qA L ↑w v l):QR sV 123 [v,sS 2] w λr w'=>sW w w' /\
  ∃vo,r=.tuple #[vo,sS (XK l)]/\Qi 3 ↑w w' vo (if XK l=0 then unc l else[]):=by
 refine Zm func123 ?_;refine Qc<|x Qe<|Qb<|Qd<|Qk<|Qv<|(yr h).S ?_;rintro r1 T ⟨rfl,J⟩;refine Qb<|Qk<|ZM O O<|xe<|Zi rfl (λG=>?_) (λG=>?_)
 ·refine Qk<|x Qe<|Qb<|Qh ⟨[_,_],ov,J,_,O,by rw[OT G];exact QM _ _ _ _⟩
 have S:XK l=0:=Ls.1 G;refine Qf<|Qc<|Qo<|Z1 XG λb15 w2 U E V=>Qo<|Yv (k:=1) V O O λw3 Y ha=>Qo<|Yv (k:=2) ha O O λw4 hc he =>
  Qo<|Yv (k:=3) he O O λw5 hf hg=>Qo<|Yv (k:=4) hg O O λw6 hh hj=>Qo<|Yv (k:=5) hj O O λw7 hk hm=>Qo<|Yv (k:=6) hm O O λw8 hn ho =>
  Qa<|Qb ?_
 have hp:sW T w8:=(((((U.Q Y E).Q hc E).Q hf E).Q hh E).Q hk E).Q hn E;refine Qk<|Qa<|x (U1 (k:=(2:Int)) ho O O O)<|Qa<|QJ O O<|QJ O O<|x Qe<|Qb<|Qd<|Qk<|x (Zl O)<|xe<|ZD rfl<|Qf ?_;have I:=J.D hp;refine Qk<|Qa<|Qv<|(Qg0 Qev (h.I I)).S ?_;rintro r9 w9 ⟨hq,hr⟩;refine x Qe<|Qb<|Qh ⟨[_,_],ov,I.D hq,_,by rw[S];rfl,?_⟩;rw[OU S];exact Zf hr I.size
theorem Qcr (n:Int)(w:O1):QR sV 242 [sS n] w λr w'=>r=.bool (grt n)/\w'=w:=by
 refine Zm func242 ?_;refine Qc<|Qb<|QX (α:=Bool) [(2,8)] (λz=>[(2,.bool z)]) (λz w'=>w'=w/\z=grt n) oh ?_ ?_
 ·refine Qs<|Qa<|xb (YC O O) (λE=>?_) (λE=>?_)
  ·refine Qa<|Yf<|QB O<|Qb<|⟨_,La,O,by unfold grt;rw[OX E];rfl⟩
  refine Qa<|Qa<|x (Ya O O)<|QB O<|Qb<|⟨_,La,O,by unfold grt;rw[OZ E];rfl⟩
 rintro z g G ⟨rfl,rfl⟩;exact Qh ⟨[_],La,O,O⟩
theorem Qej {sz:LI}{ls:xw}{k:Nat}(h:k<ls.length):XB sz (pv (ls.map (·.1)) k) (ls.drop k)=if(ls[k]'h).1<0\/(sz.length:Int)<=(ls[k]'h).1 then 2 else if z8 (pv (ls.map (·.1)) k) (ls[k]'h).1=true then 5 else if(ls[k]'h).2<0\/O6 sz (ls[k]'h).1.toNat<=(ls[k]'h).2 then 2 else XB sz (pv (ls.map (·.1)) (k+1)) (ls.drop (k+1)):=by
 rw[QY h,Kw (ou h),MK];rfl
theorem UH {sz:LI}{ls:xw}{nm:ByteArray}(hS:Qu [] ↑w vs sz)(hl:P2s [] ↑w vl ls):
  QR sV 177 [.agg #[vs,vx,vk],.agg #[.string nm,vl]] w λr w'=>r=sS (JS sz ls)/\sW w w':=by
 have hH:=hl.le;refine Zm func177 ?_;refine Qc<|Za [vs,vx,vk] λb2 w1 h0 hI V=>Za [.string nm,vl] λb3 w2 hr hJ Y=>Qb ?_;have G:=h0.D hr
 replace V:=V.I hr;refine Qd<|Qc<|Qq O Y O O<|QG (hl.I G) O<|x (Zd O O)<|xe<|Zi rfl (λha=>?_) (λha=>?_)
 ·refine Qc<|Qb<|Qh ⟨[_],La,by unfold JS;rw[OU (by have h1:(ls.length:Int)=0:=ha;omega)];rfl,G⟩
 have h2:ls.length≠0:=by have h1:¬(ls.length:Int)=0:=ha;omega
 have h3:JS sz ls=XB sz none ls:=by unfold JS;rw[OT h2]
 rw[h3];refine Qf<|Qd<|Qc<|Qq O Y O O<|QG (hl.I G) O<|Qa<|xe<|QW (α:=Nat) [(4,6),(14,61)] (λz=>[(14,sS z)]) (λz w'=>z<=ls.length/\sW w2 w'/\XB sz (pv (ls.map (·.1)) z) (ls.drop z)=XB sz none ls) (λz=>ls.length - z) 0 La
  ⟨Lo _,O5.Y _ _,O⟩ ?_
 rintro k g w3 ⟨hk,S,hck⟩;have hf:=G.D S;have hs:=V.I S;have ht:=hl.I hf;have hu:=hS.I hf;refine Zk rfl O (λhg=>?_) (λhg=>?_)
 ·refine Qt ?_;have h4:ls.length<=k:=by have h5:¬(k:Int)<(ls.length:Int):=hg;omega
  rw[Lr h4]at hck;refine Qc<|Qb<|Qh ⟨[_],La,by rw[<-hck];rfl,hf⟩
 have T:k<ls.length:=by have h5:(k:Int)<(ls.length:Int):=hg;omega
 rw[Qej T]at hck;refine Qf<|Qd<|Qn<|Qk<|O8 Xc ht O O T λhK hv=>?_;refine Zg (ls[k]'T) λe he=>?_;rw[he]at hv hck;refine x (QA hv O O)<|QN [sS 0,sS 0] λb6 w4 h6 h7 J=>x Qe<|Q2 (Q5 e) J ov λw5 h8 J=>xe ?_;have I:sW w3 w5:=h6.Q h8 h7;have hw:=S.D I;refine Qn<|QX (α:=Bool) [(19,30)] (λz=>[(19,.bool z)]) (λz w'=>w'=w5/\z=decide (e.1<0\/(sz.length:Int)<=e.1)) oh ?_ ?_
 ·refine Qs<|Qq O J O O<|xb (YC O O) (λh9=>?_) (λh9=>?_)
  ·refine Qa<|Zq<|Zq<|QB O<|Qb<|⟨_,La,O,by first|exact bT oa|exact bF oa|exact bD oa⟩
  refine Qa<|Qq O J O O<|Qq O (hs.I I) O O<|QG (hu.I I) O<|x (Yl O O) <|
   QB rfl<|Qb<|⟨_,La,O,by first|exact bT oa|exact bF oa|exact bD oa⟩
 rintro z g w6 ⟨rfl,rfl⟩;refine Zi rfl (λhh=>?_) (λhh=>?_)
 ·rw[OU hh]at hck;refine Qc<|Qb<|Qh ⟨[_],La,by rw[<-hck];rfl,G.D hw⟩
 rw[OT hh]at hck;have hA:e.1=((e.1.toNat:Nat):Int):=oa
 have hB:e.1.toNat<sz.length:=oa
 refine QX (α:=Bool) [(31,45)] (λz=>[(31,.bool z)]) (λz w'=>sW w6 w'/\z=z8 (pv (ls.map (·.1)) k) e.1) oh ?_ ?_
 ·refine ZL [] (Xg 0 15 [])<|p Qx<|pb (λ_=>Ya O O) (λhj=>?_) (λhj=>?_)
  ·have hm:k≠0:=by have hC:(0:Int)<(k:Int):=hj;omega
   have hk1:((k:Int) - 1)=((k - 1:Nat):Int):=oa
   have hn:k - 1<ls.length:=oa
   refine p Qx<|p (QH O)<|pq (λ_ E=>Ql (J.I E) O O)<|p (QH O)<|pq (λ_ E=>Ql (((Y.I S).I I).I E) O O) <|
    p Qx<|p (λ_=>Jq O O ⟨oa,oa⟩)<|Lg.pig (g:=Q5) (i:=k - 1) O Xc (ht.I I) O (OV sS hk1) hn λhL hD=>p (λ_=>ZI O) <|
    pq (λ_ E=>Qr ((hD.fld 0 _ O).I E) O)<|p (λ_=>X6 O O)<|p (Ys O)<|p ZN<|pe ?_
   refine⟨_,La,O5.X _ _,?_⟩;have:pv (ls.map (·.1)) k=some (ls[k - 1]'hn).1:=by simp[pv,hm,hn]
   rw[this];rfl
  have hm:k=0:=by have hC:¬(0:Int)<(k:Int):=hj;omega
  refine p Qx<|ps<|ps<|ps<|ps<|ps<|ps<|ps<|ps<|ps<|ps<|p (Ys O)<|p ZN<|pe ?_;exact⟨false,La,O5.X _ _,by simp[pv,hm,z8]⟩
 rintro z g w7 ⟨U,rfl⟩;have hy:=hw.D U;refine Q6 rfl (λho=>?_) (λho=>?_)
 ·rw[OU ho]at hck;refine Qc<|Qb<|Qh ⟨[_],La,by rw[<-hck];rfl,G.D hy⟩
 rw[OT (by simp[ho])]at hck;have hp:=J.I U;refine QX (α:=Bool) [(46,60)] (λz=>[(46,.bool z)]) (λz w'=>sW w7 w'/\z=decide (e.2<0\/O6 sz e.1.toNat<=e.2)) oh ?_ ?_
 ·refine ZL [] (Xg 0 15 [])<|p (QH O)<|pq (λ_ E=>Ql (hp.I E) O O)<|pb (λ_=>YC O O) (λhE=>?_) (λhE=>?_)
  ·refine p Qx<|ps<|ps<|ps<|ps<|ps<|ps<|ps<|ps<|ps<|p (Ys O)<|p ZN<|pe ?_;exact⟨_,La,O5.X _ _,by first|exact bT oa|exact bF oa|exact bD oa⟩
  refine p Qx<|p (QH O)<|pq (λ_ E=>Ql (hp.I E) O O)<|p (QH O)<|pq (λ_ E=>Ql (((hs.I I).I U).I E) O O) <|
   p (QH rfl)<|pq (λ_ E=>Ql (hp.I E) O O)<|pic (i:=e.1.toNat) O ((hu.I I).I U) O (OV sS hA) hB λhM hF=>pq (λ_ E=>Qr (hF.I E) O) <|
   p (λ_=>Yl O O)<|p (Ys O)<|p ZN<|pe ?_
  exact⟨_,La,O5.X _ _,by first|exact bT oa|exact bF oa|exact bD oa⟩
 rintro z g w8 ⟨hG,rfl⟩;have hz:=hy.D hG;refine Zi rfl (λhq=>?_) (λhq=>?_)
 ·rw[OU hq]at hck;refine Qc<|Qb<|Qh ⟨[_],La,by rw[<-hck];rfl,G.D hz⟩
 rw[OT hq]at hck;refine Qf<|Qs<|QD O O<|Qa<|xe ?_;exact⟨k+1,oa,La,T,hz,hck⟩
theorem Qei {sz:LI}{ls:xw}{k:Nat}(h:k<ls.length):JR sz (pv (ls.map (·.1)) k) (ls.drop k)=if(ls[k]'h).1<0\/(sz.length:Int)<=(ls[k]'h).1 then 2 else if z8 (pv (ls.map (·.1)) k) (ls[k]'h).1=true then 5 else if(ls[k]'h).2=0\/grt (ls[k]'h).2=true then 2 else JR sz (pv (ls.map (·.1)) (k+1)) (ls.drop (k+1)):=by
 rw[QY h,Kw (ou h),MK];rfl
theorem VX {sz:LI}{ls:xw}{nm:ByteArray}{bd:Int}(hS:Qu [] ↑w vs sz)(hl:P2s [] ↑w vl ls):
  QR sV 179 [.agg #[vs,vx,vk],.agg #[.string nm,vl,sS bd]] w λr w'=>r=sS (XC sz ⟨nm,ls,bd⟩)/\sW w w':=by
 have hG:=hl.le;refine Zm func179 ?_;refine Qc<|Za [vs,vx,vk] λb2 w1 h2 hH V=>Za [.string nm,vl,sS bd] λb3 w2 hs hI Y=>Qb ?_;have E:=h2.D hs
 replace V:=V.I hs;refine Qd<|Qc<|Qq O Y O O<|QG (hl.I E) O<|x (Zd O O)<|xe<|Zi rfl (λha=>?_) (λha=>?_)
 ·refine Qc<|Qb<|Qh ⟨[_],La,by unfold XC;rw[OU (by have h3:(ls.length:Int)=0:=ha;show ls.length=0;omega)];rfl,E⟩
 have h4:ls.length≠0:=by have h3:¬(ls.length:Int)=0:=ha;omega
 have h5:XC sz ⟨nm,ls,bd⟩=if JR sz none ls≠0 then JR sz none ls else if grt bd=true then 2 else 0:=by unfold XC;rw[OT h4]
 rw[h5];refine Qf<|Qd<|Qc<|Qq O Y O O<|QG (hl.I E) O<|Qa<|xe<|QW (α:=Nat) [(4,6),(14,55)] (λz=>[(14,sS z)]) (λz w'=>z<=ls.length/\sW w2 w'/\JR sz (pv (ls.map (·.1)) z) (ls.drop z)=JR sz none ls) (λz=>ls.length - z) 0 La
  ⟨Lo _,O5.Y _ _,O⟩ ?_
 rintro k g w3 ⟨hk,S,hck⟩;have T:=E.D S;have ht:=Y.I S;have hu:=hl.I T;refine Zk rfl O (λhf=>?_) (λhf=>?_)
 ·refine Qt ?_;have h6:ls.length<=k:=by have h7:¬(k:Int)<(ls.length:Int):=hf;omega
  rw[Lr h6]at hck;have h8:JR sz none ls=0:=hck.symm;rw[h8,OT (λh=>h rfl)];refine Qd<|Qc<|Qq O ht O O<|Qv<|(Qcr bd _).S ?_;rintro r4 w4 ⟨rfl,rfl⟩;refine xe<|Q6 O (λhh=>?_) (λhh=>?_)
  ·rw[OU hh];refine Qc<|Qb<|Qh ⟨[_],La,O,T⟩
  rw[OT (by simp[hh])];refine Qf<|Qc<|Qb<|Qh ⟨[_],La,O,T⟩
 have U:k<ls.length:=by have h7:(k:Int)<(ls.length:Int):=hf;omega
 rw[Qei U]at hck;refine Qf<|Qd<|Qn<|Qk<|O8 Xc hu O O U λhJ hv=>?_;refine Zg (ls[k]'U) λe he=>?_;rw[he]at hv hck;refine x (QA hv O O)<|QN [sS 0,sS 0] λb6 w4 h9 hA G=>x Qe<|Q2 (Q5 e) G ov λw5 hB G=>xe ?_;have I:sW w3 w5:=h9.Q hB hA;have hw:=S.D I;refine Qn<|QX (α:=Bool) [(19,30)] (λz=>[(19,.bool z)]) (λz w'=>w'=w5/\z=decide (e.1<0\/(sz.length:Int)<=e.1)) oh ?_ ?_
 ·refine Qs<|Qq O G O O<|xb (YC O O) (λhC=>?_) (λhC=>?_)
  ·refine Qa<|Zq<|Zq<|QB O<|Qb<|⟨_,La,O,by first|exact bT oa|exact bF oa|exact bD oa⟩
  refine Qa<|Qq O G O O<|Qq O ((V.I S).I I) O O<|QG ((hS.I T).I I) O<|x (Yl O O) <|
   QB rfl<|Qb<|⟨_,La,O,by first|exact bT oa|exact bF oa|exact bD oa⟩
 rintro z g w6 ⟨rfl,rfl⟩;refine Zi rfl (λhj=>?_) (λhj=>?_)
 ·rw[OU hj]at hck;refine Qc<|Qb<|Qh ⟨[_],La,by rw[<-hck,OU og];rfl,E.D hw⟩
 rw[OT hj]at hck;refine QX (α:=Bool) [(31,45)] (λz=>[(31,.bool z)]) (λz w'=>sW w6 w'/\z=z8 (pv (ls.map (·.1)) k) e.1) oh ?_ ?_
 ·refine ZL [] (Xg 0 15 [])<|p Qx<|pb (λ_=>Ya O O) (λhm=>?_) (λhm=>?_)
  ·have hn:k≠0:=by have hD:(0:Int)<(k:Int):=hm;omega
   have hk1:((k:Int) - 1)=((k - 1:Nat):Int):=oa
   have ho:k - 1<ls.length:=oa
   refine p Qx<|p (QH O)<|pq (λ_ J=>Ql (G.I J) O O)<|p (QH O)<|pq (λ_ J=>Ql ((ht.I I).I J) O O) <|
    p Qx<|p (λ_=>Jq O O ⟨oa,oa⟩)<|Lg.pig (g:=Q5) (i:=k - 1) O Xc (hu.I I) O (OV sS hk1) ho λhK hE=>p (λ_=>ZI O) <|
    pq (λ_ J=>Qr ((hE.fld 0 _ O).I J) O)<|p (λ_=>X6 O O)<|p (Ys O)<|p ZN<|pe ?_
   refine⟨_,La,O5.X _ _,?_⟩;have:pv (ls.map (·.1)) k=some (ls[k - 1]'ho).1:=by simp[pv,hn,ho]
   rw[this];rfl
  have hn:k=0:=by have hD:¬(0:Int)<(k:Int):=hm;omega
  refine p Qx<|ps<|ps<|ps<|ps<|ps<|ps<|ps<|ps<|ps<|ps<|p (Ys O)<|p ZN<|pe ?_;exact⟨false,La,O5.X _ _,by simp[pv,hn,z8]⟩
 rintro z g w7 ⟨hy,rfl⟩;have hz:=hw.D hy;refine Q6 rfl (λhp=>?_) (λhp=>?_)
 ·rw[OU hp]at hck;refine Qc<|Qb<|Qh ⟨[_],La,by rw[<-hck,OU og];rfl,E.D hz⟩
 rw[OT (by simp[hp])]at hck;have h0:=G.I hy;refine QX (α:=Bool) [(46,54)] (λz=>[(46,.bool z)]) (λz w'=>sW w7 w'/\z=decide (e.2=0\/grt e.2=true)) oh ?_ ?_
 ·refine Qs<|Qq O h0 O O<|xb (Zd O O) (λhq=>?_) (λhq=>?_)
  ·refine Qa<|Zq<|QB O<|Qb<|⟨_,La,O5.Y _ _,bT (.inl hq)⟩
  refine Qa<|Qq O h0 O O<|Qv<|(Qcr e.2 _).S ?_;rintro r9 w9 ⟨rfl,rfl⟩;refine QB O<|Qb<|⟨grt e.2,La,O5.Y _ _,?_⟩;cases hg:grt e.2 with
  | true=>exact bT (.inr O)
  | false=>exact bF (λh=>by rcases h with h|h;exact hq h;cases h)
 rintro z g w8 ⟨hF,rfl⟩;have h1:=hz.D hF;refine Zi rfl (λhr=>?_) (λhr=>?_)
 ·rw[OU hr]at hck;refine Qc<|Qb<|Qh ⟨[_],La,by rw[<-hck,OU og];rfl,E.D h1⟩
 rw[OT hr]at hck;refine Qf<|Qs<|QD O O<|Qa<|xe ?_;exact⟨k+1,oa,La,U,h1,hck⟩
open Go.RowKit
def Qdp:Fr->LN->LV->Fr
 | f,p::ps,v::vs=>Qdp (upd f p v) ps vs
 | f,_,_=>f
theorem UZ {n:Nat}{ds:LN}:∀(ps:LN) (vs:LV) (a:Act) (f:Fr),Xf n ds a f->(∀p∈ps,p<n) ->
  Xf n ds { tmps:=(ps.zip vs).foldl (λt (x:Nat×O2)=>t.setIfInBounds x.1 x.2) a.tmps,defers:=a.defers } (Qdp f ps vs)
 | [],_,a,f,h,_=>by cases h;exact⟨by assumption,by assumption,by assumption⟩
 | p::ps,[],a,f,h,_=>by cases h;exact⟨by assumption,by assumption,by assumption⟩
 | p::ps,v::vs,a,f,h,E=>by
  exact UZ ps vs _ _ (h.put (dst:=some p) (λd e=>by cases e;exact E p Lm) v) (λq G=>E q (Lk _ G))
def rdE {α:Type}(B:Nat)(L:LN)(I:List α->O1->Prop)(X:Exit->List α->O1->Prop)(xs:List α)(W:O1):Exit->LN->Fr->O1->Prop
 | .normal,_,_,W'=>XX B L W W'/\I xs W'
 | .ret,_,_,W'=>XX B L W W'/\X .ret xs W'
 | .exit i,_,_,W'=>XX B L W W'/\X (.exit i) xs W'
 | _,_,_,_=>False
theorem QkU {Q:Exit->LN->Fr->O1->Prop}{g:O3}{ps:LN}{assign body:Code}(L:LN)(Y:1<=m)
    [hF:Fu P gf fn]  (hg:ev f g=.func (.func gf) #[] capt.toArray) {encs:α->LV} {S Sp:List α->Prop}  (hp:∀p∈ps,p<n) (hm:∀x,(encs x).length=ps.length)
  (hn:SeqStopsK (fen none) (m - 1) P gf capt.toArray (λx=>(encs x).toArray) (Lw ↑w L) S Sp N w)
  (I:List α->O1->Prop) (hI:∀s,Ye ↑w (I s)) (X:Exit->List α->O1->Prop) (hX:∀e s,Ye ↑w (X e s)) (h0:I [] w) (A:Fr->α->Fr->O1->Prop) (hA:∀x E,Ye ↑w (A f x E))
  (he:∀l pre x W,I pre W->WG (some l) (m - 1 - 1) P n assign (Qds (λhc E W'=>hc=[]/\XX ↑w L W W'/\I pre W'/\A f x E W') (λ_ _ _ _=>False)) [] (Qdp f ps (encs x)) W)
  (hf:∀l pre x E W,I pre W->A f x E W->pre.length<N->WG (some l) (m - 1 - 1) P n body (rdE ↑w L I X (pre++[x]) W) [] E W)
  (hq:∀D xs W,↑w<=D->S xs->I xs W->W.heap[D]?=some (.deferred (some []))->Q .normal (D::ds) f W)
  (hh:∀D e pre W,↑w<=D->Sp pre->X e pre W->W.heap[D]?=some (.deferred (some []))->(e=.ret\/∃i,e=.exit i)->Q e (D::ds) f W):
  WG none m P n (.rangeFunc g ps.toArray assign body) Q ds f w:=by
 unfold WG at he hf ⊢;intro a T;have eg:∀args w,(callFunc gf args).run P w=.ok (.enter gf args) w:=by
  intro args w;have Y:¬fn.name = "runtime.NumGoroutine" := by simpa using hF.nm
  have U:¬fn.body=none:=by have:=hF.b;intro e;rw[e]at this;cases this
  simp[callFunc,hF.f,Y,U]
 have keep:∀{W W':O1},XX ↑w L W W'->KeepsFrom ↑w W W':=λh=>⟨h.lw.size,λk o _ hk ho=>h.other k o hk ho⟩;refine wpIn_rangeFunc_ownH (F:=fen none) O Y (gf:=gf) (lb:=capt.toArray) (by rw[T.eval];exact hg) Z eg hn (λh k=>h.D k)
  (λW l o o' hl ho _ _=>⟨O,O,O,od,λk hk _=>World.putObj_heap_other oa⟩) (Below.refl _ _) (λx=>by simp[hm x]) I
  (λc pre W=>match c with| .ret=>X .ret pre W| .exit i=>X (.exit i) pre W|_=>False) (Ye.own hI) (λc=>Ye.own λs=>?_) h0
  (λx V W=>∃E,Xf n [] V E/\A f x E W) (λx V=>Ye.own λ_=>Ye.ex λE=>Ye.and (Ye.pure _) (hA x E)) ?_ ?_ ?_ ?_
 ·cases c <;> first|exact hX _ s|exact Ye.pure _
 ·intro l pre x W K hi hK;have hr:Xf n [] { tmps:=(ps.toArray.zip (encs x).toArray).foldl (λt (p,v)=>t.setIfInBounds p v) a.tmps,defers:=[] } (Qdp f ps (encs x)):=by
   have U:Xf n [] { a with defers:=[] } f:=⟨T.size,O,T.get⟩
   have J:=UZ ps (encs x) _ _ U hp;have e:(ps.toArray.zip (encs x).toArray).foldl (λt (p,v)=>t.setIfInBounds p v) a.tmps=(ps.zip (encs x)).foldl (λt (x:Nat×O2)=>t.setIfInBounds x.1 x.2) a.tmps:=od
   rw[e];exact J
  refine wpIn_mono (he l pre x W hi _ hr) ?_;rintro e V W' ⟨hc,E,U,_,J⟩;cases e with
  | normal=>obtain⟨rfl,h4,G,h6⟩:=J;exact hK V W' (keep h4) h4.lw G ⟨E,U,h6⟩
  | exit id=>exact J.elim
  | goto l=>exact J.elim
  | ret=>exact J.elim
  | panic ch=>exact J.elim
  | outgrown=>exact J.elim
 ·rintro l pre x V W _ _ hi ⟨E,U,J⟩ hs;refine wpIn_mono (hf l pre x E W hi J hs V U) ?_;rintro e ht W' ⟨hc,hu,h4,_,G⟩;cases e with
  | normal=>exact⟨keep G.1,G.1.lw,G.2⟩
  | exit id=>exact⟨keep G.1,G.2⟩
  | goto l=>exact G.elim
  | ret=>exact⟨keep G.1,G.2⟩
  | panic ch=>exact G.elim
  | outgrown=>exact G.elim
 ·intro D xs W hD hS hi hd;exact⟨D::ds,f,⟨T.size,by rw[show coll (D::ds)={ target:=.collected D,args:=#[] }::coll ds from rfl,T.defers],T.get⟩,λ_ _=>rfl,hq D xs W hD hS hi hd⟩
 intro D c pre W hD hS hx hd;have hj:Xf n (D::ds) { a with defers:={ target:=.collected D,args:=#[] }::a.defers } f:=⟨T.size,by rw[show coll (D::ds)={ target:=.collected D,args:=#[] }::coll ds from rfl,T.defers],T.get⟩
 cases c with
 | ret=>exact wpIn_ret ⟨_,f,hj,λ_ _=>O,hh D .ret pre W hD hS hx hd (.inl O)⟩
 | exit i=>exact wpIn_exit ⟨_,f,hj,λ_ _=>O,hh D (.exit i) pre W hD hS hx hd (.inr ⟨i,O⟩)⟩
 | _=>exact hx.elim
theorem QjH {α:Type}(g:α->LV)(sz:Nat)(E:∀x,(g x).length=sz):∀(l:List α) (k:Nat),(l.flatMap g).take (k*sz)=(l.take k).flatMap g
 | [],k=>od
 | e::l,0=>od
 | e::l,k+1=>by
  simp only[oT,List.take_succ_cons,Ou,OL];rw[MV,NC,E,show sz+k*sz - sz=k*sz by omega,QjH g sz E l k,Lq (by rw[E];omega)]
theorem Qfj [Fu sV gf fn]{nms:List ByteArray}{s:ByteArray}(ho:yY s)
  (hp:∀(w':O1) (L:LN),sW w w'->(∀b∈L,↑w<=b)->SeqStopsK (fen none) 9 sV gf capt.toArray (λx:{ x:ByteArray // x∈nms }=>[Value.string x.1].toArray) (Lw ↑w' L) (λys=>ys.map (·.1)=nms) (λ_=>True) N w'):
  QR sV 176 [.string s,.func (.func gf) #[] capt.toArray] w λr w'=>r=sS (Vf nms s)/\sW w w':=by
 refine QR.of_G 10 func176 O ntmps176 results176 od ?_;refine QS<|Qy oh oh<|Za [.string s] λb2 w1 hq hu hh=>QN [sS 0] λJ w2 hj hv hf=>xe ?_;have Y:=hq.D hj;have hw:=hf.lt;have hk:=hh.I hj;have hz:=hh.lt;refine QS<|QS<|Qy oh oh<|ZE hk O O<|KS<|(qy s ho _).S ?_;rintro r3 w3 ⟨rfl,rfl⟩;refine x (Zl O)<|xe<|KH rfl (λh8=>?_) (λh8=>?_)
 ·have hn:Xl s=false:=by simpa using h8
  have hr:Vf nms s=7:=by unfold Vf;rw[OU hn]
  refine QS<|Qy oh oh<|Qo<|Qw (j:=0) (u:=sS 7) hf O O og O λw4 U ha=>xe ?_;refine JW ⟨λ_ h=>(by cases h),Ms,[sS 7],λW' S=>⟨⟨⟨_,rfl,Xj (At.one ((ha.I S).at (L:=[]) od))⟩,Z⟩,by rw[hr];rfl,(Y.Q U oa).D S⟩⟩
 have hn:¬Xl s=false:=by simpa using h8
 refine Yb<|QS<|QS<|Qy oh oh<|Qa<|xe<|ZO<|QkU (α:={ x:ByteArray // x∈nms }) (ps:=[10]) [J] oa (capt:=capt) O (encs:=λx=>[.string x.1]) od (λ_=>rfl)
  (hp w3 [J] Y (λb hb=>by simp at hb;omega))
  (λpre W=>O5 [J] w3 W/\QL ↑W b2 9 [.string s]/\QL ↑W J 55 [sS 0]/\∀x∈pre,x.1≠s)
  (λpre=>(Ye.J (Lp _)).and (Ye.blk.and (Ye.blk.and (Ye.pure _))))
  (λe pre W=>e=.ret/\O5 [J] w3 W/\QL ↑W J 55 [sS 8]/\s∈nms)
  (λe pre=>(Ye.pure _).and ((Ye.J (Lp _)).and (Ye.blk.and (Ye.pure _))))
  ⟨O5.Y _ _,hk,hf,λx hx=>by cases hx⟩
  (λf x f' W=>f'=upd (Qdp f [10] [.string x.1]) 5 (.string x.1)) (λx f'=>Ye.pure _) ?_ ?_ ?_ ?_
 ·rintro l pre x W ⟨G,h2,I,V⟩;refine Qy oh oh<|Lg.Qb<|⟨O,XX.refl _ _ _,⟨G,h2,I,V⟩,O⟩
 ·rintro l pre x f' W ⟨G,h2,I,V⟩ rfl _;refine ZO<|QS<|Qy oh oh<|Lg.Qa<|Lg.x (Ql h2 O O)<|Lg.x (Ja O O)<|xe<|Qnu O (λhg=>?_) (λhg=>?_)
  ·refine QS<|Qy oh oh<|Qo<|Qw (j:=0) (u:=sS 8) I O O og O λw4 U ha=>xe ?_;refine JW ?_;exact⟨XX.blk U G.size I (.inl od),rfl,G.V U,ha,by rw[<-hg];exact x.2⟩
  refine Yb<|⟨XX.refl _ _ _,G,h2,I,λy T=>?_⟩;rcases Lh.1 T with T|T
  ·exact V y T
  simp only[oF]at T;subst T;exact hg
 ·rintro D xs W hD hs ⟨G,h2,I,V⟩ hc;have hr:Vf nms s=0:=by
   unfold Vf;rw[OT hn,OT];intro hm;rw[<-hs]at hm;obtain⟨y,T,e⟩:=Ly.1 hm;exact V y T e
  refine QS<|Qy oh oh<|Qo<|Qw (j:=0) (u:=sS 0) I O O og O λw4 U ha=>xe ?_;have he:D≠J:=oa
  have ht:w4.heap[D]?=some (.deferred (some [])):=by rw[U.block D (LH.1 hc).1 (ou he)];exact hc
  refine JW ⟨λE hE=>by simp only[oF]at hE;subst hE;exact ht,od,[sS 0],λW' S=>?_⟩;refine⟨⟨⟨_,O,Xj (At.one ((ha.J S (ou he.symm)).at (L:=[]) od))⟩,Z⟩,by rw[hr];rfl,?_⟩;exact((Y.O G (λb hb=>.inr (by simp at hb;omega))).Q U oa).O S (λb hb=>.inr (by simp at hb;have:=Y.size;omega))
 rintro D e pre W hD _ ⟨rfl,G,I,V⟩ hc _;have hr:Vf nms s=8:=by unfold Vf;rw[OT hn,OU V]
 have he:D≠J:=oa
 refine⟨λE hE=>by simp only[oF]at hE;subst hE;exact hc,od,[sS 8],λW' S=>?_⟩;refine⟨⟨⟨_,O,Xj (At.one ((I.J S (ou he.symm)).at (L:=[]) od))⟩,Z⟩,by rw[hr];rfl,?_⟩;exact(Y.O G (λb hb=>.inr (by simp at hb;omega))).O S (λb hb=>.inr (by simp at hb;have:=Y.size;omega))
theorem Jm.pre3 {o1 o2 o3:Oper}{l2:xD}(h:XL P ops (λf w=>Jm P m ops K l2 f w) [o1,o2,o3] f w):Jm P m ops K (o1::o2::o3::l2) f w:=Jm.pre [o1,o2,o3] f w h
theorem QjU {I S:Nat}{qs:List XV}{nms:List ByteArray}(ht:QL ↑w I 163 [vs,vx,vk])(hu:QL ↑w S 3 [sS i])(hX:jg L ↑w vx qs)(hi:i<=qs.length)(hn:nms=(qs.take i).map (·.nm)):
  SeqStopsK (fen none) m sV 175 #[sP I,sP S] (λx:{ x:ByteArray // x∈nms }=>[Value.string x.1].toArray) (Lw ↑w L)
   (λys=>ys.map (·.1)=nms) (λ_=>True) (nms.length+1) w:=by
 intro l J Jx W hv hJ hw hY h0;have hf:sW w W:=O5.of_below hv;have ab:∀{ys:List { x:ByteArray // x∈nms }} {W1 W2:O1},J ys W1->sW W1 W2->J ys W2:=λ{ys W1 W2} hj T=>hJ ys W1 W2 none hj ⟨T.os,T.tape,T.output,T.size,λk U _=>T.block k U od⟩ (λr e=>by cases e);have h9:=hX.arr.le;have hA:nms.length=i:=by rw[hn];simp;omega
 have key:QR sV 175 [.func (.yield l) #[] #[],sP I,sP S] W (λ_ W'=>(∃ys,ys.map (·.1)=nms/\J ys W')\/(∃pre,True/\Jx pre W')):=by
  refine QR.of_G m func175 O ntmps175 results175 od ?_;refine QS<|Qy oh oh<|Qq O (ht.I hf) O O<|ZE (hu.I hf) O O<|QnY hX.arr O O hi λv9 ho=>QG ho O<|Qa<|xe ?_;have hy:(qs.take i).length=i:=by simp;omega
  have hS:Zt L ↑w v9 (qs.take i).length 2 ((qs.take i).flatMap Zw):=by
   rw[hy,<-QjH Zw 2 VF];exact ho
  refine ZO<|KG (α:=Nat×List { x:ByteArray // x∈nms }) [(5,5),(11,20)] (λz=>[(11,sS z.1)]) (λz ds W'=>ds=[]/\z.1<=i/\O5 L w W'/\z.2.map (·.1)=nms.take z.1/\J z.2 W') (λz=>i - z.1) oh (0,[]) La
   ⟨O,Lo _,hf.any,O,h0⟩ ?_
  rintro⟨k,ys⟩ g ds w1 ⟨rfl,U,hp,V,hg⟩;simp only[]at U V hg;refine QS<|Qy oh oh<|ZX O O<|xe<|QS<|UO O (λhr=>?_) (λhr=>?_)
  ·refine JD ?_;rw[Lq oa]at V;exact⟨λ_ h=>(by cases h),Ms,[],λW' E=>⟨Z,.inl ⟨ys,V,ab hg E⟩⟩⟩
  refine Yb ?_;have hz:k<i:=by have hh:(k:Int)<(i:Int):=hr;omega
  have ha:k<(qs.take i).length:=oa
  have hc:k<nms.length:=oa
  have hm:nms.take (k+1)=nms.take k++[nms[k]'hc]:=Lj hc;have hB:ys.length=k:=by have:=OV oU V;rw[Ll,LC]at this;omega
  have h2:nms[k]'hc=((qs.take i)[k]'ha).nm:=by subst hn;simp
  have Y:=Le hc;rw[h2]at hm Y;refine QS<|ZO<|QS<|Qy oh oh<|O8 VF (i:=k) (hS.st hp) O O ha λhC hh=>?_;refine Zg ((qs.take i)[k]'ha) λq hq=>?_;rw[hq]at hh hm Y;refine x (QA hh O O)<|QN [.string .empty,nS] λb5 w2 h3 h4 h5=>Q2 (Zw q) h5 ⟨O,((hX.each q (L3 (by rw[<-hq];exact Le ha))).one),Z⟩ λw3 h6 h7=>xe ?_;have hs:sW w1 w3:=h3.Q h6 h4;refine QS<|Kr oh ?_;refine Jm.pre3 ?_;refine Qa<|Qq O h7 O O<|xe<|xy (l:=l) O (hY ys ⟨q.nm,Y⟩ w3 (ab hg hs) oa) λen W3 h8=>Or.elim h8 (λG=>⟨.bool true,G.1,?_⟩) (λG=>⟨.bool false,G.1,?_⟩)
  ·refine Jm.of_XL<|x (Zl O)<|xe<|JX O<|Yb ?_;refine Qy oh oh<|QD O O<|Qa<|xe ?_;exact⟨(k+1,ys++[⟨q.nm,Y⟩]),oe,La,O,hz,(hp.D hs).lw G.2.2,by rw[hm,Lv,V];rfl,G.2.1⟩
  refine Jm.of_XL<|x (Zl O)<|xe<|yT O ?_;refine JW ⟨λ_ h=>(by cases h),Ms,[],λW' E=>⟨Z,.inr ⟨ys++[⟨q.nm,Y⟩],Z,?_⟩⟩⟩;exact hw _ W3 W' none G.2 ⟨E.os,E.tape,E.output,E.size,λk U _=>E.block k U od⟩ (λr e=>by cases e)
 refine(callsIn_wide (n:=m)).2 ?_;have ea:(#[.func (.yield l) #[] #[]]++[sP I,sP S].toArray:Array O2)=#[.func (.yield l) #[] #[],sP I,sP S]:=od
 rw[ea];unfold QR at key;refine Calls.mono key λe w' he=>?_;cases e with
 | returned v=>exact⟨⟨v,O⟩,he⟩
 | panicked c=>exact he.elim
 | outgrown=>exact he.elim
theorem Qkg {I S:Nat}{qs:List KV}{nms:List ByteArray}(ht:QL ↑w I 163 [vs,vx,vk])(hu:QL ↑w S 3 [sS i])(hX:yS L ↑w vk qs)(hi:i<=qs.length)(hn:nms=(qs.take i).map (·.nm)):
  SeqStopsK (fen none) m sV 178 #[sP I,sP S] (λx:{ x:ByteArray // x∈nms }=>[Value.string x.1].toArray) (Lw ↑w L)
   (λys=>ys.map (·.1)=nms) (λ_=>True) (nms.length+1) w:=by
 intro l J Jx W hv hJ hw hY h0;have hf:sW w W:=O5.of_below hv;have ab:∀{ys:List { x:ByteArray // x∈nms }} {W1 W2:O1},J ys W1->sW W1 W2->J ys W2:=λ{ys W1 W2} hj T=>hJ ys W1 W2 none hj ⟨T.os,T.tape,T.output,T.size,λk U _=>T.block k U od⟩ (λr e=>by cases e);have h9:=hX.arr.le;have hA:nms.length=i:=by rw[hn];simp;omega
 have key:QR sV 178 [.func (.yield l) #[] #[],sP I,sP S] W (λ_ W'=>(∃ys,ys.map (·.1)=nms/\J ys W')\/(∃pre,True/\Jx pre W')):=by
  refine QR.of_G m func178 O ntmps178 results178 od ?_;refine QS<|Qy oh oh<|Qq O (ht.I hf) O O<|ZE (hu.I hf) O O<|QnY hX.arr O O hi λv9 ho=>QG ho O<|Qa<|xe ?_;have hy:(qs.take i).length=i:=by simp;omega
  have hS:Zt L ↑w v9 (qs.take i).length 3 ((qs.take i).flatMap Zz):=by
   rw[hy,<-QjH Zz 3 VR];exact ho
  refine ZO<|KG (α:=Nat×List { x:ByteArray // x∈nms }) [(5,5),(11,20)] (λz=>[(11,sS z.1)]) (λz ds W'=>ds=[]/\z.1<=i/\O5 L w W'/\z.2.map (·.1)=nms.take z.1/\J z.2 W') (λz=>i - z.1) oh (0,[]) La
   ⟨O,Lo _,hf.any,O,h0⟩ ?_
  rintro⟨k,ys⟩ g ds w1 ⟨rfl,U,hp,V,hg⟩;simp only[]at U V hg;refine QS<|Qy oh oh<|ZX O O<|xe<|QS<|UO O (λhr=>?_) (λhr=>?_)
  ·refine JD ?_;rw[Lq oa]at V;exact⟨λ_ h=>(by cases h),Ms,[],λW' E=>⟨Z,.inl ⟨ys,V,ab hg E⟩⟩⟩
  refine Yb ?_;have hz:k<i:=by have hh:(k:Int)<(i:Int):=hr;omega
  have ha:k<(qs.take i).length:=oa
  have hc:k<nms.length:=oa
  have hm:nms.take (k+1)=nms.take k++[nms[k]'hc]:=Lj hc;have hB:ys.length=k:=by have:=OV oU V;rw[Ll,LC]at this;omega
  have h2:nms[k]'hc=((qs.take i)[k]'ha).nm:=by subst hn;simp
  have Y:=Le hc;rw[h2]at hm Y;refine QS<|ZO<|QS<|Qy oh oh<|O8 VR (i:=k) (hS.st hp) O O ha λhC hh=>?_;refine Zg ((qs.take i)[k]'ha) λq hq=>?_;rw[hq]at hh hm Y;refine x (QA hh O O)<|QN [.string .empty,nS,sS 0] λb5 w2 h3 h4 h5=>Q2 (Zz q) h5 ⟨O,((hX.each q (L3 (by rw[<-hq];exact Le ha))).one),O,Z⟩ λw3 h6 h7=>xe ?_;have hs:sW w1 w3:=h3.Q h6 h4;refine QS<|Kr oh ?_;refine Jm.pre3 ?_;refine Qa<|Qq O h7 O O<|xe<|xy (l:=l) O (hY ys ⟨q.nm,Y⟩ w3 (ab hg hs) oa) λen W3 h8=>Or.elim h8 (λG=>⟨.bool true,G.1,?_⟩) (λG=>⟨.bool false,G.1,?_⟩)
  ·refine Jm.of_XL<|x (Zl O)<|xe<|JX O<|Yb ?_;refine Qy oh oh<|QD O O<|Qa<|xe ?_;exact⟨(k+1,ys++[⟨q.nm,Y⟩]),oe,La,O,hz,(hp.D hs).lw G.2.2,by rw[hm,Lv,V];rfl,G.2.1⟩
  refine Jm.of_XL<|x (Zl O)<|xe<|yT O ?_;refine JW ⟨λ_ h=>(by cases h),Ms,[],λW' E=>⟨Z,.inr ⟨ys++[⟨q.nm,Y⟩],Z,?_⟩⟩⟩;exact hw _ W3 W' none G.2 ⟨E.os,E.tape,E.output,E.size,λk U _=>E.block k U od⟩ (λr e=>by cases e)
 refine(callsIn_wide (n:=m)).2 ?_;have ea:(#[.func (.yield l) #[] #[]]++[sP I,sP S].toArray:Array O2)=#[.func (.yield l) #[] #[],sP I,sP S]:=od
 rw[ea];unfold QR at key;refine Calls.mono key λe w' he=>?_;cases e with
 | returned v=>exact⟨⟨v,O⟩,he⟩
 | panicked c=>exact he.elim
 | outgrown=>exact he.elim
theorem yq {sz:LI}{qx:List XV}{ks:List KV}(hS:Qu [] ↑w vs sz)(hX:jg [] ↑w vx qx)(hK:yS [] ↑w vk ks):
  QR sV 112 [.agg #[vs,vx,vk]] w λr w'=>r=sS (Y4 sz (qx.map (·.x)) (ks.map (·.k)))/\sW w w':=by
 have hZ:=hS.le;have ga:=hX.arr.le;have gb:=hK.arr.le;refine Zm func112 ?_;refine Qc<|Za [vs,vx,vk] λb1 w1 G gc U=>Qb<|Qd<|Qc<|Qq O U O O<|QG (hS.I G) O<|x (Ya O O)<|xe<|Zi rfl (λh2=>?_) (λh2=>?_)
 ·refine Qc<|Qb<|Qh ⟨[_],La,by unfold Y4;rw[OU (by have hM:(8:Int)<(sz.length:Int):=h2;omega)];rfl,G⟩
 have h0:¬8<sz.length:=by have hM:¬(8:Int)<(sz.length:Int):=h2;omega
 refine Qf<|Qd<|Qc<|Qq O U O O<|QG (hS.I G) O<|Qa<|xe<|QW (α:=Nat) [(2,2),(4,4),(22,32)] (λz=>[(22,sS z)]) (λz w'=>z<=sz.length/\w'=w1/\(sz.drop z).any X8=sz.any X8) (λz=>sz.length - z) 0 La
  ⟨Lo _,O,O⟩ ?_
 rintro k g w2 ⟨hk,rfl,ha⟩;refine Zk rfl O (λh3=>?_) (λh3=>?_)
 ·refine Qt ?_;have hm:sz.length<=k:=by have h1:¬(k:Int)<(sz.length:Int):=h3;omega
  rw[Lr hm]at ha;have h4:¬sz.any X8=true:=by rw[<-ha];decide
  refine Qd<|QX (α:=Bool) [(33,42)] (λz=>[(42,.bool z)]) (λz w'=>w'=w2/\z=decide (32<qx.length\/32<ks.length)) oh ?_ ?_
  ·refine Qs<|Qq O U O O<|QG (hX.I G).arr O<|xb (Ya O O) (λhN=>?_) (λhN=>?_)
   ·refine Qa<|Zq<|Kt<|QB O<|xe ?_;exact⟨_,La,O,by first|exact bT oa|exact bF oa|exact bD oa⟩
   refine Qa<|Qq O U O O<|QG (hK.I G).arr O<|x (Ya O O)<|QB O<|xe ?_;exact⟨_,La,O,by first|exact bT oa|exact bF oa|exact bD oa⟩
  rintro z g V ⟨rfl,rfl⟩;refine Zi O (λh5=>?_) (λh5=>?_)
  ·refine Qc<|Qb<|Qh ⟨[_],La,by unfold Y4;rw[OT h0,OT h4,OU (ou h5)];rfl,G⟩
  have hH:¬(32<(qx.map (·.x)).length\/32<(ks.map (·.k)).length):=by simpa using h5
  have hI:YM sz [] (qx.map (·.x))≠0->Y4 sz (qx.map (·.x)) (ks.map (·.k))=YM sz [] (qx.map (·.x)):=λh=>by
   unfold Y4;rw[OT h0,OT h4,OT hH,OU h]
  have hO:YM sz [] (qx.map (·.x))=0->Y4 sz (qx.map (·.x)) (ks.map (·.k))=Xm sz [] (ks.map (·.k)):=λh=>by
   unfold Y4;rw[OT h0,OT h4,OT hH,OT (by rw[h];exact λh=>h O)]
  refine Qf<|Qd<|Qc<|Qq O (U.I (O5.Y [] V)) O O<|QG ((hX.I G).I (O5.Y [] V)).arr O<|Qa<|xe<|QW (α:=Nat) [(2,2),(5,9),(46,65)] (λz=>[(46,sS z)]) (λz w'=>z<=qx.length/\sW V w'/\YM sz ((qx.take z).map (·.nm)) ((qx.drop z).map (·.x))=YM sz [] (qx.map (·.x))) (λz=>qx.length - z) 0 La
   ⟨Lo _,(O5.Y [] V),O⟩ ?_
  rintro k g wA ⟨hk,I,hck⟩;refine Zk O O (λhc=>?_) (λhc=>?_)
  ·refine Qt ?_;have hm:qx.length<=k:=by have h6:¬(k:Int)<(qx.length:Int):=hc;omega
   rw[Lr hm]at hck;have hP:YM sz [] (qx.map (·.x))=0:=hck.symm;have h7:=hO hP;refine Qd<|Qc<|Qq O (U.I I) O O<|QG ((hK.I G).I I).arr O<|Qa<|xe<|QW (α:=Nat) [(2,2),(10,14),(69,88)] (λz=>[(69,sS z)]) (λz w'=>z<=ks.length/\sW V w'/\Xm sz ((ks.take z).map (·.nm)) ((ks.drop z).map (·.k))=Xm sz [] (ks.map (·.k))) (λz=>ks.length - z) 0 La
    ⟨Lo _,I,O⟩ ?_
   rintro k g wA ⟨hk,I,hck⟩;refine Zk O O (λhc=>?_) (λhc=>?_)
   ·refine Qt ?_;have hm:ks.length<=k:=by have h6:¬(k:Int)<(ks.length:Int):=hc;omega
    rw[Lr hm]at hck;have hQ:Xm sz [] (ks.map (·.k))=0:=hck.symm;refine Qc<|Qb<|Qh ⟨[_],La,by rw[h7,hQ];rfl,G.D I⟩
   have E:k<ks.length:=by have h6:(k:Int)<(ks.length:Int):=hc;omega
   have ho:(ks.take (k+1)).map (·.nm)=(ks.take k).map (·.nm)++[(ks[k]'E).nm]:=by rw[Lj E,Lv];rfl
   rw[QY E,LS]at hck;have he:=Le E;have J:=(hK.I G).I I;have hR:=U.I I;refine Qf<|Qd<|Qn<|Qk<|O8 VR J.arr O O E λaA hA=>?_;refine Zg (ks[k]'E) λq hq=>?_;rw[hq]at hA hck ho he;have hp:=J.each q he;refine x (QA hA O O)<|QN [sS 0] λb5 V hr h8 hf=>QN [.string .empty,nS,sS 0] λb6 w4 hs hT h9 =>
    Qo<|Qw (j:=0) (u:=sS k) (hf.I hs) O O og O λw5 ht hB=>Q2 (Zz q) (h9.J ht (by have:=hf.lt;simp;omega)) ⟨O,hp.one,O,Z⟩ λw6 hu hv=>xe ?_
   have hU:b5<b6:=by have:=hf.lt;omega
   have hg:sW wA w6:=((hr.D hs).Q ht h8).Q hu (oo hr.size);have hC:QL ↑w6 b5 3 [sS k]:=hB.J hu (by simp;omega);have hw:=hR.I hg;have hV:=J.I hg;refine Qc<|x Zn<|Qb<|Qd<|Qc<|Qq O hv O O<|Qa<|Qv<|(Qfj (nms:=(ks.take k).map (·.nm)) (capt:=[sP b1,sP b5]) (J.nm q he) (λw' L hh hL=>Qkg (hw.I hh) (hC.I hh) ((hV.up (λb hb=>.inr (hL b hb))).I hh) hk O)).S ?_;rintro r7 w7 ⟨rfl,hj⟩;refine Qb ?_;have S:=hg.D hj;refine Qk<|ZM O O<|xe<|Zi O (λY=>?_) (λY=>?_)
   ·have e1:Xm sz [] (ks.map (·.k))=Vf ((ks.take k).map (·.nm)) q.nm:=by rw[<-hck];exact OU Y
    refine Qk<|Qb<|Qh ⟨[_],La,by rw[h7,e1];rfl,G.D (I.D S)⟩
   have hy:(if XC sz q.k≠0 then XC sz q.k else Xm sz ((ks.take k).map (·.nm)++[q.nm]) ((ks.drop (k+1)).map (·.k)))=Xm sz [] (ks.map (·.k)):=by rw[<-hck];exact(OT Y).symm
   refine Qf ?_;have hW:=hw.I hj;have hY:=hv.I hj;refine Qc<|QV hW O O<|QV hY O O<|Qv<|(VX (((hS.I G).I I).I S) (hp.I S)).S ?_;rintro r8 w8 ⟨rfl,hD⟩;refine Qb ?_;have hz:=S.D hD;refine Qk<|ZM O O<|xe<|Zi O (λT=>?_) (λT=>?_)
   ·have e1:Xm sz [] (ks.map (·.k))=XC sz q.k:=by rw[<-hy];exact OU T
    have hJ:XC sz q.k≠0:=T;refine Qk<|Qb<|Qh ⟨[_],La,by rw[h7,e1];rfl,G.D (I.D hz)⟩
   have hE:Xm sz ((ks.take k).map (·.nm)++[q.nm]) ((ks.drop (k+1)).map (·.k))=Xm sz [] (ks.map (·.k)):=by rw[<-hy];exact(OT T).symm
   refine Qf<|Qs<|QD O O<|Qa<|xe ?_;exact⟨k+1,oa,La,E,I.D hz,by rw[ho];exact hE⟩
  have E:k<qx.length:=by have h6:(k:Int)<(qx.length:Int):=hc;omega
  have ho:(qx.take (k+1)).map (·.nm)=(qx.take k).map (·.nm)++[(qx[k]'E).nm]:=by rw[Lj E,Lv];rfl
  rw[QY E,LS]at hck;have he:=Le E;have J:=(hX.I G).I I;refine Qf<|Qd<|Qn<|Qk<|O8 VF J.arr O O E λaA hA=>?_;refine Zg (qx[k]'E) λq hq=>?_;rw[hq]at hA hck ho he;have hp:=J.each q he;refine x (QA hA O O)<|QN [sS 0] λb5 V hr h8 hf=>QN [.string .empty,nS] λb6 w4 hs hT h9 =>
   Qo<|Qw (j:=0) (u:=sS k) (hf.I hs) O O og O λw5 ht hB=>Q2 (Zw q) (h9.J ht (by have:=hf.lt;simp;omega)) ⟨O,hp.one,Z⟩ λw6 hu hv=>xe ?_
  have hU:b5<b6:=by have:=hf.lt;omega
  have hg:sW wA w6:=((hr.D hs).Q ht h8).Q hu (oo hr.size);have hC:QL ↑w6 b5 3 [sS k]:=hB.J hu (by simp;omega);have hw:=(U.I I).I hg;refine Qc<|x Zn<|Qb<|Qd<|Qc<|Qq O hv O O<|Qa<|Qv<|(Qfj (nms:=(qx.take k).map (·.nm)) (capt:=[sP b1,sP b5]) (J.nm q he) (λw' L hh hL=>QjU (hw.I hh) (hC.I hh) (((J.I hg).up (λb hb=>.inr (hL b hb))).I hh) hk O)).S ?_;rintro r7 w7 ⟨rfl,hj⟩;refine Qb ?_;have S:=hg.D hj;refine Qk<|ZM O O<|xe<|Zi O (λY=>?_) (λY=>?_)
  ·have e1:YM sz [] (qx.map (·.x))=Vf ((qx.take k).map (·.nm)) q.nm:=by rw[<-hck];exact OU Y
   refine Qk<|Qb<|Qh ⟨[_],La,by rw[hI (by rw[e1];exact Y),e1];rfl,G.D (I.D S)⟩
  have hy:(if JS sz q.ls≠0 then JS sz q.ls else YM sz ((qx.take k).map (·.nm)++[q.nm]) ((qx.drop (k+1)).map (·.x)))=YM sz [] (qx.map (·.x)):=by rw[<-hck];exact(OT Y).symm
  refine Qf<|Qc<|QV (hw.I hj) O O<|QV (hv.I hj) O O<|Qv<|(UH (((hS.I G).I I).I S) (hp.I S)).S ?_;rintro r8 w8 ⟨rfl,hD⟩;refine Qb ?_;have hz:=S.D hD;refine Qk<|ZM O O<|xe<|Zi O (λT=>?_) (λT=>?_)
  ·have e1:YM sz [] (qx.map (·.x))=JS sz q.ls:=by rw[<-hy];exact OU T
   have hJ:JS sz q.ls≠0:=T;refine Qk<|Qb<|Qh ⟨[_],La,by rw[hI (by rw[e1];exact hJ),e1];rfl,G.D (I.D hz)⟩
  have hE:YM sz ((qx.take k).map (·.nm)++[q.nm]) ((qx.drop (k+1)).map (·.x))=YM sz [] (qx.map (·.x)):=by rw[<-hy];exact(OT T).symm
  refine Qf<|Qs<|QD O O<|Qa<|xe ?_;exact⟨k+1,oa,La,E,I.D hz,by rw[ho];exact hE⟩
 have E:k<sz.length:=by have h1:(k:Int)<(sz.length:Int):=h3;omega
 rw[QY E,List.any_cons]at ha;refine Qf<|Qd<|Qn<|Qc<|xii (hS.I G) O O E λge h1=>?_;refine Zg (sz[k]'E) λn hn=>?_;rw[hn]at h1 ha;refine x (Qr h1 O)<|Qb<|QX (α:=Bool) [(26,31)] (λz=>[(31,.bool z)]) (λz w'=>w'=w2/\z=X8 n) oh ?_ ?_
 ·refine Qs<|Qa<|xb (YC O O) (λhF=>?_) (λhF=>?_)
  ·refine Qa<|Yf<|QB O<|xe ?_;exact⟨_,La,O,by unfold X8;rw[OX hF];rfl⟩
  refine Qa<|Qa<|x (Ya O O)<|QB O<|xe ?_;exact⟨_,La,O,by unfold X8;rw[OZ hF];rfl⟩
 rintro z g V ⟨rfl,rfl⟩;refine Q6 rfl (λhG=>?_) (λhG=>?_)
 ·refine Qc<|Qb<|Qh ⟨[_],La,by unfold Y4;rw[OT h0,OU (by rw[<-ha,hG];rfl)];rfl,G⟩
 rw[hG,Bool.false_or]at ha;refine Qf<|Qs<|QD O O<|Qa<|xe ?_;exact⟨k+1,oa,La,E,O,ha⟩
theorem Qd7 {α:Type}(q:α->Bool):∀(l:List α) (i:Nat),fix q i l=-1\/((i:Int)<=fix q i l/\fix q i l<(i:Int)+l.length)
 | [],i=>.inl O
 | a::l,i=>by
  rw[YD];split
  ·right;simp only[oQ];omega
  rcases Qd7 q l (i+1) with h|h
  ·exact .inl h
  right;simp only[oQ];omega
theorem yn {α:Type}(q:α->Bool)(m:List α):∀(l:List α) (i:Nat),fix q i (l++m)=if 0<=fix q i l then fix q i l else fix q (i+l.length) m
 | [],i=>by
  show fix q i m=if(0:Int)<=-1 then(-1) else fix q i m
  rw[OT og]
 | a::l,i=>by
  rw[Mu,YD,YD];by_cases h:q a=true
  ·rw[OU h,OU h,OU oa]
  rw[OT h,OT h,yn q m l (i+1),LL];rw[show i+1+l.length=i+(l.length+1) by omega]
theorem jZ {α:Type}(q:α->Bool)(d:Nat):∀(l:List α) (i:Nat),fix q (i+d) l=if 0<=fix q i l then fix q i l+d else -1
 | [],i=>rfl
 | a::l,i=>by
  rw[YD,YD];by_cases h:q a=true
  ·rw[OU h,OU h,OU oa];omega
  rw[OT h,OT h,show i+d+1=(i+1)+d by omega,jZ q d l (i+1)]
theorem Vu {α β:Type}(q:β->Bool)(g:α->β):∀(l:List α) (i:Nat),fix q i (l.map g)=fix (λa=>q (g a)) i l
 | [],i=>rfl
 | a::l,i=>by rw[LS,YD,YD,Vu q g l (i+1)]
theorem QoY [Fu sV gp fn]{q:(Int×Int)->Bool}{v:O2}{l:xw}(h:Zt L ↑w v l.length 2 (l.flatMap Q5))
  (G:∀e∈l,∀(E:O1),sW w E->QR sV gp ([sT (Q5 e)]++cap) E λr w'=>r=.bool (q e)/\sW E w'):
  QR sV 299 [v,.func (.func gp) #[] cap.toArray] w λr w'=>r=sS (fix q 0 l)/\sW w w' :=
 ixG ⟨_,O,func299⟩ Xc (ldA Xc) h G
theorem Qpr [Fu sV gp fn]{q:(Int×Int)->Bool}{v:O2}{l:xw}(h:Zt L ↑w v l.length 2 (l.flatMap Q5))
  (G:∀e∈l,∀(E:O1),sW w E->QR sV gp ([sT (Q5 e)]++cap) E λr w'=>r=.bool (q e)/\sW E w'):
  QR sV 269 [v,.func (.func gp) #[] cap.toArray] w λr w'=>r=.bool (l.any q)/\sW w w':=by
 refine Zm func269 ?_;refine Qc<|Qb<|Qk<|Qa<|KS<|(QoY h G).S ?_;rintro J E ⟨rfl,I⟩;refine x (Yl O O)<|Qb<|Qh ⟨[_],La,OV Value.bool (UA q l 0),I⟩
theorem yB (sz:LI):∀(ls:xw) (pr:Option Int),XB sz pr ls=0->(∀p∈ls,0<=p.1/\p.1<(sz.length:Int))/\YA (ls.map (·.1))/\∀y,pr=some y->∀p∈ls,y<p.1
 | [],pr,_=>⟨λp E=>(by cases E),List.Pairwise.nil,λy _ p E=>(by cases E)⟩
 | l::ls,pr,h=>by
  unfold XB at h;split at h
  ·cases h
  rename_i V;split at h
  ·cases h
  rename_i I;split at h
  ·cases h
  obtain⟨J,S,T⟩:=yB sz ls (some l.1) h;have G:=T l.1 O;refine⟨λp E=>?_,L6.2 ⟨λx hx=>?_,S⟩,λy U p E=>?_⟩
  ·rcases Ln.1 E with rfl|E
   ·omega
   exact J p E
  ·obtain⟨p,E,rfl⟩:=Ly.1 hx;exact G p E
  subst U;have Y:¬l.1<=y:=λe=>I (OX e);rcases Ln.1 E with rfl|E
  ·omega
  have:=G p E;omega
theorem yz (sz:LI):∀(ls:xw) (pr:Option Int),JR sz pr ls=0->(∀p∈ls,0<=p.1/\p.1<(sz.length:Int)/\-65536<=p.2/\p.2<=65536)/\YA (ls.map (·.1))/\∀y,pr=some y->∀p∈ls,y<p.1
 | [],pr,_=>⟨λp E=>(by cases E),List.Pairwise.nil,λy _ p E=>(by cases E)⟩
 | l::ls,pr,h=>by
  unfold JR at h;split at h
  ·cases h
  rename_i h1;split at h
  ·cases h
  rename_i J;split at h
  ·cases h
  rename_i S;obtain⟨T,U,V⟩:=yz sz ls (some l.1) h;have G:=V l.1 O;have I:grt l.2=false:=by cases Y:grt l.2 with|true=>exact OW (.inr Y) S|false=>rfl
  unfold grt at I;simp only[oY,decide_eq_false_iff_not]at I;refine⟨λp E=>?_,L6.2 ⟨λx hx=>?_,U⟩,λy hy p E=>?_⟩
  ·rcases Ln.1 E with rfl|E
   ·omega
   exact T p E
  ·obtain⟨p,E,rfl⟩:=Ly.1 hx;exact G p E
  subst hy;have h8:¬l.1<=y:=λe=>J (OX e);rcases Ln.1 E with rfl|E
  ·omega
  have:=G p E;omega
theorem qF (sz:LI):∀(l:List Exc) (sn:List ByteArray),YM sz sn l=0->∀x∈l,JS sz x.ls=0
 | [],_,_,x,hx=>by cases hx
 | a::l,sn,h,x,hx=>by
  unfold YM at h;split at h
  ·rename_i E;exact OW h E
  split at h
  ·rename_i E;exact OW h E
  rename_i E;rcases Ln.1 hx with rfl|hx
  ·exact Ls.1 E
  exact qF sz l _ h x hx
theorem qH (sz:LI):∀(l:List xL) (sn:List ByteArray),Xm sz sn l=0->∀x∈l,XC sz x=0
 | [],_,_,x,hx=>by cases hx
 | a::l,sn,h,x,hx=>by
  unfold Xm at h;split at h
  ·rename_i E;exact OW h E
  split at h
  ·rename_i E;exact OW h E
  rename_i E;rcases Ln.1 hx with rfl|hx
  ·exact Ls.1 E
  exact qH sz l _ h x hx
structure Qsj (sz:LI)(ex:List Exc)(cs:List xL):Prop where
 s8:sz.length<=8
 s:∀n∈sz,1<=n/\n<=4096
 xl:ex.length<=32
 kl:cs.length<=32
 x:∀e∈ex,∀p∈e.ls,0<=p.1/\p.1<(sz.length:Int)
 k:∀e∈cs,(∀p∈e.ts,0<=p.1/\p.1<(sz.length:Int)/\-65536<=p.2/\p.2<=65536)/\e.ts.length<=8
theorem QcS {sz:LI}{ex:List Exc}{cs:List xL}(h:Y4 sz ex cs=0):Qsj sz ex cs:=by
 unfold Y4 at h;split at h
 ·cases h
 rename_i Y;split at h
 ·cases h
 rename_i T;split at h
 ·cases h
 rename_i ha;split at h
 ·rename_i hx;exact OW h hx
 rename_i hx;refine⟨oa,λn U=>?_,oa,oa,λe I p G=>?_,λe I=>?_⟩
 ·have E:X8 n=false:=by
   cases hb:X8 n with
   | false=>rfl
   | true=>exact OW (Ni.2 ⟨n,U,hb⟩) T
  unfold X8 at E;simp only[oY,decide_eq_false_iff_not]at E;omega
 ·have E:=qF sz ex [] (Ls.1 hx) e I;unfold JS at E;split at E
  ·cases E
  exact(yB sz e.ls none E).1 p G
 have E:=qH sz cs [] h e I;unfold XC at E;split at E
 ·cases E
 split at E
 ·rename_i J;exact OW E J
 rename_i J;obtain⟨S,V,_⟩:=yz sz e.ts none (Ls.1 J);refine⟨S,?_⟩;have:=xH sz.length (e.ts.map (·.1)) (List.Pairwise.imp (λ{a b} (h:a<b)=>(by omega:a≠b)) V) (λx hx=>by
  obtain⟨p,G,rfl⟩:=Ly.1 hx;exact⟨(S p G).1,(S p G).2.1⟩)
 rw[Ll]at this;omega
def Qnr (sz t:LI):Prop:=t.length=sz.length/\∀i,i<t.length->0<=O6 t i/\O6 t i<O6 sz i
theorem Qf9 (t:LI)(p:Int×Int)(l:xw)(s:Int):(l++[p]).foldl (λs p=>s+p.2*t.getD p.1.toNat 0) s=l.foldl (λs p=>s+p.2*t.getD p.1.toNat 0) s+p.2*O6 t p.1.toNat:=by
 rw[Mj];rfl
theorem QhG {nm:ByteArray}{ts:xw}{bd:Int}{t:LI}(hl:P2s [] ↑w vl ts)(ht:Qu [] ↑w vt t)
  (hj:∀p∈ts,0<=p.1/\p.1<(t.length:Int)/\-65536<=p.2/\p.2<=65536) (h8:ts.length<=8) (hm:∀i,i<t.length->0<=O6 t i/\O6 t i<=4096):
  QR sV 272 [.agg #[.string nm,vl,sS bd],vt] w λr w'=>r=sS (Qqb t ⟨nm,ts,bd⟩)/\sW w w':=by
 refine Zm func272 ?_;refine Qc<|Za [.string nm,vl,sS bd] λb2 w1 Y hw hn=>Qb<|Qc<|Qb<|Qd<|Qc<|Qq O hn O O<|QG (hl.I Y) O<|Qa<|xe<|QW (α:=Nat×Int) [(5,5),(7,7),(11,25)] (λz=>[(5,sS z.2),(11,sS z.1)]) (λz w'=>z.1<=ts.length/\sW w w'/\z.2=(ts.take z.1).foldl (λs p=>s+p.2*t.getD p.1.toNat 0) 0/\-(268435456*(z.1:Int))<=z.2/\z.2<=268435456*(z.1:Int)) (λz=>ts.length - z.1) (0,0) ov
  ⟨Lo _,Y,O,oe,oe⟩ ?_
 rintro⟨k,s⟩ g w2 ⟨hk,S,T,hy,hz⟩;refine Zk rfl O (λU=>?_) (λU=>?_)
 ·refine Qt ?_;have ho:ts.length<=k:=by have I:¬(k:Int)<(ts.length:Int):=U;omega
  rw[Lq ho]at T;refine Qk<|Qb<|Qh ⟨[_],La,by rw[T];rfl,S⟩
 have E:k<ts.length:=by have I:(k:Int)<(ts.length:Int):=U;omega
 have V:=hj _ (Le E);have ha:ts.take (k+1)=ts.take k++[ts[k]'E]:=Lj E;refine Qf<|Qd<|Qn<|Qc<|O8 Xc (hl.I S) O O E λh0 I=>?_;refine Zg (ts[k]'E) λe he=>?_;rw[he]at I V ha;refine x (QA I O O)<|QN [sS 0,sS 0] λb7 w3 hp hq J=>Q2 (Q5 e) J ov λw4 hr J=>xe ?_;have hs:sW w2 w4:=hp.Q hr hq;have hf:=S.D hs;have hu:e.1=((e.1.toNat:Nat):Int):=oa
 have hg:e.1.toNat<t.length:=oa
 have hh:=hm _ hg;have h3:-268435456<=e.2*O6 t e.1.toNat/\e.2*O6 t e.1.toNat<=268435456:=by
  have h1:(-65536)*O6 t e.1.toNat<=e.2*O6 t e.1.toNat:=Int.mul_le_mul_of_nonneg_right V.2.2.1 hh.1;have h2:e.2*O6 t e.1.toNat<=65536*O6 t e.1.toNat:=Int.mul_le_mul_of_nonneg_right V.2.2.2 hh.1;omega
 refine Zg (e.2*O6 t e.1.toNat) λpr h4=>?_;refine ZL [] (Xg 0 11 [])<|p Qx<|p (QH O)<|pq (λ_ G=>Ql (J.I G) O O)<|p Qx<|p (QH O) <|
  pq (λ_ G=>Ql (J.I G) O O)<|pic (i:=e.1.toNat) O (ht.I hf) O (OV sS hu) hg λh5 hv=>pq (λ_ G=>Qr (hv.I G) O) <|
  p (λ_=>Qe4 O O ⟨oa,oa⟩)<|p (λ_=>Xp O O ⟨oa,oa⟩)<|p ZN<|pe ?_
 refine Qs<|QD O O<|Qa<|xe<|⟨(k+1,s+e.2*O6 t e.1.toNat),oe,ov,E,hf.D (O5.X _ _),?_,oe,oe⟩;simp only[];rw[ha,Qf9,<-T]
theorem QjT {bt:Nat}{t:LI}(J:QL ↑w bt 47 [vt])(S:Qu [] ↑w vt t)(e:Int×Int)(Y:0<=e.1/\e.1<(t.length:Int)):
  QR sV 270 ([sT (Q5 e)]++[sP bt]) w λr w'=>r=.bool (!decide (t.getD e.1.toNat 0=e.2))/\sW w w':=by
 refine Zm func270 ?_;refine Qc<|Za (Q5 e) λb2 w1 G ha I=>Qb ?_;have T:e.1=((e.1.toNat:Nat):Int):=oa
 have U:e.1.toNat<t.length:=oa
 refine Qd<|ZL [] (Xg 0 9 [])<|pq (λ_ E=>Ql ((J.I G).I E) O O)<|p (QH O)<|pq (λ_ E=>Ql (I.I E) O O)<|pic (i:=e.1.toNat) O (S.I G) O (OV sS T) U λa7 V =>
  pq (λ_ E=>Qr (V.I E) O)<|p (QH O)<|pq (λ_ E=>Ql (I.I E) O O)<|p (λ_=>JN O O) <|
  p ZN<|pe ?_
 refine Qh ⟨[_],La,?_,G.D (O5.X _ _)⟩;show Value.bool (decide (¬O6 t e.1.toNat=e.2))=_;unfold O6;simp
theorem QhE (t:LI)(x:Exc):(!(x.ls.any λl=>!decide (t.getD l.1.toNat 0=l.2)))=VI t x:=by
 unfold VI;induction x.ls with
 | nil=>rfl
 | cons a l ih=>rw[List.any_cons,ME,<-ih];cases decide (t.getD a.1.toNat 0=a.2) <;> simp
theorem QmO {b:Nat}{q:XV}{t:LI}(J:QL ↑w b 186 (Zw q))(S:P2s [] ↑w q.v q.ls)(I:Qu [] ↑w vt t)(T:∀p∈q.ls,0<=p.1/\p.1<(t.length:Int)):
  QR sV 268 ([vt]++[sP b]) w λr w'=>r=.bool (VI t q.x)/\sW w w':=by
 refine Zm func268 ?_;refine Qc<|Qo<|qD (us:=[vt]) I.cells λU w1 E ha V=>Qb<|Qc<|Qq O (J.I E) O O<|x Zn<|Qv<|(Qpr (q:=λl=>!decide (t.getD l.1.toNat 0=l.2)) (cap:=[sP U]) (S.I E) (λe Y w2 G=>QjT (V.I G) ((I.I E).I G) e (T e Y))).S ?_;rintro r2 w2 ⟨rfl,G⟩;refine x (Zl O)<|Qb<|Qh ⟨[_],La,OV Value.bool (QhE t q.x),E.D G⟩
theorem QmN {b:Nat}{q:KV}{t:LI}(G:QL ↑w b 191 (Zz q))(J:P2s [] ↑w q.v q.ts)(S:Qu [] ↑w vt t)
  (T:∀p∈q.ts,0<=p.1/\p.1<(t.length:Int)/\-65536<=p.2/\p.2<=65536) (U:q.ts.length<=8) (V:∀i,i<t.length->0<=O6 t i/\O6 t i<=4096):
  QR sV 271 ([vt]++[sP b]) w λr w'=>r=.bool (US t q.k)/\sW w w':=by
 refine Zm func271 ?_;refine Qc<|Qb ?_;have hd:sW w { w with drawn:=w.drawn+1 }:=O5.X _ _
 refine Qd<|V3 (sW { w with drawn:=w.drawn+1 }) [oz 0,oz 1,oz 3,oz 4,oA 2,oz 5,oz 6] mixed oh oc (O5.Y _ _) ?_
 refine pq (λ_ E=>Q7 ((G.I hd).I E) O O)<|p Qx<|p (QH O)<|pq (λ_ E=>Ql ((G.I hd).I E) O O)<|pk<|xg<|(QhG (J.I hd) (S.I hd) T U V).S ?_;rintro Y w1 ⟨rfl,I⟩;refine⟨I,?_⟩;refine p (λ_=>Ya O O)<|p ZN<|pe ?_;exact Qh ⟨[_],La,O,hd.D I⟩
end Go.Lg
