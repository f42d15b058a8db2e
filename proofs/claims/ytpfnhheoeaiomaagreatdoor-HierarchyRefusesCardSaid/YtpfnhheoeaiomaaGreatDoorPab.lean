/- Merged out of 47 texts. -/
import Derived.Test.YtpfnhheoeaiomaaGreatDoorPaa
import Derived.Laws.Strings
import Derived.RangeFuncNested
import Derived.RangeFuncLeaves
import Derived.RangeFuncCalls
import Derived.OrdersIn
import Derived.TacticsIn
set_option maxHeartbeats 40000000
set_option maxRecDepth 100000
set_option linter.all false
open Go Go.Lg
open Go.Value renaming int->oB
open Go.IntKind renaming i64->oC
open _root_.List renaming mem_singleton->oF,replicate->oG,not_mem_nil->oH,mem_cons->oJ,range->oK,length_singleton->oL,length_append->oM,range'->oN,getD->oO,length_cons->oQ,getElem?_toArray->oS,map_cons->oT,getElem?_eq_getElem->oU,mem_append->oV,flatMap_cons->oW,length->oY,cons_append->o0,all_cons->Oa,headD_cons->Ob,size_toArray->Oc,tail_cons->Oe,getElem?_append_left->Of,all_eq_true->Og,getElem_cons_zero->Oj,append_nil->On,append_assoc->Oq,range'_succ->Ot,pairwise_cons->Ou,mem_filter->Ow,mem_range'_1->Oy,filter_cons->OE,mem_map->OF,map_nil->OG,take_length->OH
open _root_.Bool renaming and_eq_true->oI,or_eq_false_iff->oZ,not_eq_true'->Od,false_eq_true->Oh
open _root_.Array renaming replicate->oP
open _root_.Nat renaming zero_add->oX,add_mul->Ok,one_mul->OI,sub_zero->OK,pow_succ->OL,mul_one->OM,beq->ON
open _root_.Option renaming map_some->Ov
open Go renaming World->OX,Value->OY,Operand->OZ,Program->O0
open Go.Proofs Go.Proofs.Tryz
open Go.Proofs.Tryz renaming prog->sV
variable {w w' W':OX}{L L' X ds ns:LN}{n t i sz base T N j E m g id B kt ty G lo hi et gp M:Nat}{a:QF}{l o u un al ul li rs:LI}{cs us cap capt:LV}{α β:Type}{y:OZ}{ve va vm z vt vl vs vk vx v' vr vo:OY}{f:Fr}{P:O0}{aa:List QF}{fn:Func}{s:Int}{es ed:List Ed}{K:xt}{d:xA}{pS:String}{af:xx}{gd:xj}{k':IntKind}{at_:Array Nat}{ops:xz}{q:Prop}
namespace Go.Lg
class Ay (P:O0)(t:Nat)(m e sz:outParam Nat):Prop where
 u:P.underlying t=some (.array m e)
 i:(P.info? e).map (·.size)=some sz
theorem ZQ {x:OZ}{e:Nat}[h:Ay P t m e sz]{b o:Nat}{k:IntKind}(hx:ev f x=.pointer (some ⟨b,o,none⟩))(G:ev f y=.int k i)(I:i<m):
  (execOp (ev f) ⟨d,.indexAddr t x y,ty,pS,af,gd⟩).run P w=.ok (.value (.pointer (some ⟨b,o+i*sz,none⟩))) w:=by
 have hi:=h.i;cases E:P.info? e with
 | none=>simp[E]at hi
 | some ii =>
  simp[E]at hi;simp[execOp,hx,G,Instr.indexAt,asIntOf,run_underlying h.u,Instr.sureAddr,sizeOf,typeInfo,E,hi,XC];intro J;omega
theorem Qlr {a b:Nat}(E:a<256):inK .u8 ((a &&& b:Nat):Int):=by
 have:a &&& b<=a:=Nat.and_le_left;exact⟨oa,oa⟩
theorem qT {x:OZ}{a b:Nat}(hx:ev f x=.int .u8 a)(I:ev f y=.int .u8 b)(E:a<256)(hb:b<256):
  (execOp (ev f) ⟨d,.binOp .and t x y G,ty,pS,af,gd⟩).run P w=.ok (.value (.int .u8 ((a &&& b:Nat):Int))) w:=by
 refine JM hx I ?_;simp only[binOp,Op.intBits,BitVec.ofInt_natCast,ne_eq,not_true_eq_false,if_false,Sem.run_pure];rw[BitVec.toNat_and,BitVec.toNat_ofNat,BitVec.toNat_ofNat,Nat.mod_eq_of_lt (show a<2 ^ IntKind.u8.bits from E),Nat.mod_eq_of_lt (show b<2 ^ IntKind.u8.bits from hb),Xu (Qlr E)]
theorem QdJ (m i:Nat):((m:Int) / 2 ^ i)=((m / 2 ^ i:Nat):Int):=by rw[Int.natCast_ediv,Int.natCast_pow];rfl
inductive Pt where
 | pl (l:xo)
 | fk (pre:xo) (i j:Nat) (t1 t2:Pt)
def Pt.len:Pt->Nat
 | .pl l=>l.length
 | .fk pre _ _ t1 _=>pre.length+(1+t1.len)
def XQ (all:Array Oper):xo->Array Bool->Bool
 | [],_=>true
 | (k,q)::pl,ls=>q && (Region.ready .any all ls).contains k && Region.free .any all ls k && XQ all pl (ls.setIfInBounds k true)
def ZO:xo->Array Bool->Array Bool
 | [],ls=>ls
 | (k,_)::pl,ls=>ZO pl (ls.setIfInBounds k true)
def QgP (all:Array Oper):Pt->Array Bool->Bool
 | .pl l,ls=>Y7 all l ls
 | .fk pre i j t1 t2,ls=>XQ all pre ls && Region.ready .any all (ZO pre ls) == [i,j] && t1.len == t2.len && QgP all t1 ((ZO pre ls).setIfInBounds i true) && QgP all t2 ((ZO pre ls).setIfInBounds j true)
def XT (P:O0)(all:xz)(C:xu)(K:xt):Pt->Fr->OX->Prop
 | .pl l=>XP P all C K l
 | .fk pre i j t1 t2=>XP P all C (λf w=>(Z3 all f (QR all i)=true/\XO P (QR all i) f w λE w'=>C w'/\XT P all C K t1 E w') /\
   (Z3 all f (QR all j)=true/\XO P (QR all j) f w λE w'=>C w'/\XT P all C K t2 E w')) pre
section
variable {all:xz}{C:xu}{B:xt}
theorem YB:∀(pl:xo) (ls:Array Bool),(ZO pl ls).size=ls.size
 | [],_=>rfl
 | (k,q)::pl,ls=>by rw[ZO,YB];simp
theorem Yx {m:Nat}(S:Region.noSelect all.toArray=true):∀(pl:xo) (ls:Array Bool) (f:Fr) (w:OX),C w->XQ all.toArray pl ls=true ->
  (∀f,B f w->XA P all C K m (ZO pl ls) f w)->XP P all C B pl f w->XA P all C K (pl.length+m) ls f w
 | [],ls,f,w,hC,T,G,h=>by
  simp only[XP]at h;rw[List.length_nil,LT];exact G f h
 | (I,q)::pl,ls,f,w,hC,T,G,h=>by
  simp only[XQ,oI]at T;obtain⟨⟨⟨rfl,hr⟩,hf⟩,Y⟩:=T;simp only[XP]at h;have U:I∈Region.ready .any all.toArray ls:=by simpa using hr
  have e:(oY ((I,true)::pl))+m=(pl.length+m)+1:=by simp;omega
  rw[e];cases E:all[I]? with
  | none =>
   exfalso;obtain⟨_,o,he,_⟩:=mem_ready.1 U;simp[E]at he
  | some o =>
   rw[ZD E]at h;have ha:∀(j:Nat) (o:Oper) cs b,all[j]?=some o->o.op≠.select cs b:=λj o cs b V=>Region.noSelect_spec S j o cs b (ou V);have hc:=λj oj V=>Region.free_spec (ops:=all.toArray) (md:=.any) (i:=I) (oi:=o) (listed:=ls) (ou E) hf j oj (ou V);cases J:Z3 all f o with
   | false =>
    rw[J]at h;exact JW (v:=undef) (D:=λw=>yc o=true->C w) E (λ_ h=>h) ha _ ls f w (λ_=>hC) hc U (.inr ⟨J,O⟩) (Yx S pl _ _ _ hC Y G h)
   | true =>
    rw[J]at h;simp only[cond_true]at h;obtain⟨v,hv,hx⟩:=h;exact JW (v:=v) (D:=λw=>yc o=true->C w) E (λ_ h=>h) ha _ ls f w (λ_=>hC) hc U (.inl ⟨J,hv⟩) (Yx S pl _ _ _ hC Y G hx)
theorem Vo (E:Region.noSelect all.toArray=true):∀(t:Pt) (ls:Array Bool) (f:Fr) (w:OX),ls.size=all.length->C w->QgP all.toArray t ls=true->XT P all C K t f w->XA P all C K t.len ls f w
 | .pl l,ls,f,w,I,hC,G,h=>Yi E l ls f w I (.inl hC) G h
 | .fk pre i j t1 t2,ls,f,w,I,hC,G,h=>by
  simp only[QgP,oI,beq_iff_eq]at G;obtain⟨⟨⟨⟨hq,J⟩,hl⟩,h1⟩,h2⟩:=G;rw[Pt.len];refine Yx (B:=λf w=>(Z3 all f (QR all i)=true/\XO P (QR all i) f w λS w'=>C w'/\XT P all C K t1 S w') /\
   (Z3 all f (QR all j)=true/\XO P (QR all j) f w λS w'=>C w'/\XT P all C K t2 S w')) E pre ls f w hC hq (λf T=>?_) h
  have U:∀k,((ZO pre ls).setIfInBounds k true).size=all.length:=λk=>by simp[YB,I]
  rw[MT 1];refine JC (λh0=>(by rw[h0]at J;cases J)) ?_;rw[J];intro k V o Y;simp only[oJ,oH,or_false]at V;rcases V with rfl|rfl
  ·have:=T.1;rw[ZD Y]at this;rw[this.1,cond_true];exact this.2.Y λv w' hx=>⟨.inr (.inr hx.1),Vo E t1 _ _ _ (U _) hx.1 h1 hx.2⟩
  have:=T.2;rw[ZD Y]at this;rw[this.1,cond_true,hl];exact this.2.Y λv w' hx=>⟨.inr (.inr hx.1),Vo E t2 _ _ _ (U _) hx.1 h2 hx.2⟩
end
theorem YN.lt_of {a:Int}(h:YN (a::l)){x:Int}(hx:x∈l):a<x:=(L2.1 h).1 x hx
theorem YN.tail {a:Int}(h:YN (a::l)):YN l:=(L2.1 h).2
theorem Qkh (keep:Bool->Bool->Bool):∀(n:Nat) (a b:LI),a.length+b.length<=n->YN a->YN b->∀x,x∈mrg keep a b↔(x∈a\/x∈b)/\keep (decide (x∈a)) (decide (x∈b))=true:=by
 intro n;induction n with
 | zero =>
  intro a b h _ _ x;have U:a=[]:=Lu oa;have hb:b=[]:=Lu oa;subst U hb;simp[J8]
 | succ n ih =>
  intro a b I ia ib x;cases a with
  | nil =>
   cases b with
   | nil=>simp[J8]
   | cons y b =>
    rw[JS keep od];have:=ih [] b (by simp at I ⊢;omega) ia ib.tail x;have G:y∉b:=λh=>oo (ib.lt_of h)
    simp only[XS,tl,hx,cond_true,cond_false,Oe,Ob,oV];rw[this];by_cases e:x=y
    ·subst e;cases E:keep false true <;> simp[E,G]
    cases keep false true <;> simp[e]
  | cons u a =>
   cases b with
   | nil =>
    rw[JS keep od];have:=ih a [] (by simp at I ⊢;omega) ia.tail ib x;have G:u∉a:=λh=>oo (ia.lt_of h)
    simp only[XS,tl,hx,cond_true,cond_false,Oe,Ob,oV];rw[this];by_cases e:x=u
    ·subst e;cases E:keep true false <;> simp[E,G]
    cases keep true false <;> simp[e]
   | cons y b =>
    rw[JS keep od];have T:u∉a:=λh=>oo (ia.lt_of h)
    have G:y∉b:=λh=>oo (ib.lt_of h)
    rcases Int.lt_trichotomy u y with J|J|J
    ·have S:u∉y::b:=λh=>by
      rcases Ll.1 h with h|h
      ·omega
      have:=ib.lt_of h;omega
     have:=ih a (y::b) (by simp at I ⊢;omega) ia.tail ib x;have e1:decide (u<=y)=true:=OT oa;have e2:decide (y<=u)=false:=OV oa;simp only[XS,tl,hx,e1,e2,cond_true,cond_false,Oe,Ob,oV];rw[this];by_cases e:x=u
     ·subst e;cases E:keep true false <;> simp[E,T,S]
     cases keep true false <;> simp[e]
    ·subst J;have:=ih a b (by simp at I ⊢;omega) ia.tail ib.tail x;have e1:decide (u<=u)=true:=OT oa;simp only[XS,tl,hx,e1,cond_true,Oe,Ob,oV];rw[this];by_cases e:x=u
     ·subst e;cases E:keep true true <;> simp[E,T,G]
     cases keep true true <;> simp[e]
    have S:y∉u::a:=λh=>by
     rcases Ll.1 h with h|h
     ·omega
     have:=ia.lt_of h;omega
    have:=ih (u::a) b (by simp at I ⊢;omega) ia ib.tail x;have e1:decide (u<=y)=false:=OV oa;have e2:decide (y<=u)=true:=OT oa;simp only[XS,tl,hx,e1,e2,cond_true,cond_false,Oe,Ob,oV];rw[this];by_cases e:x=y
    ·subst e;cases E:keep false true <;> simp[E,G,S]
    cases keep false true <;> simp[e]
theorem qq {keep:Bool->Bool->Bool}{a b:LI}(ia:YN a)(ib:YN b)(x:Int):x∈mrg keep a b↔(x∈a\/x∈b)/\keep (decide (x∈a)) (decide (x∈b))=true :=
 Qkh keep _ a b (Lp _) ia ib x
def setK (m k:Nat):LI:=((oN 0 k).filter λi=>decide (((m / 2 ^ i) &&& 1)=1)).map λi:Nat=>(i:Int)
theorem yy (m k:Nat):setK m (k+1)=if(m / 2 ^ k) &&& 1=1 then setK m k++[(k:Int)]else setK m k:=by
 unfold setK;rw[MM,LR,Lv,LT];by_cases h:(m / 2 ^ k) &&& 1=1
 ·rw[OQ h,L6,OQ (OT h)];rfl
 rw[OP h,L6,OP (by rw[OV h];simp),MU,Nh,LH]
theorem Vy (m:Nat):∀k,(setK m k).length<=k
 | 0=>by simp[setK]
 | k+1=>by
  have:=Vy m k;rw[yy];split
  ·simp;omega
  omega
theorem QaO (m k:Nat):YN (setK m k):=by
 unfold setK YN;rw[L7];refine List.Pairwise.sublist MO ?_;exact(Nd (s:=0) (n:=k)).imp (λh=>oa)
instance ayCx1:Ay sV 183 4 5 1:=⟨oc,oc⟩
theorem U3 {e bys:Nat}[h:Sl P t e sz bys z]{v:OY}(E:w.ownsRow base e sz v n cs):
  (Builtin.append_ #[t,t] ty #[v,nS]).run P w=.ok v w:=by
 obtain⟨i,hi,_,I,_⟩:=Sl.info h;rcases E.2 with⟨rfl,rfl⟩|⟨g,cap,cur,rfl,J,S,G,T,U,V⟩
 ·simp[Builtin.append_,run_underlying h.u,sizeOf,typeInfo,hi,Builtin.lenOf,Builtin.firstCells]
 simp[Builtin.append_,run_underlying h.u,sizeOf,typeInfo,hi,Builtin.lenOf,Builtin.firstCells,G,storeCells]
theorem jK {e bys:Nat}[h:Sl P t e sz bys z]{s:OZ}{v:OY}(E:w.ownsRow base e sz v n cs)(G:ev f s=v)
  {I:OY}  {news:LV}  (hA:Zs L ↑w I m sz news) (J:ev f y=I) (S:∀u∈news,u.oneCell'=true)
  (hb:n+m<=1099511627776) (T:base<=↑w)
  (hK:∀v' w',w'.ownsRow base e sz v' (n+m) (cs++news)->O1 (ob v) w w'->(∀b∈ob v',b∈ob v\/↑w<=b)->K (QO f d v') w') (U:bys<=128:=by decide):
  XO P ⟨d,.call ⟨.builtin .append,#[s,y],#[t,t]⟩,ty,pS,af,gd⟩ f w K:=by
 rcases hA.2.2 with⟨e1,e2⟩|⟨a,c,e1,_,e3⟩
 ·subst e2;have V:news=[]:=Lu (by have:=hA.1;simpa using this);subst V;have Y:(execOp (ev f) ⟨d,.call ⟨.builtin .append,#[s,y],#[t,t]⟩,ty,pS,af,gd⟩).run P w=.ok (.value v) w:=by
   simp[execOp,resolve,invoke,builtin,G,J,e1,U3 (ty:=ty) E]
  exact xv Y (hK v w (ou E) (O1.Z _ _) (λb hb=>.inl hb))
 exact Q2 E G (J.D e1) hA.1 e3 S hb T hK U
theorem Qed {v:OY}(h:Qt L ↑w v l)(x:Int):
  QT sV 274 [v,sS x] w λr w'=>r=.bool (decide (x∈l))/\w'=w:=by
 have U:=h.le;refine Zn func274 ?_;refine Qc<|Lg.Qb<|Qe<|Qc<|Lg.Qb<|QW (α:=Nat) [(4,17)] (λk=>[(5,sS k)]) (λk w'=>w'=w/\k<=l.length/\(x∈l↔x∈l.drop k)) (λk=>l.length - k) 0 La ⟨O,Ln _,od⟩ ?_;rintro k g w' ⟨rfl,V,G⟩;refine Qe<|Qc<|Lg.Qa<|Lg.Qa<|Lg.x (YH h O)<|Lg.ZX O O<|xe<|Zp rfl (λS=>?_) (λS=>?_)
 ·refine Qu<|Qc<|Lg.Qb<|Qj ⟨[.bool false],La,?_,O⟩;rw[Ls oa]at G;simp[tup,G]
 have J:k<l.length:=oa
 have hd:=QX J;refine Qf<|Qe<|Qn<|Qc<|Lg.Qa<|Lg.Qa<|xii h O O J λY T=>Lg.x (Qq T O)<|Lg.Qa<|Lg.x (Q6 O O)<|xe<|Za rfl (λI=>?_) (λI=>?_)
 ·refine Qc<|Lg.Qb<|Qj ⟨[.bool true],La,?_,O⟩;have:x∈l:=by rw[G,hd,I];exact Lo
  simp[tup,this]
 refine Qf<|Qs<|Lg.Qa<|Lg.QC O O<|Lg.Qb<|⟨k+1,oa,La,O,oa,?_⟩;rw[G,hd,Ll];exact⟨λh=>h.resolve_left (λe=>I e.symm),.inr⟩
theorem QaF (h:Ua L ↑w ve a.ed)(s e:Int)(st:Int):
  QT sV 275 [.agg #[va,sS st,vm,ve],sS s,sS e] w λr w'=>r=sS (O8 a.ed s e)/\sW w w':=by
 have hg:=h.le;refine Zn func275 ?_;refine Qc<|Zd [va,sS st,vm,ve] λb3 V S hh G=>Lg.Qb ?_
 replace h:=h.I S;refine Qe<|Qc<|Lg.Qb<|QW (α:=Nat) [(6,38)] (λk=>[(7,sS k)]) (λk w'=>w'=V/\k<=a.ed.length/\O8 (a.ed.drop k) s e=O8 a.ed s e) (λk=>a.ed.length - k) 0 La ⟨O,Ln _,O⟩ ?_;rintro k g Y ⟨rfl,hk,I⟩;refine Qe<|Qc<|Lg.Qa<|Lg.Q7 O<|Lg.x (Qk G O O)<|Lg.x (YH h O)<|Lg.ZX O O<|xe<|Zp rfl (λha=>?_) (λha=>?_)
 ·refine Qu<|Qc<|Lg.Qb<|Qj ⟨[sS (-1)],La,?_,S⟩;rw[Ls oa]at I;rw[<-I];rfl
 have J:k<a.ed.length:=oa
 have hd:=QX J;refine Qf<|Qe<|Qn<|QV (α:=Bool) [(15,32)] (λz=>[(32,.bool z)]) (λz w'=>w'=Y/\z=decide (a.ed[k].1=s/\a.ed[k].2.1=e)) oh ?_ ?_
 ·refine Qs<|Lg.Q7 O<|Lg.x (Qk G O O)<|Lg.Qa<|xie h O O J λhj hc=>Lg.x (ZN O)<|Lg.x (Qq (hc.fld 0 _ O) O) <|
   Lg.Qa<|xb (Q6 O O) (λT=>?_) (λT=>?_)
  ·refine Lg.Qa<|Lg.Q7 O<|Lg.x (Qk G O O)<|Lg.Qa<|xie h O O J λhl he=>Lg.x (ZN O)<|Lg.x (Qq (he.fld 1 _ O) O) <|
    Lg.Qa<|Lg.x (Q6 O O)<|Lg.QA O<|xe ?_
   exact⟨_,La,O,by simp[T]⟩
  refine Lg.Qa<|Zy<|Zy<|YD<|Lg.QA O<|xe ?_;exact⟨_,La,O,by simp[T]⟩
 rintro z g w3 ⟨rfl,rfl⟩;refine Za rfl (λU=>?_) (λU=>?_)
 ·refine Qc<|Lg.Q7 O<|Lg.x (Qk G O O)<|Lg.Qa<|xie h O O J λhm hf=>Lg.x (ZN O)<|Lg.x (Qq (hf.fld 2 _ O) O) <|
   Lg.Qb<|Qj ⟨[sS a.ed[k].2.2],La,?_,S⟩
  rw[<-I,hd,O8,OQ U];rfl
 refine Qf<|Qs<|Lg.Qa<|Lg.QC O O<|Lg.Qb<|⟨k+1,oa,La,O,oa,?_⟩;rw[<-I,hd,O8,OP U]
def ixR (l:LI)(n:Int):Int:=if n∈l then(l.idxOf n:Int)else -1
theorem QhI {n:Int}{k:Nat}(h:n∉l.take k)(G:k<l.length)(I:O2 l k=n):ixR l n=k:=by
 have J:n∈l:=by rw[<-I,<-Zu G];exact Lk G
 unfold ixR;rw[OQ J];have S:l=l.take k++l.drop k:=(MF k l).symm;have:l.idxOf n=k:=by
  rw[S,Mh,OP h,L5 G,List.idxOf_cons,show l[k]=n by rw[Zu G];exact I];simp;omega
 rw[this]
theorem Qfn {v:OY}(h:Qt L ↑w v l)(n:Int):
  QT sV 276 [v,sS n] w λr w'=>r=sS (ixR l n)/\w'=w:=by
 have U:=h.le;refine Zn func276 ?_;refine Qc<|Qb<|Qe<|Qc<|Qb<|QW (α:=Nat) [(4,18)] (λz=>[(5,sS z)]) (λz w'=>w'=w/\z<=l.length/\n∉l.take z) (λz=>l.length - z) 0 La ⟨O,Ln _,od⟩ ?_;rintro k g V ⟨rfl,Y,I⟩;refine Qe<|Ql<|Qa<|QG h O<|ZX O O<|xe<|Zp rfl (λS=>?_) (λS=>?_)
 ·refine Qu<|Qc<|Qb ?_;rw[Lq oa]at I;exact Qj ⟨[sS (-1)],La,by unfold ixR;rw[OP I];rfl,O⟩
 have G:k<l.length:=oa
 refine Qf<|Qe<|Qn<|Ql<|Qa<|xic (i:=k) h O O G λha T=>x (Qq T O)<|Qa<|x (Q6 O O)<|xe<|Za rfl (λJ=>?_) (λJ=>?_)
 ·refine Ql<|Qb<|Qj ⟨[sS k],La,by rw[QhI I G J];rfl,O⟩
 refine Qf<|Qs<|Qa<|QC O O<|Qb<|⟨k+1,oa,La,O,G,?_⟩;rw[Lh G,Zu G];simp only[oV,oF,not_or];exact⟨I,λe=>J e.symm⟩
theorem UB {v:OY}(h:Qt L ↑w v l)(hl:l.length<=1000000):
  QT sV 235 [v] w λr w'=>sW w w'/\∃va,r=.agg #[va,sS 0,nS,nS]/\Qh 3 ↑w w' va l:=by
 refine Zn func235 ?_;refine Qc<|QP [nS,sS 0,nS,nS] λb2 G U he V=>xe ?_;have hf:=U.size;have hg:=V.lt;refine Qc<|Qo<|QcE λb3 w2 I hh hj=>Qa<|?_;have Y:=U.D I;have hq:=I.size;have J:w2.ownsRow ↑G 3 1 (sL b3 0 0) 0 []:=hj.own (n:=0) (sz:=1) O oa hh;refine Qo<|jK J O (h.I Y) O (VJ l) oa oa λva S hk ha hr=>?_;have T:Qh 3 ↑G S va l:=by
  have:S.ownsRow ↑G 3 1 va (0+l.length) ([]++l.map (.int .i64)):=hk;rw[LT,Mx]at this;exact this
 have hA:=Qh.ints (L:=[]) T oa od;have hm:=(V.I I).J ha (QJ J hg);have hn:sW w S:=Y.S ha (λb hb=>.inr (oo (Qi J b hb).1));refine x (QB ⟨hA.cells,Z⟩)<|Q0 [va,sS 0,nS,nS] hm ⟨hA.one,O,O,O,Z⟩ λw4 hc ho=>xe ?_;have hp:=Qg T hc (λb hb=>by have:=(Qi T b hb).1;simp;omega);exact Qj ⟨[.agg #[va,sS 0,nS,nS]],⟨Jm ho,Z⟩,hn.O hc he,va,O,Q8 hp hf⟩
theorem xD:∀(n:Nat) (l:LI),l.Nodup->(∀x∈l,0<=x/\x<n)->l.length<=n
 | 0,l,_,h=>by
  cases l with
  | nil=>simp
  | cons a l=>have:=h a Lo;omega
 | n+1,l,hd,h=>by
  by_cases G:(n:Int)∈l
  ·have J:=xD n (l.erase (n:Int)) (hd.erase _) (λx hx=>by
    have I:=(List.Nodup.mem_erase_iff hd).1 hx;have S:=h x I.2;have T:x≠(n:Int):=I.1;omega)
   rw[List.length_erase_of_mem G]at J;omega
  have:=xD n l hd (λx hx=>by
   have S:=h x hx;have T:x≠(n:Int):=λe=>G (by rw[<-e];exact hx);omega)
  omega
def fdE (a:QF)(s:Int)(out:LI)(v:Int):LI:=if 0<=O8 a.ed s v/\O8 a.ed s v∉out then out++[O8 a.ed s v]else out
def fdR (a:QF)(out:LI)(s:Int):LI:=a.al.foldl (fdE a s) out
def fdL (a:QF):Nat->Nat->LI->LI
 | 0,_,out=>out
 | f+1,i,out=>if i<out.length then fdL a f (i+1) (fdR a out (O2 out i))else out
def fd0 (a:QF):LI:=if 0<a.st then[0]else[]
def xh (a:QF):LI:=fdL a a.st.toNat 0 (fd0 a)
structure qd (a:QF)(out:LI):Prop where
 b:∀x∈out,0<=x/\x<a.st
 d:out.Nodup
theorem qd.len {out:LI}(h:qd a out)(G:0<=a.st):out.length<=a.st.toNat:=xD _ _ h.d (λx hx=>oo (h.b x hx))
theorem jL {v:Int}(h:0<=O8 es s v):(s,v,O8 es s v)∈es:=by
 induction es with
 | nil=>simp[O8]at h
 | cons e es ih =>
  rw[O8]at h ⊢;split at h
  ·rename_i G;rw[OQ G];obtain⟨p,q,r⟩:=e;obtain⟨I,J⟩:=G;subst I J;exact Lo
  rename_i G;rw[OP G];exact Lm _ (ih h)
theorem Qib (J:Zb a){out:LI}(h:qd a out)(s v:Int):qd a (fdE a s out v):=by
 unfold fdE;split
 ·rename_i G;have S:=J.ed _ (jL G.1);refine⟨λx hx=>?_,?_⟩
  ·rcases Le.1 hx with hx|hx
   ·exact h.b x hx
   simp only[oF]at hx;subst hx;exact⟨G.1,S.2.2.2.2⟩
  rw[Mr];refine⟨h.d,od,λx hx y I=>?_⟩;simp only[oF]at I;subst I;exact λe=>G.2 (by rw[<-e];exact hx)
 exact h
theorem QkV {out:LI}{v:Int}:∀x∈out,x∈fdE a s out v:=λx hx=>by unfold fdE;split;exact L8 _ hx;exact hx
theorem Qm9 {out:LI}{v:Int}(h:0<=O8 a.ed s v):O8 a.ed s v∈fdE a s out v:=by
 unfold fdE;by_cases G:O8 a.ed s v∈out
 ·rw[OP (λe=>e.2 G)];exact G
 rw[OQ ⟨h,G⟩];simp
theorem Qh9 {a:QF}(G:Zb a)(s:Int):∀(vs:LI) (out:LI),qd a out->qd a (vs.foldl (fdE a s) out)
 | [],_,h=>h
 | v::vs,_,h=>Qh9 G s vs _ (Qib G h s v)
theorem Qaa {a:QF}{s:Int}:∀(vs:LI) (out:LI),∀x∈out,x∈vs.foldl (fdE a s) out
 | [],_,_,hx=>hx
 | _::vs,_,x,hx=>Qaa vs _ x (QkV x hx)
theorem Qia {a:QF}{s:Int}:∀(vs:LI) (out:LI),∀v∈vs,0<=O8 a.ed s v->O8 a.ed s v∈vs.foldl (fdE a s) out
 | v::vs,out,u,G,h=>by
  rcases Ll.1 G with rfl|G
  ·exact Qaa vs _ _ (Qm9 h)
  exact Qia vs _ u G h
theorem Qeh {a:QF}{s:Int}:∀(vs:LI) (out:LI),∃r,vs.foldl (fdE a s) out=out++r
 | [],out=>⟨[],od⟩
 | v::vs,out=>by
  obtain⟨r,G⟩:=Qeh (a:=a) (s:=s) vs (fdE a s out v);rw[LO,G];unfold fdE;split
  ·exact⟨[O8 a.ed s v]++r,od⟩
  exact⟨r,O⟩
theorem zM {r:LI}(h:i<l.length):O2 (l++r) i=O2 l i:=by
 rw[<-Zu h,<-Zu (by simp;omega),Mi h]
def Cl (a:QF)(out:LI)(i:Nat):Prop:=∀j,j<i->j<out.length->∀v∈a.al,0<=O8 a.ed (O2 out j) v->O8 a.ed (O2 out j) v∈out
theorem Cl.next {out:LI}(h:Cl a out i)(hi:i<out.length):Cl a (fdR a out (O2 out i)) (i+1):=by
 intro j U V v I G;obtain⟨r,T⟩:=Qeh (a:=a) (s:=O2 out i) a.al out;have J:fdR a out (O2 out i)=out++r:=T;have S:j<out.length:=oa
 rw[J,zM S]at G ⊢;by_cases e:j=i
 ·subst e;have:=Qia a.al out v I G;rw[<-J];exact this
 exact L8 _ (h j oa S v I G)
theorem Qh8 {a:QF}(I:Zb a):∀(f i:Nat) (out:LI),qd a out->Cl a out i->i+f=a.st.toNat->qd a (fdL a f i out)/\Cl a (fdL a f i out) (fdL a f i out).length
 | 0,i,out,h,G,T=>by
  have:=h.len I.st0;exact⟨h,λj S J=>G j (by rw[fdL]at S;omega) J⟩
 | f+1,i,out,h,G,T=>by
  rw[fdL];split
  ·rename_i hi;exact Qh8 I f (i+1) _ (Qh9 I _ _ _ h) (G.next hi) oa
  rename_i hi;exact⟨h,λj S J=>G j oa J⟩
theorem Qic (a:QF):qd a (fd0 a):=by
 unfold fd0;split
 ·rename_i h;exact⟨λx hx=>by simp only[oF]at hx;subst hx;exact⟨oa,h⟩,od⟩
 exact⟨od,od⟩
theorem Qbm (J:Zb a):qd a (xh a)/\∀s∈xh a,∀v∈a.al,0<=O8 a.ed s v->O8 a.ed s v∈xh a:=by
 obtain⟨S,T⟩:=Qh8 J a.st.toNat 0 (fd0 a) (Qic a) (λj G=>oa) oa;refine⟨S,λs U v V I=>?_⟩;obtain⟨j,G,rfl⟩:=LM U;have:=T j G G v V;unfold xh at G I ⊢;rw[Zu G]at I ⊢;exact this I
def yh (a:QF)(fd:LI)(i:Nat)(v:Int):Option Ed:=if 0<=O8 a.ed (O2 fd i) v then some ((i:Int),v,ixR fd (O8 a.ed (O2 fd i) v))else none
def Vm (a:QF)(fd:LI)(n:Nat):LI:=((oN 0 n).filter λi=>decide (O2 fd i∈a.mr)).map λi:Nat=>(i:Int)
def UH (a:QF)(fd:LI)(n:Nat):List Ed:=(oN 0 n).flatMap λi=>a.al.filterMap (yh a fd i)
def JU (a:QF):QF:=⟨a.al,(xh a).length,Vm a (xh a) (xh a).length,UH a (xh a) (xh a).length⟩
theorem XR {β:Type}{r:Int->Int->Prop}{q:β->β->Prop}{g:Int->Option β}(G:∀x y u v,r x y->g x=some u->g y=some v->q u v):∀{l:LI},l.Pairwise r->(l.filterMap g).Pairwise q
 | [],_=>od
 | x::l,h=>by
  obtain⟨J,I⟩:=L2.1 h;rw[Mw];split
  ·exact XR G I
  rename_i u S;refine L2.2 ⟨λv T=>?_,XR G I⟩;obtain⟨y,U,V⟩:=MW.1 T;exact G x y u v (J y U) S V
theorem Qez (I:Zb a):Zb (JU a)/\(JU a).al=a.al/\(JU a).st<=a.st:=by
 obtain⟨Y,h2⟩:=Qbm I;have hl:=Y.len I.st0;have h0:=I.st0;have h4:=I.st1;refine⟨⟨I.al,I.ali,by simp[JU],by simp only[JU];omega,λs U=>?_,?_,λe S=>?_,?_⟩,O,by simp only[JU];omega⟩
 ·simp only[JU,Vm,OF,Ow,Oy]at U;obtain⟨i,⟨hi,_⟩,rfl⟩:=U;simp only[JU];omega
 ·simp only[JU,Vm];unfold YN;rw[L7];refine List.Pairwise.sublist MO ?_;exact(Nd (s:=0) (n:=(xh a).length)).imp (λh=>oa)
 ·simp only[JU,UH,List.mem_flatMap,List.mem_filterMap,Oy]at S;obtain⟨i,⟨_,hi⟩,v,J,G⟩:=S;unfold yh at G;split at G
  ·rename_i hn;cases G
   have hi':i<(xh a).length:=oa
   have V:=h2 (O2 (xh a) i) (by rw[<-Zu hi'];exact Lk hi') v J hn;have hx:=MG V;simp only[JU];unfold ixR;rw[OQ V];exact⟨oa,oa,J,oa,oa⟩
  cases G
 simp only[JU,UH];have key:∀(is:LN),is.Pairwise (·<·)->(is.flatMap λi=>a.al.filterMap (yh a (xh a) i)).Pairwise λx y:Ed=>x.1<y.1\/(x.1=y.1/\x.2.1<y.2.1):=by
  intro is;induction is with
  | nil=>intro _;simp
  | cons i is ih =>
   intro hp;obtain⟨p1,p2⟩:=L2.1 hp;rw[LK,Mj];have from_i:∀(i:Nat) (e:Ed),e∈a.al.filterMap (yh a (xh a) i)->e.1=i:=by
    intro i e S;obtain⟨v,_,G⟩:=MW.1 S;unfold yh at G;split at G
    ·cases G;rfl
    cases G
   refine⟨?_,ih p2,λe S e' ha=>?_⟩
   ·refine XR (r:=(·<·)) (λx y u v hc T J=>?_) I.ali;unfold yh at T J;split at T
    ·cases T;split at J
     ·cases J;exact .inr ⟨O,hc⟩
     cases J
    cases T
   obtain⟨j,hj,hg⟩:=Mb.1 ha;have e1:=from_i i e S;have e2:=from_i j e' hg;have:=p1 j hj;left;omega
 exact key _ (Nd (s:=0) (n:=(xh a).length))
theorem Qfp (h:Zr L ↑w va vm ve a)(ho:Zb a):
  QT sV 273 [.agg #[va,sS a.st,vm,ve]] w λr w'=>sW w w'/\Qh 3 ↑w w' r (xh a):=by
 have h0:=ho.st0;have h1:=ho.st1;have hV:=ho.al_le;refine Zn func273 ?_;refine Qc<|Zd [va,sS a.st,vm,ve] λb1 U hj hW hv=>Qb<|Qc<|Qb ?_;have hA:=hj.size;refine QV (α:=OY) [(3,3),(7,12)] (λz=>[(3,z)]) (λz w'=>sW U w'/\Qh 3 ↑U w' z (fd0 a)) oh ?_ ?_
 ·refine Qc<|Qr O hv O O<|x (Z2 O O)<|xe<|Zp O (λh9=>?_) (λh9=>?_)
  ·refine Qf ?_;exact⟨nS,La,O1.Z _ _,by unfold fd0;rw[OP h9];exact QM _ _ _ _⟩
  refine Qs<|Qa<|Qo<|Q5 [[sS 0]] λb11 w2 hw hX hB=>?_;have hn:w2.ownsRow ↑U 3 1 (nS) 0 []:=QM _ _ _ _;have hY:=hw.size;refine Qo<|Q2 (news:=[sS 0]) (L:=[]) hn O O O (hB.at od) om oa oa λv3 w3 hC hD hZ =>
   Qb<|⟨v3,La,hw.S hD (λb hb=>by simp[ob]at hb),?_⟩
  unfold fd0;rw[OQ h9];exact hC
 rintro v0 g4 w4 ⟨hE,hF⟩;refine Zf (xh a) λT hT=>?_;have hG:fdL a a.st.toNat 0 (fd0 a)=T:=hT;refine Qe<|Qc<|Qb<|QW (α:=Nat×LI×OY) [(3,6),(13,48)] (λz=>[(3,z.2.2),(4,sS z.1)])
  (λz w'=>sW U w'/\Qh 3 ↑U w' z.2.2 z.2.1/\qd a z.2.1/\z.1<=z.2.1.length/\fdL a (a.st.toNat - z.1) z.1 z.2.1=T) (λz=>a.st.toNat - z.1) (0,fd0 a,v0) ov
  ⟨hE,hF,Qic a,Ln _,hG⟩ ?_
 rintro⟨i,out,v⟩ g5 w5 ⟨hl,Y,G,hi,ha⟩;simp only[]at Y G hi ha;have hy:=G.len h0;have hz:=Qh.ints (L:=[]) Y oa od;refine Qe<|Ql<|Qa<|QG hz O<|ZX O O<|xe<|Zp rfl (λh2=>?_) (λh2=>?_)
 ·have e:out=T:=by
   rw[<-ha];generalize a.st.toNat - i=f;cases f with
   | zero=>rfl
   | succ f=>rw[fdL,OP oa]
  refine Qu<|Ql<|Qb ?_;rw[e]at Y;exact Qj ⟨[v],La,hj.D hl,by rw[hT];exact Q8 Y hA⟩
 have J:i<out.length:=oa
 have hH:a.st.toNat - i=(a.st.toNat - (i+1))+1:=oa
 rw[hH,fdL,OQ J]at ha;refine Zf (O2 out i) λs S=>?_;rw[S]at ha;refine Zf (fdR a out s) λR hR=>?_;rw[hR]at ha;unfold fdR at hR;refine Qf<|Qe<|Qn<|Qc<|Qb<|QW (α:=Nat×LI×OY) [(3,3),(5,6),(19,48)] (λz=>[(3,z.2.2),(5,sS z.1)])
  (λz w'=>sW U w'/\Qh 3 ↑U w' z.2.2 z.2.1/\qd a z.2.1/\z.1<=a.al.length/\i<z.2.1.length/\O2 z.2.1 i=s/\(a.al.drop z.1).foldl (fdE a s) z.2.1=R) (λz=>a.al.length - z.1) (0,out,v) ov
  ⟨hl,Y,G,Ln _,J,S,hR⟩ ?_
 clear hl Y G hi hy hz J S hR h2;rintro⟨k,out,v⟩ g6 w6 ⟨he,hf,G,hk,J,S,I⟩;simp only[]at hf G hk J S I;have hy:=G.len h0;have h3:=(h.al.I hj).I he;have hm:=hv.I he;have h4:=Qh.ints (L:=[]) hf oa od;refine Qe<|Ql<|Qr O hm O O<|QG h3 O<|ZX O O<|xe<|Zp rfl (λhI=>?_) (λhI=>?_)
 ·refine Qu<|Qs<|Qa<|QC O O<|Qb ?_;rw[Ls oa]at I;have hJ:out=R:=I;exact⟨(i+1,out,v),oe,ov,he,hf,G,J,by simp only[];rw[hJ];exact ha⟩
 have hg:k<a.al.length:=oa
 rw[L5 hg,LO,Zu hg]at I;refine Zf (O2 a.al k) λu hu=>?_;rw[hu]at I;have hK:=(h.ed.I hj).I he;refine Zf (O8 a.ed s u) λt ht=>?_;have hL:fdE a s out u=if 0<=t/\t∉out then out++[t]else out:=by unfold fdE;rw[ht]
 have hp:=Qib ho G s u;rw[hL]at I hp;refine Qf<|Qe<|Qn<|Qe<|ZJ [] (Y4 0 12 [10])<|pq (λ_ V=>Zj (hm.I V) O O)<|p Qy<|p Qy<|pic (i:=i) O h4 O O J λga h5=>?_;rw[S]at h5;refine pq (λ_ V=>Qq (h5.I V) O)<|p (QH O)<|pq (λ_ V=>Qk (hm.I V) O O)<|p Qy <|
  pic (i:=k) O h3 O O hg λgb h6=>?_
 rw[hu]at h6;have hsr:=QaF (va:=va) (vm:=vm) (a:=a) (hK.I (O1.C [] w6)) s u a.st;rw[ht]at hsr;refine pq (λ_ V=>Qq (h6.I V) O)<|pk<|xg<|hsr.Y ?_;rintro r7 w7 ⟨rfl,hM⟩;have hh:=(O1.C [] w6).D hM;refine⟨hh,p ZK<|pe ?_⟩;have h7:=Qm hf hh;have hN:=h4.I hh;refine QV (α:=Unit) [(37,44)] (λz=>[(44,.bool (decide (0<=t/\t∉out)))]) (λz w'=>w'=w7) oh ?_ ?_
 ·refine Qs<|Qa<|xb (Yd O O) (λhq=>?_) (λhq=>?_)
  ·refine Qa<|Qa<|Qa<|Qw<|(Qed hN t).Y ?_;rintro r8 w8 ⟨rfl,rfl⟩;refine x (Zh O)<|QA O<|xe<|⟨(),⟨OR Value.bool ?_,Z⟩,O⟩;show(!decide (t∈out))=_;rw[Bool.eq_iff_iff];simp[hq]
  refine Qa<|Zy<|J0<|QA O<|xe ?_;exact⟨(),⟨OR Value.bool (OV (λe=>hq e.1)).symm,Z⟩,O⟩
 rintro _ g9 w9 rfl;refine Zp rfl (λhr=>?_) (λhr=>?_)
 ·rw[OP hr]at I;refine Qf<|Qs<|Qa<|QC O O<|Qb<|⟨(k+1,out,v),oe,ov,he.D hh,h7,G,hg,J,S,I⟩
 rw[OQ hr]at I hp;have h8:=he.D hh;have gc:=h8.size;refine Qs<|Qa<|Qa<|Qo<|Q5 [[sS t]] λge gg hs gh hO=>?_;have hP:=Qm h7 hs;have gi:=hs.size;refine Qo<|Q2 (news:=[sS t]) (L:=[]) hP O O O (hO.at od) om oa oa λhQ gj hS hU gk =>
  Qb ?_
 have hge:=Qi hf;refine Qs<|Qa<|QC O O<|Qb<|⟨(k+1,out++[t],hQ),oe,ov,(h8.D hs).S hU (λb hb=>.inr (hge b hb).1),Qh.snoc hS,hp,hg,by simp;omega,?_,I⟩;simp only[];rw[zM J];exact S
structure CrI (w7:OX)(b4:Nat)(vcl:OY)(n:Int)(vm vd:OY)(M:LI)(E:List Ed)(w:OX):Prop where
 st:O1 [b4] w7 w
 B:QK ↑w b4 53 [vcl,sS n,vm,vd]
 m:Qh 3 ↑w7 w vm M
 e:Z6 179 ↑w7 w vd E
 dj:Dj vm vd
section
variable {w7 w'':OX}{b4:Nat}{vcl:OY}{n:Int}{vd:OY}{M:LI}{E:List Ed}
theorem CrI.I (h:CrI w7 b4 vcl n vm vd M E w)(G:sW w w'):CrI w7 b4 vcl n vm vd M E w':=⟨h.st.D G,h.B.I G,Qm h.m G,Qm h.e G,h.dj⟩
theorem CrI.setM (h:CrI w7 b4 vcl n vm vd M E w)(hb:b4<w7.heap.size){G:OY}{M':LI}(S:O1 (ob vm) w w')(T:Qh 3 ↑w7 w' G M')(U:∀b∈ob G,b∈ob vm\/↑w<=b)(I:O1 [b4] w' w'')
  (V:QK ↑w'' b4 53 [vcl,sS n,G,vd]):CrI w7 b4 vcl n G vd M' E w'' :=
 ⟨(h.st.S S (λb hb=>.inr (Qi h.m b hb).1)).Q I,V,Qg T I (λb J=>by have:=(Qi T b J).1;simp;omega),
  Qg (Qg h.e S h.dj.symm) I (λb J=>by have:=(Qi h.e b J).1;simp;omega),(h.dj.symm.grow U (QU h.e)).symm⟩
theorem CrI.setE (h:CrI w7 b4 vcl n vm vd M E w)(hb:b4<w7.heap.size){G:OY}{E':List Ed}(S:O1 (ob vd) w w')(T:Z6 179 ↑w7 w' G E')(U:∀b∈ob G,b∈ob vd\/↑w<=b)(I:O1 [b4] w' w'')
  (V:QK ↑w'' b4 53 [vcl,sS n,vm,G]):CrI w7 b4 vcl n vm G M E' w'' :=
 ⟨(h.st.S S (λb hb=>.inr (Qi h.e b hb).1)).Q I,V,Qg (Qg h.m S h.dj) I (λb J=>by have:=(Qi h.m b J).1;simp;omega),
  Qg T I (λb J=>by have:=(Qi T b J).1;simp;omega),h.dj.grow U (QU h.m)⟩
end
theorem y8 (a:QF)(fd:LI)(k:Nat):Vm a fd (k+1)=if O2 fd k∈a.mr then Vm a fd k++[(k:Int)]else Vm a fd k:=by
 unfold Vm;rw[MM,LR,Lv,LT];by_cases h:O2 fd k∈a.mr
 ·rw[OQ h,L6,OQ (OT h)];rfl
 rw[OP h,L6,OP (by rw[OV h];simp),MU,Nh,LH]
theorem QbN (a:QF)(fd:LI):∀k,(Vm a fd k).length<=k
 | 0=>by simp[Vm]
 | k+1=>by
  have:=QbN a fd k;rw[y8];split
  ·simp;omega
  omega
theorem QfB (a:QF)(fd:LI)(k:Nat):UH a fd (k+1)=UH a fd k++a.al.filterMap (yh a fd k):=by
 unfold UH;rw[MM,LC,LT];simp
theorem yg (h:Zr L ↑w va vm ve a)(U:Zb a):
  QT sV 236 [.agg #[va,sS a.st,vm,ve]] w λr w'=>sW w w'/\Y1 ↑w ↑w' r (JU a):=by
 have h1:=U.st1;have kq:=U.al_le;have hZ:=((Qbm U).1).len U.st0;refine Zn func236 ?_;refine Zf (xh a) λfd hr=>?_;rw[hr]at hZ;have ga:JU a=⟨a.al,fd.length,Vm a fd fd.length,UH a fd fd.length⟩:=by unfold JU;rw[hr]
 refine Qc<|Zd [va,sS a.st,vm,ve] λb1 w1 gb kr hs=>QP [nS,sS 0,nS,nS] λb2 w2 hv kt hC=>xe ?_;have V:=gb.D hv;have hfr:=Qfp (h.I V) U;rw[hr]at hfr;refine Qc<|QY (hs.I hv) O O<|Qw<|hfr.Y ?_;rintro vf w3 ⟨hm,gc⟩;refine Qb ?_;have hD:=V.D hm;have hE:=(hs.I hv).I hm;refine Qc<|Qr O hE O O<|Qw<|(UB (h.al.I hD) oa).Y ?_;rintro r4 w4 ⟨hF,vcl,rfl,Y⟩;have hG:=Qh.ints (L:=[]) Y oa od;refine QP [nS,sS 0,nS,nS] λb4 w5 ge gg gh =>
  Q0 [vcl,sS 0,nS,nS] gh ⟨hG.one,O,O,O,Z⟩ λw6 gi hH=>xe ?_
 have hw:sW w4 w6:=ge.O gi gg;have ha:=hF.D hw;have hJ:=Qh.ints (L:=[]) gc oa od;have ku:=hm.size;have kv:=hF.size;have kw:=hw.size;have kx:=hs.lt;have kz:=hC.lt;have k0:=hH.lt;refine Ql<|QG hJ O<|Q7 O<|Qo<|Qv (u:=sS fd.length) hH O O od rfl λw7 S gj=>xe ?_;have k4:=S.size;have k5:O1 [b4] w3 w7:=(ha.any (L:=[b4])).Q S;have hK:sW w w7:=(hD.D ha).O S oa;have hL:Qt [b4] ↑w7 vf fd:=((hJ.up (L':=[b4]) (λb hb=>.inr (by simp at hb;omega))).I ha).st S;have hz:Zr [b4] ↑w7 va vm ve a:=(h.up (λb hb=>.inr (by simp at hb;omega))).I hK;have gk:Qh 3 ↑w3 w7 vcl a.al:=Qg (Qm Y hw) S (λb hb=>by have:=QU Y b hb;simp;omega);have hM:=(hE.I ha).J S (by simp;omega);have he:b4<w7.heap.size:=oa
 have n1:b1∉[b4]:=by simp;omega
 have n2:b2∉[b4]:=by simp;omega
 refine Qe<|Qc<|Qb<|QW (α:=Nat×OY×OY) [(5,7),(16,69)] (λz=>[(5,sS z.1)])
  (λz w'=>z.1<=fd.length/\CrI w7 b4 vcl fd.length z.2.1 z.2.2 (Vm a fd z.1) (UH a fd z.1) w'/\(UH a fd z.1).length<=z.1*32) (λz=>fd.length - z.1) (0,nS,nS) La
  ⟨Ln _,⟨O1.Z _ _,gj,QM _ _ _ _,QM _ _ _ _,Dj.nil' _⟩,Ln _⟩ ?_
 rintro⟨i,v1,v2⟩ g8 w8 ⟨hi,hI,h0⟩;simp only[]at hi hI h0;have gl:=QbN a fd i;have hN:=hL.st hI.st;refine Qe<|Ql<|Qa<|QG hN O<|ZX O O<|xe<|Zp rfl (λgm=>?_) (λgm=>?_)
 ·have gn:i=fd.length:=oa
  rw[gn]at hI h0 gl;refine Qu ?_;have go:=Qh.ints (L:=[]) hI.m oa od;have gq:=Z6.eds (L:=[]) hI.e oa od;refine Qc<|QY hI.B O O<|Q0 [vcl,sS fd.length,v1,v2] ((((hC.I hm).I ha).J S (by simp;omega)).J hI.st n2) ⟨hG.one,O,go.one,gq.one,Z⟩ λw9 hn gr=>xe ?_;refine Qj ⟨[.agg #[vcl,sS fd.length,v1,v2]],⟨Jm gr,Z⟩,(hK.O hI.st oa).O hn oa,?_⟩;rw[ga];have k1:=Qg (Qg gk hI.st (λb hb=>by have:=QU Y b hb;simp;omega)) hn (λb hb=>by have:=(Qi Y b hb).1;simp;omega);have k2:=Qg hI.m hn (λb hb=>by have:=(Qi hI.m b hb).1;simp;omega);have k3:=Qg hI.e hn (λb hb=>by have:=(Qi hI.e b hb).1;simp;omega);refine⟨vcl,v1,v2,O,λL' h2=>⟨?_,?_,?_⟩⟩
  ·exact Qh.ints k1 (by show a.al.length<=_;omega) (λb hb=>oo (h2 b hb))
  ·exact Qh.ints k2 (by show(Vm a fd fd.length).length<=_;omega) (λb hb=>oo (h2 b hb))
  exact Z6.eds k3 (by show(UH a fd fd.length).length<=_;omega) (λb hb=>oo (h2 b hb))
 have h3:i<fd.length:=oa
 refine Zf (O2 fd i) λs hp=>?_;have hf:=y8 a fd i;rw[hp]at hf;refine Qf<|Qe<|Qn<|QV (α:=OY) [(22,34)] (λz=>[]) (λz w'=>CrI w7 b4 vcl fd.length z v2 (Vm a fd (i+1)) (UH a fd i) w') oh ?_ ?_
 ·have gs:=hz.st hI.st;have gt:=hM.J hI.st n1;refine Qe<|ZJ [] (Y4 0 7 [6])<|p (QH O)<|pq (λ_ G=>Qk (gt.I G) O O)<|p Qy<|p Qy<|pic (i:=i) O hN O O h3 λk6 hO=>?_;rw[hp]at hO;refine pq (λ_ G=>Qq (hO.I G) O)<|pk<|xg<|(Qed (gs.mr.I (O1.C [] w8)) s).Y ?_;rintro k9 ma ⟨rfl,rfl⟩;have h4:=hI.I (O1.C [] w8);refine⟨O1.C _ _,pe ?_⟩;refine Zp O (λh5=>?_) (λh5=>?_)
  ·rw[OP h5]at hf;refine Qf ?_;exact⟨v1,Z,by rw[hf];exact h4⟩
  rw[OQ h5]at hf;refine Qs<|Qr O h4.B O O<|Qa<|Qo<|Q5 [[sS i]] λmc mf gu mg gv=>?_;have hg:=h4.I gu;refine Qo<|Q2 (news:=[sS i]) (L:=[]) hg.m O O O (gv.at od) om oa hg.st.size λhP gx gy V gz=>?_;have hQ:Qh 3 ↑w7 gx hP (Vm a fd i++[(i:Int)]):=Qh.snoc gy;refine Q7 O<|Qo<|Qv (hg.B.J V (QJ hg.m he)) O O od (Qh.ints (L:=[]) hQ (by simp;omega) od).one λmh g0 g2 =>
   xe ?_
  exact⟨hP,Z,by rw[hf];exact hg.setM he V hQ gz g0 g2⟩
 rintro v3 mj mo g3;refine Zf (UH a fd (i+1)) λE1 h6=>?_;have hR:=QfB a fd i;rw[h6]at hR;refine Qc<|Qb<|QW (α:=Nat×List Ed×OY) [(6,7),(35,69)] (λz=>[(6,sS z.1)])
  (λz w'=>z.1<=a.al.length/\CrI w7 b4 vcl fd.length v3 z.2.2 (Vm a fd (i+1)) z.2.1 w'/\z.2.1.length<=i*32+z.1/\z.2.1++(a.al.drop z.1).filterMap (yh a fd i)=E1) (λz=>a.al.length - z.1) (0,UH a fd i,v2) La
  ⟨Ln _,g3,h0,hR.symm⟩ ?_
 rintro⟨k,E,vd⟩ mq hS ⟨hk,J,g4,I⟩;simp only[]at hk J g4 I;have h7:=hz.st J.st;have hq:=hM.J J.st n1;have hT:=hL.st J.st;refine Qe<|Ql<|Qr O hq O O<|QG h7.al O<|ZX O O<|xe<|Zp rfl (λg5=>?_) (λg5=>?_)
 ·refine Qu<|Qs<|Qa<|QC O O<|Qb ?_;rw[Ls oa,List.filterMap_nil,LH]at I;refine⟨(i+1,v3,vd),oe,La,h3,?_,?_⟩
  ·simp only[];rw[h6,<-I];exact J
  simp only[];rw[h6,<-I];omega
 have T:k<a.al.length:=oa
 refine Zf (O2 a.al k) λu hu=>?_;rw[L5 T,Zu T,hu,Mw]at I;refine Zf (O8 a.ed s u) λt ht=>?_;have g6:yh a fd i u=if 0<=t then some ((i:Int),u,ixR fd t)else none:=by unfold yh;rw[hp,ht]
 rw[g6]at I;have hsr:=QaF (va:=va) (vm:=vm) (a:=a) (h7.ed.I (O1.C [] hS)) s u a.st;rw[ht]at hsr;refine Qf<|Qe<|Qn<|Qe<|ZJ [] (Y4 0 12 [10])<|pq (λ_ G=>Zj (hq.I G) O O)<|p Qy<|p Qy<|pic (i:=i) O hT O O h3 λms hU=>?_;rw[hp]at hU;refine pq (λ_ G=>Qq (hU.I G) O)<|p (QH O)<|pq (λ_ G=>Qk (hq.I G) O O)<|p Qy <|
  pic (i:=k) O h7.al O O T λmt hV=>?_
 rw[hu]at hV;refine pq (λ_ G=>Qq (hV.I G) O)<|pk<|xg<|hsr.Y ?_;rintro mu h8 ⟨rfl,g7⟩;have hh:=(O1.C [] hS).D g7;refine⟨hh,p ZK<|pe ?_⟩;have hj:=J.I hh;have g9:=hq.I hh;have ka:=hT.I hh;refine Ql<|x (Yd O O)<|xe<|Zp rfl (λh9=>?_) (λh9=>?_)
 ·rw[OP h9]at I;refine Qf<|Qs<|Qa<|QC O O<|Qb<|⟨(k+1,E,vd),oe,La,T,hj,oe,I⟩
 rw[OQ h9]at I;have kb:=Qi J.e;have kc:Qt (b4::ob vd) ↑h8 va a.al:=(((hz.al.up (L':=b4::ob vd) (λb hb=>by
  rcases Ll.1 hb with rfl|hb
  ·exact .inl od
  exact .inr (kb b hb).1)).J J.st od).I hh)
 have ke:=QJ hj.e he;have kf:b1∉ob vd:=QJ hj.e oa;refine ZJ (ob vd) (Y4 0 16 [10,12,13,15])<|p (QH O)<|pq (λ_ G=>Qk (hj.B.J G ke) O O)<|p Qy<|p (QH O)<|pq (λ_ G=>Qk (g9.J G kf) O O) <|
  p Qy<|pic (i:=k) O kc O O T λmv hW=>?_
 rw[hu]at hW;refine pq (λ_ G=>Qq (hW.J G (λb hb=>Lm _ hb)) O)<|p Qy<|p Qy <|
  pk<|xg<|(Qfn (ka.I (O1.C [] h8)) t).Y ?_
 rintro mw my ⟨rfl,rfl⟩;refine⟨O1.C _ _,p (λ_=>QB ⟨O,O,O,Z⟩)<|pk<|Q5 [Qp ((i:Int),u,ixR fd t)] λmz m0 kg m1 kh=>?_⟩;have hA:=(O1.C [] h8).D kg;have hl:=hj.I hA;refine⟨hA.any,?_⟩;refine pk<|Q2 (news:=Qp ((i:Int),u,ixR fd t)) (L:=[]) hl.e O O O (kh.at od) (λy hy=>by simp only[Qp,oJ,oH,or_false]at hy;rcases hy with rfl|rfl|rfl <;> rfl) oa hl.st.size λhX ki kj hB kk=>⟨(hA.any (L:=ob vd)).Q hB,?_⟩
 have hY:Z6 179 ↑w7 ki hX (E++[((i:Int),u,ixR fd t)]):=Z6.snoc kj;refine p (QH O)<|pkk<|Qv (hl.B.J hB (QJ hl.e he)) O O od (Z6.eds (L:=[]) hY (by simp;omega) od).one λm2 kn ko =>
  pe ?_
 have kp:=hl.setE he hB hY kk kn ko;refine Qs<|Qa<|QC O O<|Qb<|⟨(k+1,E++[((i:Int),u,ixR fd t)],hX),oe,La,T,kp,by simp;omega,?_⟩;simp only[Oq,List.singleton_append];exact I
theorem qQ {x:OZ}{k:IntKind}{a b:Int}(hx:ev f x=.int k a)(I:ev f y=.int k b)(J:0<=a)(hb:0<b):
  (execOp (ev f) ⟨d,.binOp .rem t x y G,ty,pS,af,gd⟩).run P w=.ok (.value (.int k (a % b))) w:=by
 refine JM hx I ?_;have S:¬b=0:=oa
 simp[binOp,Op.intDiv,S,Int.tmod_eq_emod_of_nonneg J]
instance ayMa1:Ay sV 26 5 22 5:=⟨oc,oc⟩
instance ayMa2:Ay sV 22 5 5 1:=⟨oc,oc⟩
abbrev bys (ns:LN):LV:=ns.map λn:Nat=>.int .u8 (n:Int)
theorem UJ (h:j<ns.length):(bys ns)[j]?=some (.int .u8 ((ns.getD j 0:Nat):Int)):=by simp[bys,oO,h]
theorem QbP:∀(ns:LN),ZH (bys ns)
 | []=>trivial
 | _::ns=>⟨rfl,QbP ns⟩
theorem XW (h:∀n∈ns,n<256)(j:Nat):ns.getD j 0<256:=by
 by_cases G:j<ns.length
 ·simp only[oO,oU G,Option.getD_some];exact h _ (Lk G)
 simp[oO,G]
structure GrI (al:LI)(S i k:Nat)(M:LI)(E:List Ed):Prop where
 mb:∀x∈M,0<=x/\x<S
 mi:YN M
 ml:∀x∈M,x<(i:Int)+1
 mn:M.length<=S
 eb:∀e∈E,0<=e.1/\e.1<S/\e.2.1∈al/\0<=e.2.2/\e.2.2<S
 ei:E.Pairwise λx y=>x.1<y.1\/(x.1=y.1/\x.2.1<y.2.1)
 el:∀e∈E,e.1<i\/(e.1=i/\e.2.1∈al.take k)
 en:E.length<=i*5+k
theorem QkJ {S:Nat}{M:LI}(hb:∀x∈M,0<=x/\x<S)(hi:YN M):M.length<=S:=xD S M (hi.imp (λh=>oa)) hb
theorem GrI.mark {S:Nat}{M:LI}{E:List Ed}(h:GrI al S i 0 M E)(G:∀x∈M,x<(i:Int))(hi:i<S):GrI al S i 0 (M++[(i:Int)]) E:=by
 have I:∀x∈M++[(i:Int)],0<=x/\x<S:=λx hx=>by
  rcases Le.1 hx with hx|hx
  ·exact h.mb x hx
  simp only[oF]at hx;omega
 have J:YN (M++[(i:Int)]):=by
  refine Mj.2 ⟨h.mi,od,λx hx y T=>?_⟩;simp only[oF]at T;subst T;exact G x hx
 refine⟨I,J,λx hx=>?_,QkJ I J,h.eb,h.ei,h.el,h.en⟩;rcases Le.1 hx with hx|hx
 ·have:=G x hx;omega
 simp only[oF]at hx;omega
theorem GrI.skip {S k:Nat}{M:LI}{E:List Ed}(h:GrI al S i k M E)(G:k<al.length):GrI al S i (k+1) M E :=
 ⟨h.mb,h.mi,h.ml,h.mn,h.eb,h.ei,λe I=>(h.el e I).imp id (λx=>⟨x.1,by rw[Lh G];exact L8 _ x.2⟩),oo h.en⟩
theorem GrI.edge {S k:Nat}{M:LI}{E:List Ed}(h:GrI al S i k M E)(I:k<al.length)(U:YN al)(hi:i<S){t:Int}(V:0<=t)(Y:t<S):GrI al S i (k+1) M (E++[((i:Int),O2 al k,t)]):=by
 have hc:O2 al k∈al:=Xh I;refine⟨h.mb,h.mi,h.ml,h.mn,λe G=>?_,?_,λe G=>?_,by have:=h.en;simp;omega⟩
 ·rcases Le.1 G with G|G
  ·exact h.eb e G
  simp only[oF]at G;subst G;exact⟨oe,oe,hc,V,Y⟩
 ·refine Mj.2 ⟨h.ei,od,λx hx y T=>?_⟩;simp only[oF]at T;subst T;rcases h.el x hx with J|⟨J,h2⟩
  ·left;exact J
  right;refine⟨J,?_⟩;simp only[];have hp:YN (al.take k++al.drop k):=by rw[MF];exact U
  refine(Mj.1 hp).2.2 _ h2 _ ?_;rw[L5 I,Zu I];exact Lo
 rw[Lh I,Zu I];rcases Le.1 G with G|G
 ·exact(h.el e G).imp id (λx=>⟨x.1,L8 _ x.2⟩)
 simp only[oF]at G;subst G;exact .inr ⟨O,Nm _ od⟩
theorem GrI.next {S k:Nat}{M:LI}{E:List Ed}(h:GrI al S i k M E)(J:k<=5):GrI al S (i+1) 0 M E :=
 ⟨h.mb,h.mi,λx hx=>oo (h.ml x hx),h.mn,h.eb,h.ei,λe G=>by rcases h.el e G with I|I <;> (left;omega),oo h.en⟩
theorem Qff {v:OY}(h:Qt L ↑w v al)(hb:∀e∈al,0<=e/\e<32)(hi:YN al)(hn:ns.length=27)(ho:∀n∈ns,n<256):
  QT sV 162 [v,sT (bys ns)] w λr w'=>sW w w'/\∃a:QF,Y1 ↑w ↑w' r a/\Zb a/\a.st<=5/\a.al=al /\
   (ns.getD 0 0<250->∃a0:QF,Zb a0/\0<a0.st/\a0.st<=((1+ns.getD 0 0 % 5:Nat):Int)/\a=JU a0):=by
 have kw:al.length<=32:=xD 32 al (hi.imp (λh=>oa)) (λx hx=>oo (hb x hx));refine Zn func162 ?_;have g0:=UJ (ns:=ns) (j:=0) oa;have g1:=UJ (ns:=ns) (j:=1) oa;have l0:=XW ho 0;have l1:=XW ho 1;refine Zf (ns.getD 0 0) λs0 hW=>?_;refine Zf (ns.getD 1 0) λm1 hX=>?_;rw[hW]at g0 l0;rw[hX]at g1 l1;refine Qc<|Zd (bys ns) λb3 w1 hY kx h3=>QP [nS,sS 0,nS,nS] λb4 w2 h4 kz hp=>xe ?_;have hm:=hY.D h4;have hr:=h3.I h4;have k0:=h3.lt;have k4:=hp.lt;refine Qe<|Qc<|Qr O hr O g0<|x (Yd O O)<|xe<|Za rfl (λhZ=>?_) (λhZ=>?_)
 ·refine Ql<|Qw<|(UB (h.I hm) oa).Y ?_;rintro r3 w3 ⟨h5,vcl,rfl,T⟩;have hs:=Qh.ints (L:=[]) T oa od;refine Q0 [vcl,sS 0,nS,nS] (hp.I h5) ⟨hs.one,O,O,O,Z⟩ λw4 h6 ga=>xe ?_;have gb:=Qg T h6 (λb hb=>by have:=(Qi T b hb).1;simp;omega);refine Qj ⟨[.agg #[vcl,sS 0,nS,nS]],⟨Jm ga,Z⟩,(hm.D h5).O h6 oa,⟨al,0,[],[]⟩,?_,?_,(by decide:(0:Int)<=5),O,λh=>OS h oa⟩
  ·exact⟨vcl,_,_,O,λL' gc=>⟨Qh.ints gb (by show al.length<=_;omega) (λb hb=>oo (gc b hb)),Zs.nil _ _ _,Zs.nil _ _ _⟩⟩
  exact⟨hb,hi,(by decide:(0:Int)<=0),(by decide:(0:Int)<=4096),od,od,od,od⟩
 refine Qf<|Ql<|Qw<|(UB (h.I hm) oa).Y ?_;rintro r5 w5 ⟨h7,vcl,rfl,T⟩;have hs:=Qh.ints (L:=[]) T oa od;refine QP [nS,sS 0,nS,nS] λG w6 ge gg gh =>
  Q0 [vcl,sS 0,nS,nS] gh ⟨hs.one,O,O,O,Z⟩ λw7 gi h8=>xe ?_
 have h9:sW w5 w7:=ge.O gi gg;have hg:=h7.D h9;have k5:=h7.size;have k6:=h8.lt;refine Zf (1+s0 % 5) λS hS=>?_;have gk:(1:Int)+(s0:Int) % 5=(S:Int):=oa
 refine Qc<|Qr O (hr.I hg) O g0<|x (qQ (a:=(s0:Int)) (b:=5) O O oa oa)<|x (Z9 (k':=.i64) O ⟨oa,oa⟩)<|QC O O<|x (VG O) <|
  Qo<|Qv (u:=sS S) h8 O (OR sS gk) od rfl λI ha gl=>xe ?_
 have k9:=ha.size;have ma:O1 [G] w2 I:=(hg.any (L:=[G])).Q ha;have hA:sW w I:=(hm.D hg).O ha oa;have hB:Qt [G] ↑I v al:=(h.up (L':=[G]) (λb hb=>.inr (by simp at hb;omega))).I hA;have gm:Qh 3 ↑w2 I vcl al:=Qg (Qm T h9) ha (λb hb=>by have:=QU T b hb;simp;omega);have hC:=(hr.I hg).J ha (by simp;omega);have gn:=(hp.I hg).J ha (by simp;omega);have hh:G<I.heap.size:=oa
 have n3:b3∉[G]:=by simp;omega
 have n4:b4∉[G]:=by simp;omega
 refine Qe<|Qc<|Qb<|QW (α:=Nat×OY×OY×LI×List Ed) [(6,8),(22,76)] (λz=>[(6,sS z.1)])
  (λz w'=>z.1<=S/\CrI I G vcl S z.2.1 z.2.2.1 z.2.2.2.1 z.2.2.2.2 w'/\GrI al S z.1 0 z.2.2.2.1 z.2.2.2.2/\∀x∈z.2.2.2.1,x<(z.1:Int)) (λz=>S - z.1) (0,nS,nS,[],[]) La
  ⟨Ln _,⟨O1.Z _ _,gl,QM _ _ _ _,QM _ _ _ _,Dj.nil' _⟩,⟨od,od,od,od,od,od,od,od⟩,od⟩ ?_
 rintro⟨i,v1,v2,M,E⟩ g9 w9 ⟨go,hI,J,hM⟩;simp only[]at go hI J hM;have mc:=J.mn;have mf:=J.en;refine Qe<|Ql<|Qr O hI.B O O<|ZX O O<|xe<|Zp rfl (λgq=>?_) (λgq=>?_)
 ·have mg:i=S:=oa
  refine Qu ?_;have gr:=Qh.ints (L:=[]) hI.m oa od;have gs:=Z6.eds (L:=[]) hI.e oa od;have gt:Qh 3 ↑w2 w9 vcl al:=Qg gm hI.st (λb hb=>by have:=QU T b hb;simp;omega);have gu:Zr [] ↑w9 vcl v1 v2 ⟨al,(S:Int),M,E⟩:=⟨Qh.ints gt (by show al.length<=_;omega) od,gr,gs⟩;have hu:Zb ⟨al,(S:Int),M,E⟩:=⟨hb,hi,oe,oe,J.mb,J.mi,J.eb,J.ei⟩;have hv:=Qez hu;have hD:sW w w9:=hA.O hI.st oa;have gv:=gn.J hI.st n4;have mh:=hI.st.size;refine Qc<|QY hI.B O O<|Qw<|(yg (a:=⟨al,(S:Int),M,E⟩) gu hu).Y ?_;rintro vr mj ⟨hE,hF⟩;obtain⟨us,hH,hJ,gx⟩:=Xa hF;refine Qo<|Zk (us:=us) (gv.I hE) O hH hJ O gx λmo hK gy=>xe ?_;have gz:=hD.size;refine Qj ⟨[sT us],⟨⟨_,O,ZB hJ (gy.at (L:=[]) od).cells⟩,Z⟩,(hD.D hE).O hK oa,JU ⟨al,(S:Int),M,E⟩,?_,hv.1,?_,hv.2.1,λ_=>⟨⟨al,(S:Int),M,E⟩,hu,oe,oe,O⟩⟩
  ·show Y1 _ _ (sT us) _;rw[<-hH];exact(YX hF oa hK).Y gz
  have:=hv.2.2;simp only[]at this;omega
 have hw:i<S:=oa
 refine Qf<|Qe<|Qn<|QV (α:=OY×LI) [(28,39)] (λz=>[]) (λz w'=>CrI I G vcl S z.1 v2 z.2 E w'/\GrI al S i 0 z.2 E) oh ?_ ?_
 ·have g2:m1 / 2 ^ i<256:=Nat.lt_of_le_of_lt (Nat.div_le_self _ _) l1;refine Qc<|Qr O (hC.J hI.st n3) O g1<|Qa<|x (QdQ (n:=i) O O (by show i<=8;omega))<|x (qT (a:=m1 / 2 ^ i) (b:=1) (OR (Value.int .u8) (QdJ m1 i)) O g2 og)<|x (Q6 O O)<|xe<|Zp O (λg3=>?_) (λg3=>?_)
  ·refine Qf ?_;exact⟨(v1,M),Z,hI,J⟩
  refine Qs<|Qr O hI.B O O<|Qa<|Qo<|Q5 [[sS i]] λmq ms g4 mt g5=>?_;have hj:=hI.I g4;refine Qo<|Q2 (news:=[sS i]) (L:=[]) hj.m O O O (g5.at od) om oa hj.st.size λhL g6 g7 hN g8=>?_;have hO:Qh 3 ↑I g6 hL (M++[(i:Int)]):=Qh.snoc g7;refine Q7 O<|Qo<|Qv (hj.B.J hN (QJ hj.m hh)) O O od (Qh.ints (L:=[]) hO (by simp;omega) od).one λmu ka kb =>
   xe ?_
  exact⟨(hL,M++[(i:Int)]),Z,hj.setM hh hN hO g8 ka kb,J.mark hM hw⟩
 rintro⟨v3,M3⟩ mv mw ⟨hP,hQ⟩;simp only[]at hP hQ;refine Qc<|Qb<|QW (α:=Nat×OY×List Ed) [(7,8),(40,76)] (λz=>[(7,sS z.1)])
  (λz w'=>z.1<=al.length/\z.1<=5/\CrI I G vcl S v3 z.2.1 M3 z.2.2 w'/\GrI al S i z.1 M3 z.2.2) (λz=>5 - z.1) (0,v2,E) La
  ⟨Ln _,Ln _,hP,hQ⟩ ?_
 rintro⟨k,vd,F⟩ my kc ⟨hk,hR,he,hf⟩;simp only[]at hk hR he hf;have ke:=hB.st he.st;have mz:=hf.en;refine Qe<|QV (α:=Unit) [(40,47)] (λz=>[(47,.bool (decide (k<al.length/\k<5)))]) (λz w'=>w'=kc) oh ?_ ?_
 ·refine Qs<|Qa<|Qa<|QG ke O<|xb (Yw O O) (λhT=>?_) (λhT=>?_)
  ·refine Qa<|Qa<|ZX O O<|QA O<|xe<|⟨(),⟨OR Value.bool ?_,Z⟩,O⟩;exact decide_eq_decide.2 ⟨λe=>⟨oa,oa⟩,λe=>oa⟩
  refine Qa<|YD<|QA O<|xe ?_;exact⟨(),⟨OR Value.bool (OV (λe=>hT oa)).symm,Z⟩,O⟩
 rintro _ m0 U rfl;refine Zp rfl (λhz=>?_) (λhz=>?_)
 ·refine Qu<|Qs<|Qa<|QC O O<|Qb<|⟨(i+1,v3,vd,M3,F),oe,La,hw,he,hf.next hR,λx hx=>by have:=hf.ml x hx;simp only[];omega⟩
 have hk1:k<al.length:=hz.1;have h0:k<5:=hz.2;have gj:=UJ (ns:=ns) (j:=0+2+i*5+k*1) oa;have lj:=XW ho (0+2+i*5+k*1);refine Zf (ns.getD (0+2+i*5+k*1) 0) λq hq=>?_;rw[hq]at gj lj;have kf:=hC.J he.st n3;have kg:0<=(q:Int) % ((S:Int)+2):=Int.emod_nonneg _ oa;refine Qf<|Qe<|Qn<|Qe<|ZJ [] (Y4 0 12 [])<|p Qy<|p Qy<|p (QH O)<|p (λ_=>ZQ (i:=i) O O oa)<|p (λ_=>ZQ (i:=k) O O h0)<|pq (λ_ V=>Qk (kf.I V) O gj) <|
  p (λ_=>Z9 (k':=.i64) O ⟨oa,oa⟩)<|p (QH O)<|pq (λ_ V=>Qk (he.B.I V) O O)<|p (λ_=>YE O O ⟨oa,oa⟩) <|
  p (λ_=>qQ (a:=(q:Int)) (b:=(S:Int)+2) O O oa oa)<|p ZK<|pe ?_
 have Y:=he.I (O1.C [] U);refine Zf ((q:Int) % ((S:Int)+2)) λt ht=>?_;refine Ql<|Qr O Y.B O O<|ZX O O<|xe<|Zp rfl (λkh=>?_) (λkh=>?_)
 ·refine Qf<|Qs<|Qa<|QC O O<|Qb<|⟨(k+1,vd,F),oe,La,hk1,h0,Y,hf.skip hk1⟩
 have ki:=Qi Y.e;have kj:Qt (G::ob vd) { U with drawn:=U.drawn+1 }.heap v al:=((hB.up (L':=G::ob vd) (λb hb=>by
  rcases Ll.1 hb with rfl|hb
  ·exact .inl od
  exact .inr (ki b hb).1)).J Y.st od)
 have kk:=QJ Y.e hh;refine Vq (O1 (ob vd) { U with drawn:=U.drawn+1 }) [oz 0,oz 1,oz 2,oz 3,oz 4,oz 5,oz 6,oz 7,oz 8,oA 9,oA 10,oz 11,oA 12] mixed oh oc (O1.C _ _) ?_
 refine p (QH O)<|pq (λ_ V=>Qk (Y.B.J V kk) O O)<|p Qy<|p Qy<|p Qy <|
  pic (i:=k) O kj O O hk1 λm2 kn=>pq (λ_ V=>Qq (kn.J V (λb hb=>Lm _ hb)) O)<|p Qy<|p (λ_=>QB ⟨O,O,O,Z⟩) <|
  pk<|Q5 [Qp ((i:Int),O2 al k,(q:Int) % ((S:Int)+2))] λm3 m4 ko m5 kp=>?_
 have h1:=(O1.C [] { U with drawn:=U.drawn+1 }).D ko
 have hl:=Y.I h1;refine⟨h1.any,?_⟩;refine pk<|Q2 (news:=Qp ((i:Int),O2 al k,(q:Int) % ((S:Int)+2))) (L:=[]) hl.e O O O (kp.at od) (λy hy=>by simp only[Qp,oJ,oH,or_false]at hy;rcases hy with rfl|rfl|rfl <;> rfl) oa hl.st.size λhU kq kr h2 kt=>⟨(h1.any (L:=ob vd)).Q h2,?_⟩
 have hV:Z6 179 ↑I kq hU (F++[((i:Int),O2 al k,(q:Int) % ((S:Int)+2))]):=Z6.snoc kr;refine p (QH O)<|pkk<|Qv (hl.B.J h2 (QJ hl.e hh)) O O od (Z6.eds (L:=[]) hV (by simp;omega) od).one λm6 ku kv=>pe ?_;refine Qs<|Qa<|QC O O<|Qb<|⟨(k+1,hU,F++[((i:Int),O2 al k,(q:Int) % ((S:Int)+2))]),oe,La,hk1,h0,(hl.setE hh h2 hV kt ku kv),hf.edge hk1 hi hw kg oa⟩
theorem Up [Ag P t sz]{x:OZ}{b o:Nat}(h:QK ↑w b T cs)(hx:ev f x=.pointer (some ⟨b,o,none⟩))(G:us.length=sz)(I:∀j u,us[j]?=some u->cs[o+j]?=some u):
  (execOp (ev f) ⟨d,.load t x,ty,pS,af,gd⟩).run P w=.ok (.value (sT us)) w:=by
 refine qk hx G λj u J=>?_;rw[X4,XC,h.cell];exact I j u J
theorem Qli {o:Nat}:∀j u,(bys ((ns.drop o).take n))[j]?=some u->(bys ns)[o+j]?=some u:=by
 intro j u h;simp only[bys,List.getElem?_map,List.getElem?_take,List.getElem?_drop]at h ⊢;split at h
 ·exact h
 cases h
theorem Qlj (h:∀n∈ns,n<256)(o n:Nat):∀m∈(ns.drop o).take n,m<256:=λm G=>h m (MK (L3 G))
theorem QdK (m k:Nat):∀e∈setK m k,0<=e/\e<k:=by
 intro e G;simp only[setK,OF,Ow,Oy]at G;obtain⟨i,⟨hi,_⟩,rfl⟩:=G;omega
theorem Qki (keep:Bool->Bool->Bool):∀(n:Nat) (a b:LI),a.length+b.length<=n->YN a->YN b->YN (mrg keep a b):=by
 intro n;induction n with
 | zero =>
  intro a b h _ _;have U:a=[]:=Lu oa;have hb:b=[]:=Lu oa;subst U hb;rw[J8];exact List.Pairwise.nil
 | succ n ih =>
  intro a b V ia ib;by_cases h:a=[]/\b=[]
  ·obtain⟨rfl,rfl⟩:=h;rw[J8];exact List.Pairwise.nil
  have Y:=zk h;have itl:∀(c:Bool) (l:LI),YN l->YN (tl c l):=λc l J=>by
   cases c
   ·exact J
   cases l with
   | nil=>exact J
   | cons y l=>exact J.tail
  have S:=ih (tl (XS a b) a) (tl (XS b a) b) oa (itl _ _ ia) (itl _ _ ib);rw[JS keep h];cases keep (XS a b) (XS b a)with
  | false=>simpa using S
  | true =>
   simp only[cond_true,List.singleton_append];refine L2.2 ⟨λx hx=>?_,S⟩;have I:=(qq (itl _ _ ia) (itl _ _ ib) x).1 hx;cases a with
   | nil =>
    cases b with
    | nil=>exact OS ⟨O,O⟩ h
    | cons y b =>
     simp only[XS,tl,cond_true,cond_false,Oe,oH,false_or,Lg.hx,Ob]at I ⊢;exact ib.lt_of I.1
   | cons u a =>
    cases b with
    | nil =>
     simp only[XS,tl,cond_true,cond_false,Oe,oH,or_false,Lg.hx,Ob]at I ⊢;exact ia.lt_of I.1
    | cons y b =>
     rcases Int.lt_trichotomy u y with T|T|T
     ·have e1:decide (u<=y)=true:=OT oa;have e2:decide (y<=u)=false:=OV oa;simp only[XS,tl,e1,e2,cond_true,cond_false,Oe,Lg.hx,Ob]at I ⊢;rcases I.1 with G|G
      ·exact ia.lt_of G
      rcases Ll.1 G with G|G
      ·omega
      have:=ib.lt_of G;omega
     ·have e1:decide (u<=y)=true:=OT oa;have e2:decide (y<=u)=true:=OT oa;simp only[XS,tl,e1,e2,cond_true,Oe,Lg.hx,Ob]at I ⊢;rcases I.1 with G|G
      ·have:=ia.lt_of G;omega
      have:=ib.lt_of G;omega
     have e1:decide (u<=y)=false:=OV oa;have e2:decide (y<=u)=true:=OT oa;simp only[XS,tl,e1,e2,cond_true,cond_false,Oe,Lg.hx,Ob]at I ⊢;rcases I.1 with G|G
     ·rcases Ll.1 G with G|G
      ·omega
      have:=ia.lt_of G;omega
     exact ib.lt_of G
abbrev ZR:OY:=nS
def srt (n:Nat)(l:LI):LI:=((oK n).filter λi:Nat=>decide ((i:Int)∈l)).map λi:Nat=>(i:Int)
theorem jq (n:Nat)(l:LI):YN (srt n l):=by
 unfold srt YN;rw[L7];exact((List.pairwise_lt_range).filter _).imp λh=>oa
theorem jp {x:Int}:x∈srt n l↔(0<=x/\x<(n:Int))/\x∈l:=by
 unfold srt;rw[Lz];constructor
 ·rintro⟨i,hi,rfl⟩;have E:=LS.1 hi;have G:=MD.1 E.1;exact⟨⟨oa,oa⟩,OU E.2⟩
 rintro⟨⟨E,G⟩,I⟩;have e:((x.toNat:Nat):Int)=x:=oa
 exact⟨x.toNat,LS.2 ⟨MD.2 oa,OT (by rw[e];exact I)⟩,e⟩
theorem QdF (n:Nat)(l:LI):(srt n l).length<=n:=by
 unfold srt;rw[Lj];exact Lx (LF _ _) (by rw[L4];exact Lp _)
theorem qt {m:LI}(J:YN l)(S:YN m)(h:∀x,x∈l↔x∈m):l=m:=by
 induction l generalizing m with
 | nil =>
  cases m with
  | nil=>rfl
  | cons y m=>exact OS ((h y).2 Lo) od
 | cons x l ih =>
  cases m with
  | nil=>exact OS ((h x).1 Lo) od
  | cons y m =>
   obtain⟨G,T⟩:=L2.1 J;obtain⟨I,U⟩:=L2.1 S;have e:x=y:=by
    rcases Ll.1 ((h x).1 Lo)with e|e
    ·exact e
    rcases Ll.1 ((h y).2 Lo)with e'|e'
    ·exact e'.symm
    have:=G y e';have:=I x e;omega
   subst e;refine OR _ (ih T U λz=>⟨λE=>?_,λE=>?_⟩)
   ·rcases Ll.1 ((h z).1 (Lm _ E))with e|e
    ·have:=G z E;omega
    exact e
   rcases Ll.1 ((h z).2 (Lm _ E))with e|e
   ·have:=I z E;omega
   exact e
theorem Qgs {m:LI}(E:YN m)(h:∀x,x∈m↔x∈l)(hb:∀x∈l,0<=x/\x<(n:Int)):m=srt n l :=
 qt E (jq n l) λx=>by rw[jp,h x];exact⟨λhx=>⟨hb x hx,hx⟩,λhx=>hx.2⟩
def bfE (ok:Ed->Bool)(l:LI)(e:Ed):LI:=if ok e=true/\e.2.2∉l then l++[e.2.2]else l
def bfs (ok:Ed->Bool)(ed:List Ed):Nat->Nat->LI->LI
 | 0,_,l=>l
 | f+1,i,l=>if i<l.length then bfs ok ed f (i+1) ((QS ed (O2 l i)).foldl (bfE ok) l)else l
theorem QbR {ok:Ed->Bool}{f:Nat}(h:¬i<l.length):bfs ok ed f i l=l:=by
 cases f with
 | zero=>rfl
 | succ f=>rw[bfs,OP h]
structure z6 (n:Nat)(l0 l:LI):Prop where
 ex:∃m,l=l0++m/\m.Nodup/\(∀x∈m,0<=x/\x<(n:Int))/\∀x∈m,x∉l0
theorem z6.zero (n:Nat)(E:LI):z6 n E E:=⟨[],od,Ml,od,od⟩
theorem z6.len {E:LI}(h:z6 n E l):l.length<=E.length+n:=by
 obtain⟨m,rfl,G,I,_⟩:=h.ex;have:=xD n m G I;rw[Lc];omega
theorem z6.all {E:LI}(h:z6 n E l)(G:∀x∈E,0<=x/\x<(n:Int)):∀x∈l,0<=x/\x<(n:Int):=by
 obtain⟨m,rfl,_,I,_⟩:=h.ex;intro x hx;rcases Le.1 hx with hx|hx
 ·exact G x hx
 exact I x hx
theorem z6.add {G:LI}(h:z6 n G l){x:Int}(hx:0<=x/\x<(n:Int))(I:x∉l):z6 n G (l++[x]):=by
 obtain⟨m,rfl,J,S,T⟩:=h.ex;refine⟨m++[x],by rw[LE],?_,λy E=>?_,λy E=>?_⟩
 ·rw[Mr];refine⟨J,od,λa U b hb e=>?_⟩;rw[Lb.1 hb]at e;exact I (Le.2 (.inr (e ▸ U)))
 ·rcases Le.1 E with E|E
  ·exact S y E
  rw[Lb.1 E];exact hx
 rcases Le.1 E with E|E
 ·exact T y E
 rw[Lb.1 E];exact λV=>I (Le.2 (.inl V))
theorem z6.edge {E:LI}(h:z6 n E l)(ok:Ed->Bool){e:Ed}(G:0<=e.2.2/\e.2.2<(n:Int)):z6 n E (bfE ok l e):=by
 unfold bfE;split
 ·rename_i I;exact h.add G I.2
 exact h
def cls (ok:Ed->Bool)(a:QF)(l:LI):LI:=srt a.st.toNat (bfs ok a.ed (l.length+a.st.toNat) 0 l)
def ye (l:LI)(x:Int):LI:=if x∉l then l++[x]else l
def ddp (l:LI):LI:=l.foldl ye []
def hop (ed:List Ed)(l:LI)(v:Int):LI:=l.flatMap λs=>((QS ed s).filter λe=>decide (e.2.1=v)).map (·.2.2)
def mkd (a:QF)(l:LI):Bool:=l.any λs=>decide (s∈a.mr)
def kpt (a:QF)(o:LI):LI:=a.al.filter λv=>decide (v∈o)
def ers (a:QF)(o:LI):LI:=a.al.filter λv=>!decide (v∈o)
def okR (ev:LI)(e:Ed):Bool:=decide (e.2.1∈ev)
def rch (a:QF)(l ev:LI):LI:=cls (okR ev) a (ddp l)
def pnx (a:QF)(er l:LI)(v:Int):LI:=rch a (hop a.ed l v) er
def VI (z:Sy)(u:LI):Sy:=if u∈z.tup then z else⟨z.tup++[u],z.mk',z.ed⟩
def pjE (a:QF)(er:LI)(i:Nat)(t:LI)(z:Sy)(v:Int):Sy :=
 if(pnx a er t v).length=0 then z else⟨(VI z (pnx a er t v)).tup,(VI z (pnx a er t v)).mk',(VI z (pnx a er t v)).ed++[((i:Int),v,((VI z (pnx a er t v)).tup.idxOf (pnx a er t v):Int))]⟩
def pjM (a:QF)(i:Nat)(t:LI)(z:Sy):Sy:=if mkd a t=true then⟨z.tup,z.mk'++[(i:Int)],z.ed⟩else z
def pjL (a:QF)(kp er:LI):Nat->Nat->Sy->Sy
 | 0,_,z=>z
 | f+1,i,z=>if i<z.tup.length then pjL a kp er f (i+1) (kp.foldl (pjE a er i (UP z i)) (pjM a i (UP z i) z))else z
theorem QgV {kp er:LI}{f:Nat}{z:Sy}(h:¬i<z.tup.length):pjL a kp er f i z=z:=by
 cases f with
 | zero=>rfl
 | succ f=>rw[pjL,OP h]
def pj0 (a:QF)(er:LI):Sy:=⟨[rch a [0] er],[],[]⟩
def prj (a:QF)(o:LI):Sy:=if a.st=0 then⟨[],[],[]⟩else pjL a (kpt a o) (ers a o) (2 ^ a.st.toNat) 0 (pj0 a (ers a o))
def J4 (a:QF)(o:LI):QF:=⟨kpt a o,(prj a o).tup.length,(prj a o).mk',(prj a o).ed⟩
def Ss (n:Nat)(l:LI):Prop:=YN l/\∀x∈l,0<=x/\x<(n:Int)
theorem jr (n:Nat)(l:LI):Ss n (srt n l):=⟨jq n l,λ_ hx=>(jp.1 hx).1⟩
theorem Qh5 {α:Type}(q:α->Bool):∀l:List α,l.length=(l.filter q).length+(l.filter λx=>!q x).length
 | []=>rfl
 | x::l=>by
  rw[L6,L6,LL,Qh5 q l];cases q x <;> simp <;> omega
theorem qi:∀(n:Nat) (L:List (LI)),L.Nodup->(∀l∈L,Ss n l)->L.length<=2 ^ n
 | 0,L,hd,h=>by
  have S:∀l∈L,l=[]:=λl G=>by
   cases l with
   | nil=>rfl
   | cons x l=>have:=(h _ G).2 x Lo;omega
  match L,hd,S with
  | [],_,_=>simp
  | [_],_,_=>simp
  | a::b::L,hd,S =>
   have e1:=S a od;have e2:=S b od;rw[e1,e2]at hd;simp at hd
 | n+1,L,hd,h=>by
  have hq:=Qh5 (λl:LI=>decide ((n:Int)∈l)) L;have h1:=qi n (L.filter λl=>!decide ((n:Int)∈l)) (hd.filter _) λl G=>by
   obtain⟨T,E⟩:=LS.1 G;have I:(n:Int)∉l:=by simpa using E
   refine⟨(h l T).1,λx hx=>?_⟩;have:=(h l T).2 x hx;have:x≠(n:Int):=λe=>I (e ▸ hx);omega
  have V:∀a∈L,∀b∈L,(n:Int)∈a->(n:Int)∈b->(a.filter λx=>!decide (x=(n:Int)))=(b.filter λx=>!decide (x=(n:Int)))->a=b:=λa U b hb na nb e=>by
   refine qt (h a U).1 (h b hb).1 λx=>?_;by_cases hx:x=(n:Int)
   ·rw[hx];exact⟨λ_=>nb,λ_=>na⟩
   have J:x∈(a.filter λx=>!decide (x=(n:Int)))↔x∈(b.filter λx=>!decide (x=(n:Int))):=by rw[e]
   simpa[Ow,hx]using J
  have T:=qi n ((L.filter λl=>decide ((n:Int)∈l)).map λl=>l.filter λx=>!decide (x=(n:Int))) (by
   unfold List.Nodup;rw[L7];refine(hd.filter _).imp_of_mem λ{a b} U hb Y e=>Y ?_;obtain⟨E,I⟩:=LS.1 U;obtain⟨J,h6⟩:=LS.1 hb;exact V a E b J (OU I) (OU h6) e) λl G=>by
   obtain⟨m,hm,rfl⟩:=Lz.1 G;have E:=h m (LS.1 hm).1;refine⟨E.1.filter _,λx hx=>?_⟩;obtain⟨I,J⟩:=LS.1 hx;have:=E.2 x I;have:x≠(n:Int):=by simpa using J
   omega
  rw[Lj]at T;have:2 ^ (n+1)=2 ^ n+2 ^ n:=by rw[OL];omega
  omega
def okV (o un:LI)(only:Bool)(e:Ed):Bool:=!decide (e.2.1∈o) && (!only || decide (e.2.1∈un))
def vcl (a:QF)(o un:LI)(l:LI)(only:Bool):LI:=cls (okV o un only) a l
def vnx (a:QF)(o un:LI)(l:LI)(v:Int):LI:=vcl a o un (hop a.ed l v) false
abbrev Dq:=LI×LI×LI
def Kj (l:List Dq)(x y:LI):Bool:=l.any λz=>decide (z.1=x/\z.2.1=y)
def dfE (a:QF)(o un:LI)(x:Dq)(l:List Dq)(v:Int):List Dq :=
 if(vnx a o un x.1 v).length+(vnx a o un x.2.1 v).length > 0/\Kj l (vnx a o un x.1 v) (vnx a o un x.2.1 v)=false then l++[(vnx a o un x.1 v,vnx a o un x.2.1 v,x.2.2++[v])]else l
def dfL (a:QF)(o un:LI)(bad:LI->LI->Bool):Nat->Nat->List Dq->Option (LI)
 | 0,_,_=>none
 | f+1,i,l=>match l[i]? with
  | none=>none
  | some x=>if bad x.1 x.2.1=true then some x.2.2 else dfL a o un bad f (i+1) ((kpt a o).foldl (dfE a o un x) l)
def dff (a:QF)(o un:LI)(x y:LI)(bad:LI->LI->Bool):Option (LI):=dfL a o un bad (4 ^ a.st.toNat+1) 0 [(x,y,[])]
def QaS (a:QF)(x y:LI):Bool:=mkd a x && !mkd a y
def rft (a:QF)(o un:LI)(est:LI)(s:Int):Option (LI):=dff a o un est (vcl a o un [s] false) (QaS a)
abbrev Plc:=Int×LI×LI
def QaP (l:List Plc)(s:Int)(t:LI):Bool:=l.any λz=>decide (z.1=s/\z.2.1=t)
def obN (a:QF)(o un:LI)(x:Plc)(e:Ed):Plc:=(e.2.2,if e.2.1∈o then vnx a o un x.2.1 e.2.1 else x.2.1,x.2.2++[e.2.1])
def obE (a:QF)(o un:LI)(x:Plc)(l:List Plc)(e:Ed):List Plc:=if QaP l (obN a o un x e).1 (obN a o un x e).2.1=true then l else l++[obN a o un x e]
def obL (a:QF)(o un:LI):Nat->Nat->List Plc->Option (LI×LI)
 | 0,_,_=>none
 | f+1,i,l=>match l[i]? with
  | none=>none
  | some x=>match rft a o un x.2.1 x.1 with
   | some t=>some (x.2.2,t)
   | none=>obL a o un f (i+1) ((QS a.ed x.1).foldl (obE a o un x) l)
def obs (a:QF)(o un:LI):Option (LI×LI):=if a.st=0 then none else obL a o un (4 ^ a.st.toNat+1) 0 [(0,vcl a o un [0] false,[])]
def psb (a:QF)(v:Int)(l:LI):Bool:=l.any λs=>(QS a.ed s).any λe=>decide (e.2.1=v)
def ctd (a:QF)(o un:LI)(s v:Int):Bool:=decide (v∈o) && (decide (v∈un) && (psb a v (vcl a o un [s] false) && !psb a v (vcl a o un [s] true)))
abbrev Cq:=Int×LI
def csE (x:Cq)(l:List Cq)(e:Ed):List Cq:=if e.2.2∈l.map (·.1)then l else l++[(e.2.2,x.2++[e.2.1])]
def csL (a:QF)(o un:LI):Nat->Nat->List Cq->Option (LI×Int)
 | 0,_,_=>none
 | f+1,i,l=>match l[i]? with
  | none=>none
  | some x=>match a.al.find? (ctd a o un x.1)with
   | some v=>some (x.2,v)
   | none=>csL a o un f (i+1) ((QS a.ed x.1).foldl (csE x) l)
def cns (a:QF)(o un:LI):Option (LI×Int):=if a.st=0 then none else csL a o un (a.st.toNat+1) 0 [(0,[])]
def hld (a:QF)(un set:LI):Bool:=(obs a set un).isNone && (cns a set un).isNone
def ins (set:LI)(v:Int):LI:=srt 32 (set++[v])
def xtA (a:QF)(un:LI):LI->LI×LI->LI×LI
 | [],z=>z
 | v::vs,z=>if hld a un z.1=true then z else xtA a un vs (if v∈z.1 then z else(ins z.1 v,z.2++[v]))
def xtD (a:QF)(un:LI)(set:LI)(v:Int):LI:=if hld a un (set.filter λx=>!decide (x=v))=true then set.filter λx=>!decide (x=v)else set
def QcV (a:QF)(o un:LI):LI:=(xtA a un a.al (kpt a o,[])).2.foldl (xtD a un) (xtA a un a.al (kpt a o,[])).1
section
variable {all:xz}{C:xu}
theorem tf {pre:xo}{G I:Pt}(h:XP P all C (λf w=>(Z3 all f (QR all i)=true/\XO P (QR all i) f w λE w'=>C w'/\XT P all C K G E w') /\
   (Z3 all f (QR all j)=true/\XO P (QR all j) f w λE w'=>C w'/\XT P all C K I E w')) pre f w):XT P all C K (.fk pre i j G I) f w:=h
theorem tp {l:xo}(h:XP P all C K l f w):XT P all C K (.pl l) f w:=h
end
theorem Qhg (es:List Ed)(s v:Int):O8 es s v=match O9 es s v with|some u=>u|none=>-1:=by
 induction es with
 | nil=>rfl
 | cons e es ih =>
  rw[O8,O9];split
  ·rfl
  exact ih
section
variable {w4 w'':OX}{b:Nat}{m q:Bool}{vd:OY}{E D:LI}
end
def grid (g:Nat->Int->Option Ed)(vs:LI)(n:Nat):List Ed:=(oN 0 n).flatMap λj=>vs.filterMap (g j)
theorem Uy (g:Nat->Int->Option Ed)(vs:LI)(n:Nat):grid g vs (n+1)=grid g vs n++vs.filterMap (g n):=by
 unfold grid;rw[MM,LC];simp
theorem Qby (l m:List Ed)(s v:Int):O9 (l++m) s v=match O9 l s v with|some u=>some u|none=>O9 m s v:=by
 induction l with
 | nil=>rfl
 | cons e l ih =>
  rw[Mo,O9,O9];split
  ·rfl
  exact ih
def zZ (g:Nat->Int->Option Ed):Prop:=∀j v e,g j v=some e->e.1=(j:Int)/\e.2.1=v
theorem Qbw {g:Nat->Int->Option Ed}(G:zZ g)(j:Nat)(v:Int):∀(vs:LI),O9 (vs.filterMap (g j)) j v=if v∈vs then(g j v).map (·.2.2)else none
 | []=>by simp[O9]
 | u::vs=>by
  have ih:=Qbw G j v vs;rw[Mw];cases E:g j u with
  | none =>
   simp only[];rw[ih];by_cases e:v=u
   ·subst e;simp[E]
   simp[e]
  | some e =>
   have I:=G j u e E;simp only[];rw[O9];by_cases e2:u=v
   ·subst e2;rw[OQ I,OQ Lo,E];rfl
   rw[OP (λh=>e2 (I.2.symm.D h.2)),ih];simp[Ne.symm e2]
theorem Qbv {g:Nat->Int->Option Ed}(E:zZ g)(h:j≠i)(v:Int)(vs:LI):O9 (vs.filterMap (g j)) i v=none:=by
 refine yY λe G J=>?_;obtain⟨u,_,I⟩:=MW.1 G;have:=E j u e I;omega
theorem Qfv {g:Nat->Int->Option Ed}(E:zZ g)(vs:LI)(j:Nat)(v:Int):∀n,O9 (grid g vs n) j v=if j<n/\v∈vs then(g j v).map (·.2.2)else none
 | 0=>by simp[grid,O9]
 | n+1=>by
  rw[Uy,Qby,Qfv E vs j v n];by_cases e:j=n
  ·subst e;rw[OP oa,Qbw E];simp
  rw[Qbv E (Ne.symm e)];by_cases h:j<n/\v∈vs
  ·rw[OQ h,OQ ⟨oa,h.2⟩];cases(g j v).map (·.2.2) <;> rfl
  rw[OP h,OP (λG=>h ⟨oa,G.2⟩)]
theorem Qbh {g:Nat->Int->Option Ed}{vs:LI}{e:Ed}(h:e∈grid g vs n):∃j v,j<n/\v∈vs/\g j v=some e:=by
 unfold grid at h;obtain⟨j,E,G⟩:=Mb.1 h;obtain⟨v,I,J⟩:=MW.1 G;rw[Mu]at E;exact⟨j,v,oa,I,J⟩
theorem Qef {g:Nat->Int->Option Ed}(E:zZ g){vs:LI}(hi:YN vs):∀n,(grid g vs n).Pairwise λx y:Ed=>x.1<y.1\/(x.1=y.1/\x.2.1<y.2.1)
 | 0=>by simp[grid]
 | n+1=>by
  rw[Uy,Mj];refine⟨Qef E hi n,XR (r:=(·<·)) (λx y u v V J S=>?_) hi,λe T e' U=>?_⟩
  ·have G:=E n x u J;have I:=E n y v S;right;omega
  obtain⟨j,v,Y,_,G⟩:=Qbh T;obtain⟨v',_,I⟩:=MW.1 U;have h3:=E j v e G;have h4:=E n v' e' I;left;omega
theorem QoO (l:List QF):∀(acc:LI),(∀a∈l,YN a.al)->YN acc->YN (l.foldl (λacc a=>mrg (· || ·) acc a.al) acc)/\∀x,x∈l.foldl (λacc a=>mrg (· || ·) acc a.al) acc↔x∈acc\/∃a∈l,x∈a.al:=by
 induction l with
 | nil=>intro acc _ h;exact⟨h,λx=>od⟩
 | cons a l ih =>
  intro acc G h;have I:=G a Lo;obtain⟨J,S⟩:=ih (mrg (· || ·) acc a.al) (λb hb=>G b (Lm _ hb)) (Qki _ _ _ _ (Lp _) h I);rw[LO];refine⟨J,λx=>?_⟩;rw[S x,qq h I];simp only[oJ,exists_eq_or_imp];constructor
  ·rintro(⟨E|E,_⟩|E)
   ·exact .inl E
   ·exact .inr (.inl E)
   exact .inr (.inr E)
  rintro(E|E|E)
  ·exact .inl ⟨.inl E,by simp[E]⟩
  ·exact .inl ⟨.inr E,by simp[E]⟩
  exact .inr E
theorem Qeo {l:List QF}(h:∀a∈l,Zb a):YN (evs l):=(QoO l [] (λa E=>(h a E).ali) od).1
theorem Qen {l:List QF}(h:∀a∈l,Zb a)(x:Int):x∈evs l↔∃a∈l,x∈a.al:=by
 have:=(QoO l [] (λa E=>(h a E).ali) od).2 x;unfold evs;rw[this];simp
def syF (aa:List QF)(tup:List (LI))(j:Nat)(v:Int):Option Ed:=(Ym v aa (tup.getD j [])).map λu=>((j:Int),v,(tup.idxOf u:Int))
theorem Qma (aa:List QF)(tup:List (LI)):zZ (syF aa tup):=by
 intro j v e h;unfold syF at h;obtain⟨u,_,rfl⟩:=M4.1 h;exact⟨O,O⟩
theorem Qbo {α β:Type}{f g:α->Option β}:∀{l:List α},(∀x∈l,f x=g x)->l.filterMap f=l.filterMap g
 | [],_=>rfl
 | x::l,h=>by rw[Mw,Mw,h x Lo,Qbo (λy E=>h y (Lm _ E))]
theorem Qh1 {f:α->Option β}{v:α}{e:β}(h:f v=some e):[v].filterMap f=[e]:=by rw[Mw,h];rfl
theorem QkQ {f:α->Option β}{v:α}(h:f v=none):[v].filterMap f=[]:=by rw[Mw,h];rfl
theorem Qgk {tup:List (LI)}{v:Int}(h:Ym v aa (tup.getD j [])=none):syF aa tup j v=none:=by unfold syF;rw[h];rfl
theorem QaE {tup:List (LI)}{v:Int}(h:Ym v aa (tup.getD j [])=some u):syF aa tup j v=some ((j:Int),v,(tup.idxOf u:Int)):=by unfold syF;rw[h];rfl
def Clo (aa:List QF)(tup:List (LI))(j:Nat)(vs:LI):Prop:=∀v∈vs,∀u,Ym v aa (tup.getD j [])=some u->u∈tup
theorem KC {tup r:List (LI)}(h:j<tup.length):(tup++r).getD j []=tup.getD j []:=by simp[oO,Of h]
theorem QdB {tup r:List (LI)}{vs:LI}(E:j<tup.length)(G:Clo aa tup j vs):vs.filterMap (syF aa (tup++r) j)=vs.filterMap (syF aa tup j):=by
 refine Qbo λv I=>?_;unfold syF;rw[KC E];cases J:Ym v aa (tup.getD j [])with
 | none=>rfl
 | some u =>
  simp only[Ov,Option.some.injEq,Prod.mk.injEq,true_and];rw[Mh,OQ (G v I u J)]
theorem Clo.pre {tup r:List (LI)}{vs:LI}(G:j<tup.length)(I:Clo aa tup j vs):Clo aa (tup++r) j vs:=by
 intro v J u E;rw[KC G]at E;exact L8 _ (I v J u E)
theorem J6 {l:List α}{u:α}(h:l.Nodup)(E:u∉l):(l++[u]).Nodup:=by
 rw[Mr];exact⟨h,od,λa G b hb=>by simp only[oF]at hb;subst hb;exact λe=>E (by rw[<-e];exact G)⟩
theorem yt {aa:List QF}{i:Nat}:∀(vs:LI) (s J:Sy),i<s.tup.length->s.tup.Nodup->Ug aa i (UP s i) vs s=some J ->
  ∃r,J.tup=s.tup++r/\J.mk'=s.mk'/\J.ed=s.ed++vs.filterMap (syF aa J.tup i)/\Clo aa J.tup i vs/\J.tup.Nodup
 | [],s,J,_,hd,e=>by cases e;exact⟨[],od,rfl,od,λv hv=>(by cases hv),hd⟩
 | v::vs,s,J,hi,hd,e=>by
  rw[Ug]at e;obtain⟨S,E,h2⟩:=MH.1 e;have key:∃V,S.tup=s.tup++V/\S.mk'=s.mk'/\S.ed=s.ed++[v].filterMap (syF aa S.tup i)/\Clo aa S.tup i [v]/\S.tup.Nodup:=by
   unfold syE at E;have eT:UP s i=s.tup.getD i []:=rfl;rw[eT]at E;cases T:Ym v aa (s.tup.getD i [])with
   | none =>
    rw[T]at E;cases E
    refine⟨[],od,rfl,by rw[QkQ (Qgk T),On],λv' G u I=>?_,hd⟩;simp only[oF]at G;subst G;rw[T]at I;cases I
   | some u =>
    rw[T]at E;simp only[]at E;by_cases I:u∈s.tup
    ·rw[OQ I]at E;cases E
     refine⟨[],od,rfl,by rw[Qh1 (QaE T)],λv' G u' U=>?_,hd⟩;simp only[oF]at G;subst G;simp only[]at U ⊢;rw[T]at U;cases U;exact I
    rw[OP I]at E;split at E
    ·cases E
    cases E
    have e2:(s.tup++[u]).getD i []=s.tup.getD i []:=KC hi;have e3:(s.tup++[u]).idxOf u=s.tup.length:=by rw[Mh,OP I];simp
    refine⟨[u],O,O,?_,λv' G u' U=>?_,J6 hd I⟩
    ·rw[Qh1 (QaE (tup:=s.tup++[u]) (u:=u) (by rw[e2];exact T)),e3]
    simp only[oF]at G;subst G;rw[e2,T]at U;cases U;simp
  obtain⟨V,k1,k2,k3,k4,k5⟩:=key;have Y:i<S.tup.length:=by rw[k1];simp;omega
  have eT:UP S i=UP s i:=by unfold UP;rw[k1];exact KC hi
  rw[<-eT]at h2;obtain⟨r2,g1,g2,g3,g4,g5⟩:=yt vs S J Y k5 h2;refine⟨V++r2,by rw[g1,k1,LE],g2.D k2,?_,?_,g5⟩
  ·rw[g3,k3,LE];congr 1;rw[show v::vs=[v]++vs from rfl,List.filterMap_append];congr 1;rw[g1];exact(QdB Y k4).symm
  intro v' G u I;rcases Ll.1 G with rfl|G
  ·have:=k4.pre (r:=r2) Y;rw[<-g1]at this;exact this v' Lo u I
  exact g4 v' G u I
structure SyG (aa:List QF)(i:Nat)(s:Sy):Prop where
 nd:s.tup.Nodup
 le:i<=s.tup.length
 hd:s.tup.getD 0 []=oG aa.length 0/\0<s.tup.length
 mk2:s.mk'=((oN 0 i).filter λj=>Je aa (s.tup.getD j [])).map λj:Nat=>(j:Int)
 ed:s.ed=grid (syF aa s.tup) (evs aa) i
 cl:∀j,j<i->Clo aa s.tup j (evs aa)
theorem Jf {α β:Type}{f g:α->List β}:∀{l:List α},(∀x∈l,f x=g x)->l.flatMap f=l.flatMap g
 | [],_=>rfl
 | x::l,h=>by rw[LK,LK,h x Lo,Jf (λy E=>h y (Lm _ E))]
theorem SyG.next {s E:Sy}(h:SyG aa i s)(hi:i<s.tup.length)(e:Ug aa i (UP s i) (evs aa) (Z1 aa i (UP s i) s)=some E):SyG aa (i+1) E:=by
 have I:(Z1 aa i (UP s i) s).tup=s.tup:=by unfold Z1;split <;> rfl
 have U:(Z1 aa i (UP s i) s).ed=s.ed:=by unfold Z1;split <;> rfl
 have hT:UP (Z1 aa i (UP s i) s) i=UP s i:=by show(Z1 aa i (UP s i) s).tup.getD i []=s.tup.getD i [];rw[I]
 rw[<-hT]at e;obtain⟨r,g1,V,T,Y,g5⟩:=yt (evs aa) _ E (by rw[I];exact hi) (by rw[I];exact h.nd) (by rw[hT]at e ⊢;exact e);rw[I]at g1;rw[U]at T;have pre:∀j,j<=i->E.tup.getD j []=s.tup.getD j []:=λj G=>by rw[g1];exact KC oa
 refine⟨g5,by rw[g1];simp;omega,⟨by rw[pre 0 oa];exact h.hd.1,by rw[g1];simp;omega⟩,?_,?_,λj G=>?_⟩
 ·rw[V,MM,LR,Lv,LT];have e1:((oN 0 i).filter λj=>Je aa (E.tup.getD j []))=(oN 0 i).filter λj=>Je aa (s.tup.getD j []):=by
   refine List.filter_congr λj G=>?_;rw[Mu]at G;rw[pre j oa]
  rw[e1];unfold Z1;by_cases J:Je aa (UP s i)=true
  ·rw[OQ J];have S:Je aa (E.tup.getD i [])=true:=by rw[pre i (Lp _)];exact J
   simp only[OE,S,if_true,List.filter_nil,oT,OG];rw[h.mk2]
  rw[OP J];have S:Je aa (E.tup.getD i [])=false:=by rw[pre i (Lp _)];exact eq_false_of_ne_true J
  rw[L6,OP (by rw[S];simp),MU,h.mk2];simp
 ·rw[T,Uy,h.ed];congr 1;unfold grid;refine Jf λj G=>?_;rw[Mu]at G;rw[g1];exact(QdB oa (h.cl j oa)).symm
 by_cases e2:j=i
 ·subst e2;exact Y
 have:=(h.cl j oa).pre (r:=r) oa;rw[<-g1]at this;exact this
theorem QaD {aa:List QF}:∀(f i:Nat) (s E:Sy),SyG aa i s->syL aa f i s=some E->∃G,SyG aa G E/\(E.tup.length=G\/G=i+f)
 | 0,i,s,E,h,e=>by cases e;exact⟨i,h,.inr O⟩
 | f+1,i,s,E,h,e=>by
  rw[syL]at e;split at e
  ·rename_i hi;obtain⟨I,J,S⟩:=MH.1 e;obtain⟨G,T,U⟩:=QaD f (i+1) I E (h.next hi J) S;exact⟨G,T,oa⟩
  cases e;exact⟨i,h,.inl (oo h.le)⟩
structure SyP (aa:List QF)(A:QF)(Q:List (LI)):Prop where
 al:A.al=evs aa
 st:A.st=(Q.length:Int)
 nd:Q.Nodup
 v:∀t∈Q,Vt aa t
 le:Q.length<=4096
 hd:0<Q.length->Q.getD 0 []=oG aa.length 0
 mk2:A.mr=((oN 0 Q.length).filter λj=>Je aa (Q.getD j [])).map λj:Nat=>(j:Int)
 ed:A.ed=grid (syF aa Q) (evs aa) Q.length
 cl:∀j,j<Q.length->Clo aa Q j (evs aa)
theorem Xb (S:∀a∈aa,Zb a){A:QF}{Q:List (LI)}(h:xd aa=some (A,Q)):SyP aa A Q/\(Q.length=0↔∃a∈aa,a.st=0):=by
 have G:=qh S h;unfold xd at h;split at h
 ·rename_i I;cases h
  exact⟨⟨O,O,od,od,od,λh=>by simp at h,od,by simp[grid],λj J=>by simp at J⟩,ou I⟩
 rename_i I;obtain⟨s,T,U⟩:=M4.1 h;have V:SyG aa 0 (qE aa):=⟨by simp[qE],od,⟨by simp[qE],by simp[qE]⟩,by simp[qE],by simp[qE,grid],λj J=>oa⟩;obtain⟨Y,E,h4⟩:=QaD 4096 0 (qE aa) s V T;cases U
 have hl:Y=s.tup.length:=by
  have h5:=E.le;have h6:=G.2;simp only[]at h6;omega
 subst hl;refine⟨⟨rfl,O,E.nd,G.1,G.2,λ_=>E.hd.1,E.mk2,E.ed,E.cl⟩,?_⟩;have:=E.hd.2;constructor
 ·intro h;have h7:s.tup.length=0:=h;omega
 intro h;exact OS h I
theorem SyP.to {A:QF}{Q:List (LI)}(h:SyP aa A Q)(G:j<Q.length){v:Int}(I:v∈evs aa)(J:Ym v aa (Q.getD j [])=some u):Q.idxOf u<Q.length/\Q.getD (Q.idxOf u) []=u:=by
 have E:=MG (h.cl j G v I u J);refine⟨E,?_⟩;simp[oO,E]
theorem SyP.okay (G:∀a∈aa,Zb a){A:QF}{Q:List (LI)}(h:SyP aa A Q):Zb A:=by
 have Y:=h.le;refine⟨λe E=>?_,by rw[h.al];exact Qeo G,by rw[h.st];omega,by rw[h.st];omega,λs I=>?_,?_,λe E=>?_,by rw[h.ed];exact Qef (Qma aa Q) (Qeo G) _⟩
 ·rw[h.al]at E;obtain⟨a,T,hx⟩:=(Qen G e).1 E;exact(G a T).al e hx
 ·rw[h.mk2]at I;simp only[OF,Ow,Oy]at I;obtain⟨i,⟨hi,_⟩,rfl⟩:=I;rw[h.st];omega
 ·rw[h.mk2];unfold YN;rw[L7];refine List.Pairwise.sublist MO ?_;exact(Nd (s:=0) (n:=Q.length)).imp (λh=>oa)
 rw[h.ed]at E;obtain⟨j,v,U,J,S⟩:=Qbh E;unfold syF at S;obtain⟨u,V,rfl⟩:=M4.1 S;have:=(h.to U J V).1;rw[h.st,h.al];exact⟨oe,oe,J,oe,oe⟩
open Go.RowKit
instance:LawfulBEq ByteArray where
 eq_of_beq h:=(MapKept.bytes_beq _ _).1 h;rfl:=(MapKept.bytes_beq _ _).2 O
def chr (s:ByteArray)(i:Nat):Nat:=(s.get! i).toNat
theorem Qns {s:ByteArray}(h:i<s.size):(s[i]'h).toNat=chr s i:=by
 unfold chr;obtain⟨d⟩:=s;have hd:i<d.size:=h;simp[ByteArray.get!,hd,ByteArray.getElem_eq_getElem_data]
theorem QfE {a b:ByteArray}(h:a.data.toList=b.data.toList):a=b:=by
 obtain⟨⟨x⟩⟩:=a;obtain⟨⟨y⟩⟩:=b;have E:x=y:=h;rw[E]
theorem bytes_beq (a b:ByteArray):(a.toList == b.toList)=decide (a=b):=by
 rw[ByteArray.toList_eq,ByteArray.toList_eq];by_cases h:a=b
 ·subst h;simp
 rw[OV h];have:a.data.toList≠b.data.toList:=λe=>h (QfE e);simpa using this
section
variable {t':Nat}{x:OZ}
theorem QgM [h:St P t]{s:ByteArray}{k:IntKind}(hx:ev f x=.string s)(G:ev f y=.int k i)(hi:i<s.size):
  (execOp (ev f) ⟨d,.index t x y,ty,pS,af,gd⟩).run P w=.ok (.value (.int .u8 (chr s i))) w:=by
 have E:=run_index_string (P:=P) w t s k i h.u;rw[dif_pos ⟨oa,oa⟩]at E;have e:(s[(i:Int).toNat]'(ou hi)).toNat=chr s i:=Qns hi;simp only[execOp,hx,G,Sem.run_bind,E,Result.andThen_ok,Sem.run_pure,e]
theorem Qcw [h:St P t]{s:ByteArray}(hx:ev f x=.string s):
  (execOp (ev f) ⟨d,.call ⟨.builtin .len,#[x],#[t]⟩,ty,pS,af,gd⟩).run P w=.ok (.value (sS s.size)) w:=QgL h.u hx
theorem jA {a b:ByteArray}(hx:ev f x=.string a)(E:ev f y=.string b):
  (execOp (ev f) ⟨d,.binOp .eql t x y t',ty,pS,af,gd⟩).run P w=.ok (.value (.bool (decide (a=b)))) w:=by
 have G:(eqGuard .eql t x y (.string a) (.string b)).run P w=.ok () w:=by simp[eqGuard]
 simp only[execOp,hx,E,Sem.run_bind,G,Result.andThen_ok,binOp_string_eql,Sem.run_pure,bytes_beq]
theorem YA {a b:ByteArray}(hx:ev f x=.string a)(E:ev f y=.string b)(J:a.size+b.size<=1000000000):
  (execOp (ev f) ⟨d,.binOp .add t x y t',ty,pS,af,gd⟩).run P w=.ok (.value (.string (a++b))) w:=by
 have G:(eqGuard .add t x y (.string a) (.string b)).run P w=.ok () w:=by simp[eqGuard]
 have I:¬(((a.size+b.size:Nat):Int) > IntKind.i64.max):=by
  rw[show IntKind.i64.max=9223372036854775807 from rfl];omega
 simp only[execOp,hx,E,Sem.run_bind,G,Result.andThen_ok,binOp_string_add,Op.stringOp,OP I,Sem.run_pure]
end
section
variable {P:O0}{ops:xz}{K:xt}{f:Fr}{w:OX}{d:xA}{ty:Nat}{pS:String}{af:xx}{gd:xj}{l:xz}
 {t e sz bys:Nat} {z:OY} {x y1 y2:OZ} {L:LN} {v:OY} {n:Nat} {cs:LV} {H:xw} {k k':IntKind} {hi:Nat}
theorem QgH [h:Sl P t e sz bys z](hA:Zs L H v n sz cs)(hx:ev f x=v)(G:ev f y1=.int k hi)(I:ev f y2=.int k' hi)(U:hi<=n):
  ∃v',Zs L H v' hi sz (cs.take (hi*sz))/\∀w,(execOp (ev f) ⟨d,.slice t x none (some y1) (some y2),ty,pS,af,gd⟩).run P w=.ok (.value v') w:=by
 obtain⟨ii,J,_,V,_⟩:=Sl.info h;rcases hA.2.2 with⟨rfl,rfl⟩|⟨a,cap,rfl,Y,S⟩
 ·have T:hi=0:=oa
  subst T;refine⟨nS,?_,λw=>?_⟩
  ·rw[Nat.zero_mul,Nu];exact Zs.nil _ _ _
  simp[execOp,hx,G,I,Instr.sliceAt,Instr.slice,Instr.sliceBounds,Instr.sliceBound,asIntOf,run_underlying h.u,sizeOf,typeInfo,J]
 refine⟨.slice (some a) hi hi,⟨?_,oo hA.2.1,.inr ⟨a,hi,O,Lp _,λu E=>S.out u (L3 E),λu E=>S.lt u (L3 E),λj u E=>?_⟩⟩,λw=>?_⟩
 ·rw[LA,hA.1,M7 (MI _ U)]
 ·rw[LW]at E;split at E
  ·exact S.cell j u E
  cases E
 by_cases T:hi=0
 ·subst T;simp[execOp,hx,G,I,Instr.sliceAt,Instr.slice,Instr.sliceBounds,Instr.sliceBound,asIntOf,run_underlying h.u,sizeOf,typeInfo,J]
 simp[execOp,hx,G,I,Instr.sliceAt,Instr.slice,Instr.sliceBounds,Instr.sliceBound,asIntOf,run_underlying h.u,sizeOf,typeInfo,J,Addr.add];intro h9;omega
end
section
variable {l:xz}{o:Oper}{C:xu}{pl:xo}
theorem xB {b:Bool}(E:(execOp (ev f) o).run P w=.ok (.value (.bool b)) w)(I:b=true->XL P ops K l (QO f o.dst (.bool true)) w)(J:b=false->XL P ops K l (QO f o.dst (.bool false)) w)
  (G:Z3 ops f o=true:=by rfl):XL P ops K (o::l) f w:=by
 cases hb:b with
 | true=>rw[hb]at E;exact x E (I hb) G
 | false=>rw[hb]at E;exact x E (J hb) G
theorem pB {b:Bool}(E:∀w',(execOp (ev f) (QR ops i)).run P w'=.ok (.value (.bool b)) w')(I:b=true->XP P ops C K pl (QO f (QR ops i).dst (.bool true)) w)(J:b=false->XP P ops C K pl (QO f (QR ops i).dst (.bool false)) w)
  (G:Z3 ops f (QR ops i)=true:=by rfl):XP P ops C K ((i,true)::pl) f w:=by
 cases hb:b with
 | true=>rw[hb]at E;exact p E (I hb) G
 | false=>rw[hb]at E;exact p E (J hb) G
theorem Qac {G:Prop}(b:Bool)(E:b=true->G)(I:b=false->G):G:=by cases h:b with|true=>exact E h|false=>exact I h
theorem bT [Decidable q](h:q):true=decide q:=(OT h).symm
theorem bF [Decidable q](h:¬q):false=decide q:=(OV h).symm
theorem bD {r:Prop}[Decidable q][Decidable r](h:q↔r):decide q=decide r:=decide_eq_decide.2 h
end
section
variable {x:OZ}
theorem qR [Decidable q](hx:ev f x=.bool (decide q)):(execOp (ev f) ⟨d,.unOp .not t x,ty,pS,af,gd⟩).run P w=.ok (.value (.bool (decide (¬q)))) w:=by
 rw[Zh hx];simp
end
structure KX where
 nm:ByteArray
 co:Bool
 ob:Bool
 fo:Bool
 fl:Int
structure Kp where
 nm:ByteArray
 a:QF
structure Exc where
 nm:ByteArray
 ls:xq
structure xG where
 nm:ByteArray
 ts:xq
 bd:Int
structure Yl where
 ev:List KX
 co:List Kp
 rq:List Kp
 ex:List Exc
 cs:List xG
def UO (n:Nat):LI:=(oK n).map λi:Nat=>(i:Int)
def nmP (i c:Nat):Prop:=((97<=c/\c<=122)\/(65<=c/\c<=90)\/c=95)\/(i≠0/\48<=c/\c<=57)
instance (i c:Nat):Decidable (nmP i c):=by unfold nmP;infer_instance
def nmQ (s:ByteArray)(i:Nat):Bool:=decide (nmP i (chr s i))
def Xn (s:ByteArray):Bool:=(oN 0 s.size).all (nmQ s) && decide (0<s.size/\s.size<=32)
def XM (seen:List ByteArray)(e:KX):Int:=if Xn e.nm=false then 7 else if e.nm∈seen then 8 else if e.fl<0\/4<e.fl then 2 else if e.fl≠0/\(e.co || e.ob)=true then 13 else 0
def UV:List ByteArray->List KX->Int
 | _,[]=>0
 | seen,e::l=>if XM seen e≠0 then XM seen e else UV (seen++[e.nm]) l
def Xr (l:List KX):Int:=if 32<l.length then 3 else UV [] l
def ixs {α:Type}(q:α->Bool):Nat->List α->LI
 | _,[]=>[]
 | i,e::l=>if q e=true then(i:Int)::ixs q (i+1) l else ixs q (i+1) l
def unc (l:List KX):LI:=ixs (λe=>!e.co) 0 l
def XD (sz:LI):Option Int->List (Int×Int)->Int
 | _,[]=>0
 | pr,l::ls=>if l.1<0\/(sz.length:Int)<=l.1 then 2 else if zd pr l.1=true then 5 else if l.2<0\/O2 sz l.1.toNat<=l.2 then 2 else XD sz (some l.1) ls
def Km (sz:LI)(ls:xq):Int:=if ls.length=0 then 12 else XD sz none ls
def grt (n:Int):Bool:=decide (n < -65536) || decide (65536<n)
def JA (sz:LI):Option Int->List (Int×Int)->Int
 | _,[]=>0
 | pr,l::ls=>if l.1<0\/(sz.length:Int)<=l.1 then 2 else if zd pr l.1=true then 5 else if l.2=0\/grt l.2=true then 2 else JA sz (some l.1) ls
def Xk (sz:LI)(k:xG):Int:=if k.ts.length=0 then 12 else if JA sz none k.ts≠0 then JA sz none k.ts else if grt k.bd=true then 2 else 0
def UF (seen:List ByteArray)(s:ByteArray):Int:=if Xn s=false then 7 else if s∈seen then 8 else 0
def YT (sz:LI):List ByteArray->List Exc->Int
 | _,[]=>0
 | seen,x::l=>if UF seen x.nm≠0 then UF seen x.nm else if Km sz x.ls≠0 then Km sz x.ls else YT sz (seen++[x.nm]) l
def Xg (sz:LI):List ByteArray->List xG->Int
 | _,[]=>0
 | seen,x::l=>if UF seen x.nm≠0 then UF seen x.nm else if Xk sz x≠0 then Xk sz x else Xg sz (seen++[x.nm]) l
def K6 (n:Int):Bool:=decide (n<1) || decide (4096<n)
def Y8 (sz:LI)(ex:List Exc)(cs:List xG):Int:=if 8<sz.length then 3 else if sz.any K6=true then 2 else if 32<ex.length\/32<cs.length then 3 else if YT sz [] ex≠0 then YT sz [] ex else Xg sz [] cs
def mns (a b:LI):LI:=mrg (λp q=>p && !q) a b
def US (a:QF):Bool:=decide (XK a=0) && decide ((X0 a).st=a.st/\(X0 a).al=a.al/\(X0 a).mr=a.mr/\(X0 a).ed=a.ed)
def YG (nev:Nat)(amg:LI)(seen:List ByteArray)(x:Kp):Int :=
 if Xn x.nm=false then 7 else if x.nm∈seen then 8 else if XK x.a≠0 then XK x.a else if US x.a=false then 6 else if x.a.st=0 then 12 else
 if(x.a.al.any λe=>decide ((nev:Int)<=e))=true then 2 else if(mns x.a.al amg).length≠0 then 9 else 0
def YU (nev:Nat)(al:LI):List ByteArray->LI->List Kp->Int×List ByteArray×LI
 | s,u,[]=>(0,s,u)
 | s,u,x::l=>if YG nev al s x≠0 then(YG nev al s x,s,u)else YU nev al (s++[x.nm]) (mrg (· || ·) u x.a.al) l
def KH (nev:Nat)(u:LI):List ByteArray->List Kp->Int
 | _,[]=>0
 | s,x::l=>if YG nev u s x≠0 then YG nev u s x else KH nev u (s++[x.nm]) l
def szs (l:List Kp):LI:=l.map (·.a.st)
def O3 (l:List Kp):List QF:=l.map (·.a)
def ZW (c:Yl):Int :=
 if Xr c.ev≠0 then Xr c.ev else if c.co.length=0 then 12 else if 8<c.co.length\/12<c.co.length+c.rq.length then 3 else
 if(YU c.ev.length (UO c.ev.length) [] [] c.co).1≠0 then(YU c.ev.length (UO c.ev.length) [] [] c.co).1 else
 if KH c.ev.length (YU c.ev.length (UO c.ev.length) [] [] c.co).2.2 (YU c.ev.length (UO c.ev.length) [] [] c.co).2.1 c.rq≠0 then KH c.ev.length (YU c.ev.length (UO c.ev.length) [] [] c.co).2.2 (YU c.ev.length (UO c.ev.length) [] [] c.co).2.1 c.rq else
 Y8 (szs c.co) c.ex c.cs
def Vb (t:LI)(x:Exc):Bool:=x.ls.all λl=>decide (t.getD l.1.toNat 0=l.2)
def Qoe (t:LI)(k:xG):Int:=k.ts.foldl (λs p=>s+p.2*t.getD p.1.toNat 0) 0
def Ue (t:LI)(k:xG):Bool:=decide (k.bd<Qoe t k)
def vio (c:Yl)(t:LI):Option (Int×Int):=
 if 0<=fix (Vb t) 0 c.ex then some (1,fix (Vb t) 0 c.ex)else if 0<=fix (Ue t) 0 c.cs then some (2,fix (Ue t) 0 c.cs)else none
def rfr (v:Int):Nat->List Kp->LI->Int
 | i,x::l,s::ss=>if v∈x.a.al/\(O9 x.a.ed s v).isSome=false then(i:Int)else rfr v (i+1) l ss
 | _,_,_=>-1
structure Rsn where
 st:Int
 kd:Int
 ix:Int
 ev:Int
def rfd (c:Yl)(rs:LI):LI->Option (Int×Int)
 | []=>none
 | v::l=>if 0<=rfr v 0 c.rq rs/\(c.ev.getD v.toNat ⟨.empty,false,false,false,0⟩).co=false then some (rfr v 0 c.rq rs,v)else rfd c rs l
def Qft (a:QF)(s:Int):LI:=(QS a.ed s).map (·.2.1)
def rsn (c:Yl)(pl:QF)(plc:Int)(i:Nat)(t:LI):Option Rsn :=
 match vio c (t.take c.co.length)with
 | some (k,j)=>some ⟨i,k,j,-1⟩
 | none=>match rfd c (t.drop c.co.length) (Qft pl plc)with
  | some (j,v)=>some ⟨i,3,j,v⟩
  | none=>none
structure Spc where
 a:QF
 co:List (LI)
 rq:List (LI)
 pl:LI
 fb:List Rsn
def plx (ps:List (LI))(t:LI):Int:=if t∈ps then(ps.idxOf t:Int)else 0
def Qme (c:Yl)(pl:QF)(ps:List (LI))(s:Spc)(p:LI×Nat):Spc :=
 ⟨s.a,s.co++[p.1.take c.co.length],s.rq++[p.1.drop c.co.length],s.pl++[plx ps (p.1.take c.co.length)],
  match rsn c pl (plx ps (p.1.take c.co.length)) p.2 p.1 with|some r=>s.fb++[r]|none=>s.fb⟩
def Y2 (c:Yl):Int:=if ZW c≠0 then ZW c else if K5 (O3 c.co)≠0 then K5 (O3 c.co)else match xd (O3 c.co)with
 | none=>3
 | some _=>if K5 (O3 c.co++O3 c.rq)≠0 then K5 (O3 c.co++O3 c.rq)else match xd (O3 c.co++O3 c.rq)with
  | none=>3
  | some _=>0
def Kq (l:List QF):QF:=match xd l with|none=>⟨[],0,[],[]⟩|some z=>z.1
def syQ (l:List QF):List (LI):=match xd l with|none=>[]|some z=>z.2
def spc (c:Yl):Spc:=(syQ (O3 c.co++O3 c.rq)).zipIdx.foldl (Qme c (Kq (O3 c.co)) (syQ (O3 c.co))) ⟨Kq (O3 c.co++O3 c.rq),[],[],[],[]⟩
theorem Qcv [h:Bk P t]{x:OZ}{a b:Bool}(hx:ev f x=.bool a)(G:ev f y=.bool b):
  (execOp (ev f) ⟨d,.binOp .neq t x y E,ty,pS,af,gd⟩).run P w=.ok (.value (.bool (!(a == b)))) w:=by
 have I:(eqGuard .neq t x y (.bool a) (.bool b)).run P w=.ok () w:=by simp[eqGuard]
 simp[execOp,hx,G,I,run_neq_bool (P:=P) (w:=w) t a b h.u]
inductive Pu where
 | pl (l:xo)
 | f2 (pre:xo) (i j:Nat) (t1 t2:Pu)
 | f3 (pre:xo) (i j k:Nat) (t1 t2 t3:Pu)
def Pu.len:Pu->Nat
 | .pl l=>l.length
 | .f2 pre _ _ t1 _=>pre.length+(1+t1.len)
 | .f3 pre _ _ _ t1 _ _=>pre.length+(1+t1.len)
def jD (all:Array Oper):Pu->Array Bool->Bool
 | .pl l,ls=>Y7 all l ls
 | .f2 pre i j t1 t2,ls=>XQ all pre ls && Region.ready .any all (ZO pre ls) == [i,j] && t1.len == t2.len && jD all t1 ((ZO pre ls).setIfInBounds i true) && jD all t2 ((ZO pre ls).setIfInBounds j true)
 | .f3 pre i j k t1 t2 t3,ls=>XQ all pre ls && Region.ready .any all (ZO pre ls) == [i,j,k] && t1.len == t2.len && t1.len == t3.len && jD all t1 ((ZO pre ls).setIfInBounds i true) && jD all t2 ((ZO pre ls).setIfInBounds j true) && jD all t3 ((ZO pre ls).setIfInBounds k true)
def Qoj (all:xz)(t:Pu):Bool:=Region.noSelect all.toArray && t.len == all.length && jD all.toArray t (oP all.length false)
def XE (P:O0)(all:xz)(C:xu)(i:Nat)(N:xt)(f:Fr)(w:OX):Prop:=Z3 all f (QR all i)=true/\XO P (QR all i) f w λE w'=>C w'/\N E w'
def XU (P:O0)(all:xz)(C:xu)(K:xt):Pu->Fr->OX->Prop
 | .pl l=>XP P all C K l
 | .f2 pre i j t1 t2=>XP P all C (λf w=>XE P all C i (XU P all C K t1) f w/\XE P all C j (XU P all C K t2) f w) pre
 | .f3 pre i j k t1 t2 t3=>XP P all C (λf w=>XE P all C i (XU P all C K t1) f w/\XE P all C j (XU P all C K t2) f w/\XE P all C k (XU P all C K t3) f w) pre
section
variable {all:xz}{C:xu}{B:xt}
theorem JV (E:Region.noSelect all.toArray=true):∀(t:Pu) (ls:Array Bool) (f:Fr) (w:OX),ls.size=all.length->C w->jD all.toArray t ls=true->XU P all C K t f w->XA P all C K t.len ls f w
 | .pl l,ls,f,w,U,hC,G,h=>Yi E l ls f w U (.inl hC) G h
 | .f2 pre i j t1 t2,ls,f,w,U,hC,G,h=>by
  simp only[jD,oI,beq_iff_eq]at G;obtain⟨⟨⟨⟨Y,I⟩,hl⟩,h1⟩,h2⟩:=G;rw[Pu.len];refine Yx (B:=λf w=>XE P all C i (XU P all C K t1) f w/\XE P all C j (XU P all C K t2) f w) E pre ls f w hC Y (λf J=>?_) h;have S:∀k,((ZO pre ls).setIfInBounds k true).size=all.length:=λk=>by simp[YB,U]
  rw[MT 1];refine JC (λh0=>(by rw[h0]at I;cases I)) ?_;rw[I];intro k V o T;simp only[oJ,oH,or_false]at V;rcases V with rfl|rfl
  ·have:=J.1;unfold XE at this;rw[ZD T]at this;rw[this.1,cond_true];exact this.2.Y λv w' hx=>⟨.inr (.inr hx.1),JV E t1 _ _ _ (S _) hx.1 h1 hx.2⟩
  have:=J.2;unfold XE at this;rw[ZD T]at this;rw[this.1,cond_true,hl];exact this.2.Y λv w' hx=>⟨.inr (.inr hx.1),JV E t2 _ _ _ (S _) hx.1 h2 hx.2⟩
 | .f3 pre i j k t1 t2 t3,ls,f,w,U,hC,G,h=>by
  simp only[jD,oI,beq_iff_eq]at G;obtain⟨⟨⟨⟨⟨⟨Y,I⟩,hl⟩,ha⟩,h1⟩,h2⟩,h3⟩:=G;rw[Pu.len];refine Yx (B:=λf w=>XE P all C i (XU P all C K t1) f w/\XE P all C j (XU P all C K t2) f w/\XE P all C k (XU P all C K t3) f w) E pre ls f w hC Y (λf J=>?_) h;have S:∀k,((ZO pre ls).setIfInBounds k true).size=all.length:=λk=>by simp[YB,U]
  rw[MT 1];refine JC (λh0=>(by rw[h0]at I;cases I)) ?_;rw[I];intro q V o T;simp only[oJ,oH,or_false]at V;rcases V with rfl|rfl|rfl
  ·have:=J.1;unfold XE at this;rw[ZD T]at this;rw[this.1,cond_true];exact this.2.Y λv w' hx=>⟨.inr (.inr hx.1),JV E t1 _ _ _ (S _) hx.1 h1 hx.2⟩
  ·have:=J.2.1;unfold XE at this;rw[ZD T]at this;rw[this.1,cond_true,hl];exact this.2.Y λv w' hx=>⟨.inr (.inr hx.1),JV E t2 _ _ _ (S _) hx.1 h2 hx.2⟩
  have:=J.2.2;unfold XE at this;rw[ZD T]at this;rw[this.1,cond_true,ha];exact this.2.Y λv w' hx=>⟨.inr (.inr hx.1),JV E t3 _ _ _ (S _) hx.1 h3 hx.2⟩
theorem QeG {Q:Exit->Fr->OX->Prop}(C:xu)(t:Pu)(I:P.follows .mixedOrders=true)(J:Xf n all=true)(E:Qoj all t=true)
  (hC:C { w with drawn:=w.drawn+1 }) (h:XU P all C (λf w=>Q .normal f w) t f { w with drawn:=w.drawn+1 }):W P n (.region id all.toArray true) Q f w:=by
 simp only[Qoj,oI,beq_iff_eq]at E;obtain⟨⟨S,T⟩,E⟩:=E;refine Jj C I J ?_;have G:=JV S t _ _ _ od hC E h;rw[T]at G;exact G
theorem uP {l:xo}(h:XP P all C K l f w):XU P all C K (.pl l) f w:=h
theorem u2 {pre:xo}{E G:Pu}(h:XP P all C (λf w=>XE P all C i (XU P all C K E) f w/\XE P all C j (XU P all C K G) f w) pre f w):XU P all C K (.f2 pre i j E G) f w:=h
theorem u3 {pre:xo}{k:Nat}{E G I:Pu}(h:XP P all C (λf w=>XE P all C i (XU P all C K E) f w/\XE P all C j (XU P all C K G) f w/\XE P all C k (XU P all C K I) f w) pre f w):XU P all C K (.f3 pre i j k E G I) f w:=h
theorem ue {N:xt}(h:XO P (QR all i) f w λE w'=>C w'/\N E w')(G:Z3 all f (QR all i)=true:=by rfl):XE P all C i N f w:=⟨G,h⟩
end
attribute [irreducible] XU XE
open Go.RowKit
abbrev fen (ro:xA):Fence:={ Fence.wide with round:=ro }
def coll (ds:LN):List Deferred:=ds.map λD=>{ target:=.collected D,args:=#[] }
structure Y3 (n:Nat)(ds:LN)(a:Act)(f:Fr):Prop where
 size:a.tmps.size=n
 defers:a.defers=coll ds
 get:∀t,a.tmps.getD t undef=f t
theorem Y3.rel {a:Act}(h:Y3 n ds a f):Rel n { a with defers:=[] } f:=⟨h.size,O,h.get⟩
theorem Y3.eval {n:Nat}{ds:LN}{a:Act}{f:Fr}(h:Y3 n ds a f):a.eval=ev f:=by
 have:=h.rel.eval;rw[<-this];funext x;cases x <;> rfl
theorem Y3.put {n:Nat}{ds:LN}{a:Act}{f:Fr}(h:Y3 n ds a f){dst:xA}(hd:∀d,dst=some d->d<n)(v:OY):Y3 n ds (a.put dst v) (QO f dst v):=by
 have:=h.rel.put hd v;cases dst with
 | none=>exact h
 | some d=>exact⟨this.size,h.defers,this.get⟩
def XN:Code->Nat->Bool
 | .region _ ops _,t=>Ye ops.toList t
 | .seq a b,t=>XN a t || XN b t
 | .cond _ a b,t=>XN a t || XN b t
 | .block _ a,t=>XN a t
 | .loop a,t=>XN a t
 | .skip,_| .exit _,_| .label _,_| .goto _,_| .ret,_| .rangeFunc ..,_=>false
 | _,_=>true
def wrG (D:xp):Code->Bool
 | .region _ ops _=>Qdy D ops.toList
 | .seq a b=>wrG D a && wrG D b
 | .cond _ a b=>wrG D a && wrG D b
 | .block _ a=>wrG D a
 | .loop a=>wrG D a
 | .skip| .exit _| .label _| .goto _| .ret| .rangeFunc ..=>true
 | _=>false
theorem Jt {D:xp}{t:Nat}(E:JH D t=false):∀c:Code,wrG D c=true->XN c t=false
 | .region _ ops _,h=>yo h E
 | .seq a b,h=>by simp only[wrG,oI]at h;simp[XN,Jt E a h.1,Jt E b h.2]
 | .cond _ a b,h=>by simp only[wrG,oI]at h;simp[XN,Jt E a h.1,Jt E b h.2]
 | .block _ a,h=>Jt E a (by simpa[wrG]using h)
 | .loop a,h=>Jt E a (by simpa[wrG]using h)
 | .skip,_=>rfl
 | .exit _,_=>rfl
 | .label _,_=>rfl
 | .goto _,_=>rfl
 | .ret,_=>rfl
 | .rangeFunc ..,_=>rfl
 | .scope _,h=>by simp[wrG]at h
 | .refuse _,h=>by simp[wrG]at h
def WG (ro:xA)(m:Nat)(P:O0)(n:Nat)(c:Code)(Q:Exit->LN->Fr->OX->Prop)(ds:LN)(f:Fr)(w:OX):Prop :=
 ∀a,Y3 n ds a f->c.wpIn (fen ro) m P (λe E w'=>∃ds' f',Y3 n ds' E f'/\(∀t,XN c t=false->f' t=f t)/\Q e ds' f' w') a w
def Qci (K:LN->Fr->OX->Prop)(Q:Exit->LN->Fr->OX->Prop):Exit->LN->Fr->OX->Prop
 | .normal,ds,f,w=>K ds f w
 | e,ds,f,w=>Q e ds f w
def QoX (id:Nat)(Q:Exit->LN->Fr->OX->Prop):Exit->LN->Fr->OX->Prop
 | .exit i,ds,f,w=>bif ON i id then Q .normal ds f w else Q (.exit i) ds f w
 | e,ds,f,w=>Q e ds f w
section
variable {ro:xA}{Q:Exit->LN->Fr->OX->Prop}
theorem WG.Y {c:Code}{Q':Exit->LN->Fr->OX->Prop}(h:WG ro m P n c Q ds f w)(E:∀e ds f w,Q e ds f w->Q' e ds f w):WG ro m P n c Q' ds f w :=
 λa G=>wpIn_mono (h a G) λ_ _ _ ⟨I,J,S,T,U⟩=>⟨I,J,S,T,E _ _ _ _ U⟩
theorem WG.keeps {c:Code}(h:WG ro m P n c Q ds f w):WG ro m P n c (λe G E w'=>(∀t,XN c t=false->E t=f t)/\Q e G E w') ds f w :=
 λa J=>wpIn_mono (h a J) λ_ _ _ ⟨G,E,S,I,T⟩=>⟨G,E,S,I,I,T⟩
theorem Z4 (h:Q .normal ds f w):WG ro m P n .skip Q ds f w:=λ_ E=>wpIn_skip ⟨ds,f,E,λ_ _=>O,h⟩
theorem Jl (h:Q (.exit i) ds f w):WG ro m P n (.exit i) Q ds f w:=λ_ E=>wpIn_exit ⟨ds,f,E,λ_ _=>O,h⟩
theorem JE (h:Q .ret ds f w):WG ro m P n .ret Q ds f w:=λ_ E=>wpIn_ret ⟨ds,f,E,λ_ _=>O,h⟩
theorem QQ {x y:Code}(h:WG ro m P n x (Qci (λds f w=>WG ro m P n y Q ds f w) Q) ds f w):WG ro m P n (.seq x y) Q ds f w:=by
 intro a T;refine wpIn_seq (wpIn_mono (h a T) ?_);rintro e U w' ⟨S,E,G,V,I⟩;have k1:∀t,XN (.seq x y) t=false->E t=f t:=λt J=>V t (by simp only[XN,oZ]at J;exact J.1);cases e with
 | normal =>
  refine wpIn_mono (I U G) λ_ _ _ ⟨Y,hc,g1,g2,g3⟩=>⟨Y,hc,g1,λt J=>(g2 t ?_).D (k1 t J),g3⟩;simp only[XN,oZ]at J;exact J.2
 | exit id=>exact⟨S,E,G,k1,I⟩
 | goto l=>exact⟨S,E,G,k1,I⟩
 | ret=>exact⟨S,E,G,k1,I⟩
 | panic ch=>exact⟨S,E,G,k1,I⟩
 | outgrown=>exact⟨S,E,G,k1,I⟩
theorem QeJ {x y:Code}(D:xp)(S:α->List (Nat×OY))(I:α->LN->OX->Prop)(hD:wrG D x=true)
  (U:WG ro m P n x (Qci (λE J w'=>∃z,YW J (S z)/\I z E w') Q) ds f w)
  (V:∀z g E w',I z E w'->WG ro m P n y Q E (Vc (S z) (mix D f g)) w'):WG ro m P n (.seq x y) Q ds f w:=by
 refine QQ (U.keeps.Y ?_);rintro e E J w' ⟨Y,G⟩;cases e with
 | normal =>
  obtain⟨z,hs,hi⟩:=G;have T:=V z J E w' hi;rw[Ky (λt ht=>Y t (Jt ht x hD)),Xl hs]at T;exact T
 | exit id=>exact G
 | goto l=>exact G
 | ret=>exact G
 | panic ch=>exact G
 | outgrown=>exact G
theorem Kg {c:OZ}{x y:Code}{t:Bool}(I:ev f c=.bool t)(E:t=true->WG ro m P n x Q ds f w)(J:t=false->WG ro m P n y Q ds f w):
  WG ro m P n (.cond c x y) Q ds f w:=by
 intro a G;have S:a.eval c=.bool t:=by rw[G.eval];exact I
 refine wpIn_cond_split S (λe=>wpIn_mono (E e a G) ?_) (λe=>wpIn_mono (J e a G) ?_) <;>
  (rintro e a' w' ⟨T,U,V,Y,h3⟩
   refine⟨T,U,V,λt E=>Y t ?_,h3⟩;simp only[XN,oZ]at E
   first|exact E.1|exact E.2)
theorem QlA {c:OZ}{x y:Code}{p:Prop}[Decidable p](E:ev f c=.bool (decide p))(G:p->WG ro m P n x Q ds f w)(I:¬p->WG ro m P n y Q ds f w):
  WG ro m P n (.cond c x y) Q ds f w :=
 Kg E (λe=>G (OU e)) (λe=>I (OW e))
theorem V9 {c:OZ}{x y:Code}{p:Prop}[Decidable p](E:ev f c=.bool (decide p))(G:¬p->WG ro m P n y Q ds f w)(I:p->WG ro m P n x Q ds f w):
  WG ro m P n (.cond c x y) Q ds f w:=QlA E I G
theorem z0 {c:OZ}{x y:Code}(E:ev f c=.bool true)(h:WG ro m P n x Q ds f w):WG ro m P n (.cond c x y) Q ds f w:=Kg E (λ_=>h) (λe=>by cases e)
theorem JF {c:OZ}{x y:Code}(E:ev f c=.bool false)(h:WG ro m P n y Q ds f w):WG ro m P n (.cond c x y) Q ds f w:=Kg E (λe=>by cases e) (λ_=>h)
theorem ZL {c:Code}(h:WG ro m P n c (QoX id Q) ds f w):WG ro m P n (.block id c) Q ds f w:=by
 intro a S;refine wpIn_block (wpIn_mono (h a S) ?_);rintro e V w' ⟨I,G,J,T,E⟩;have k1:∀t,XN (.block id c) t=false->G t=f t:=λt U=>T t (by simpa[XN]using U);cases e with
 | exit i =>
  simp only[Exit.inBlock];simp only[QoX]at E;by_cases hi:i=id
  ·subst hi;simp only[Nat.beq_refl,cond_true]at E;simp only[if_true];exact⟨I,G,J,k1,E⟩
  have hb:ON i id=false:=by
   cases e:ON i id with
   | false=>rfl
   | true=>exact OS (Nat.eq_of_beq_eq_true e) hi
  rw[hb]at E;rw[OP hi];exact⟨I,G,J,k1,E⟩
 | normal=>exact⟨I,G,J,k1,E⟩
 | goto l=>exact⟨I,G,J,k1,E⟩
 | ret=>exact⟨I,G,J,k1,E⟩
 | panic ch=>exact⟨I,G,J,k1,E⟩
 | outgrown=>exact⟨I,G,J,k1,E⟩
end
def Qd2 (l:xz):Bool:=l.all λo=>match o.op with| .defer _=>false|_=>true
theorem q7 {l:xz}(h:Qd2 l=true):∀o∈l,∀c,o.op≠.defer c:=λo E c e=>by
 have:=L9.1 h o E;rw[e]at this;cases this
section
variable {ro:xA}
theorem QeD {o:Oper}{a:Act}{K':Act->OX->Prop}{Q:Exit->Act->OX->Prop}(h:Y3 n ds a f)(G:∀c,o.op≠.defer c)
  (hK:∀v w',K (QO f o.dst v) w'->K' (a.put o.dst v) w') (hx:XO P o f w K):o.wpIn (fen ro) m P a w K' Q:=by
 unfold XO at hx;refine⟨λ_ _=>trivial,?_⟩;have e:Oper.semAt (fen ro).round a.eval o=execOp (ev f) o:=by
  rw[h.eval];cases ro with
  | none=>rfl
  | some l=>exact Oper.semAt_some l _ _ G
 rw[e];generalize (execOp (ev f) o).run P w=r at hx;cases r with
 | ok nx w' =>
  cases nx <;> simp only[upF]at hx <;> simp only[Oper.uponIn]
  case value v=>exact hK v w' hx
  case skip=>exact hK _ w' hx
  case enter g args =>
   refine⟨λh=>by simp[Fence.wide]at h,?_⟩;refine(callsIn_wide (n:=m - 1)).2 (Calls.mono hx λe I E=>?_);cases e with
   | returned v=>exact hK v I E
   | panicked c=>exact E.elim
   | outgrown=>exact E.elim
 | halt x w'=>exact hx.elim
theorem Va {l:xz}{a:Act}(h:Y3 n ds a f)(E:∀o∈l,∀d,o.dst=some d->d<n)(o:Oper):Region.wanted o (yielded l.toArray a.tmps)=Z3 l f o:=Uc h.rel E o
theorem QeE {Q:Exit->LN->Fr->OX->Prop}{all:xz}(G:∀o∈all,∀d,o.dst=some d->d<n)(hd:∀o∈all,∀c,o.op≠.defer c)(f0:Fr):
  ∀(l:xz) (k:Nat) (a:Act) (f:Fr) (w:OX),(∀j,l[j]?=all[k+j]?)->Y3 n ds a f->(∀t,Ye all t=false->f t=f0 t) ->
   XL P all (λf w=>Q .normal ds f w) l f w ->
   wpOpsIn (fen ro) m P all.toArray (λe Y w'=>∃ds' f',Y3 n ds' Y f'/\(∀t,Ye all t=false->f' t=f0 t)/\Q e ds' f' w') (oN k l.length) a w
 | [],_,a,f,w,_,E,J,h=>⟨ds,f,E,J,by unfold XL at h;exact h⟩
 | o::l,k,a,f,w,S,E,J,h=>by
  have T:all[k]?=some o:=by simpa using(S 0).symm
  have I:o∈all:=Me T;have ih:=λa f w=>QeE (Q:=Q) G hd f0 l (k+1) a f w (λj=>by have:=S (j+1);simpa[Nat.add_assoc,Nat.add_comm 1 j]using this);have next:∀v,(∀t,Ye all t=false->QO f o.dst v t=f0 t):=λv t U=>(YY (X6 I U) v).D (J t U);simp only[oQ,Ot,wpOpsIn,oS,T];rw[Va E G o];unfold XL at h;cases V:Z3 all f o with
  | false =>
   rw[V]at h;exact⟨λ_ _=>trivial,ih _ _ _ (E.put (G o I) _) (next _) h⟩
  | true =>
   rw[V]at h;exact QeD E (hd o I) (λv w' hx=>ih _ _ _ (E.put (G o I) v) (next v) hx) h
theorem Qx {Q:Exit->LN->Fr->OX->Prop}{l:xz}(E:Xf n l=true)(hd:Qd2 l=true)(h:XL P l (λf w=>Q .normal ds f w) l f w):WG ro m P n (.region id l.toArray false) Q ds f w:=by
 intro a G;refine wpIn_region ?_;have:=QeE (ro:=ro) (m:=m) (Xq E) (q7 hd) f l 0 a f w od G (λ_ _=>rfl) h;simpa[List.range_eq_range',XN]using this
attribute [local semireducible] XA in
theorem Qam {Q:Exit->Act->OX->Prop}{all:xz}{C:xu}{K:xt}(G:∀o∈all,∀d,o.dst=some d->d<n)(hd:∀o∈all,∀c,o.op≠.defer c)(f0:Fr)
  (I:∀a f w,Y3 n ds a f->(∀t,Ye all t=false->f t=f0 t)->K f w->Q .normal a w):
  ∀(k:Nat) (ls:Array Bool) (a:Act) (f:Fr) (w:OX),Y3 n ds a f->(∀t,Ye all t=false->f t=f0 t)->XA P all C K k ls f w->wpAnyIn (fen ro) m P .any all.toArray Q k ls a w
 | 0,_,a,f,w,E,J,h=>⟨h.1,I a f w E J h.2⟩
 | k+1,ls,a,f,w,E,J,h=>by
  refine⟨λh0=>I a f w E J (h.1 h0),λi hi=>?_⟩;unfold wpOpIn;simp only[oS];cases U:all[i]? with
  | none =>
   exfalso;obtain⟨_,o,ha,_⟩:=mem_ready.1 hi;simp[U]at ha
  | some o =>
   have S:o∈all:=Me U;have T:=h.2 i hi o U;have next:∀v,(∀t,Ye all t=false->QO f o.dst v t=f0 t):=λv t V=>(YY (X6 S V) v).D (J t V);simp only[];rw[Va E G o];cases Y:Z3 all f o with
   | false =>
    rw[Y]at T;exact⟨λ_ _=>trivial,Qam G hd f0 I k _ _ _ _ (E.put (G o S) _) (next _) T⟩
   | true =>
    rw[Y]at T;exact QeD E (hd o S) (λv w' hx=>Qam G hd f0 I k _ _ _ _ (E.put (G o S) v) (next v) hx.2) T
theorem z1 {Q:Exit->LN->Fr->OX->Prop}{all:xz}(C:xu)(G:P.follows .mixedOrders=true)(I:Xf n all=true)(hd:Qd2 all=true)
  (h:XA P all C (λf w=>Q .normal ds f w) all.length (oP all.length false) f { w with drawn:=w.drawn+1 }):WG ro m P n (.region id all.toArray true) Q ds f w:=by
 intro a J;refine wpIn_region_any G ?_;have S:=Qam (ro:=ro) (m:=m) (n:=n) (ds:=ds) (Q:=λe T w'=>∃ds' E,Y3 n ds' T E/\(∀t,Ye all t=false->E t=f t)/\Q e ds' E w') (Xq I) (q7 hd) f
  (λa E w U V Y=>⟨ds,E,U,V,Y⟩) _ _ a f _ J (λ_ _=>O) h
 simpa[XN]using S
theorem Vu {Q:Exit->LN->Fr->OX->Prop}{all:xz}(C:xu)(pl:xo)(I:P.follows .mixedOrders=true)(J:Xf n all=true)(hd:Qd2 all=true)(E:qU all pl=true)
  (hC:C { w with drawn:=w.drawn+1 }) (h:XP P all C (λf w=>Q .normal ds f w) pl f { w with drawn:=w.drawn+1 }):WG ro m P n (.region id all.toArray true) Q ds f w:=by
 simp only[qU,oI,beq_iff_eq]at E;obtain⟨⟨S,T⟩,E⟩:=E;have G:=Yi S pl _ _ _ od (.inl hC) E h;rw[T]at G;exact z1 C I J hd G
end
section
variable {ro:xA}{Q:Exit->LN->Fr->OX->Prop}
theorem UZ {F:Fence}{c:Code}{Q:Exit->Act->OX->Prop}{a:Act}(J:α->Act->OX->Prop)(μ:α->Nat)(z:α)(h₀:J z a w)
  (round:∀x a w,J x a w->c.wpIn F m P (Exit.then (λI w'=>∃S,μ S<μ x/\J S I w') Q) a w):(Code.loop c).wpIn F m P Q a w:=by
 intro b k cs U hb T;have key:∀j x a w,μ x=j->J x a w ->
   ∃e I w',Q e I w'/\ArrivesIn (Machine.fenced P F) P (lone (b.atR a (.code c::.inLoop c::k)) cs w) b k cs e I w':=by
  intro j;induction j using Nat.strongRecOn with
  | _ j ih =>
   intro x a w V Y;obtain⟨e,a₁,w₁,E,G⟩:=round x a w Y b (.inLoop c::k) cs U hb T;cases e with
   | normal =>
    obtain⟨S,ha,hc⟩:=E;obtain⟨e₂,a₂,w₂,hq₂,harr₂⟩:=ih (μ S) (V ▸ ha) S a₁ w₁ O hc;exact⟨e₂,a₂,w₂,hq₂,.of_steps (StepsIn.trans G (.one (fenced_calm hb T O) stepR_inLoop)) harr₂⟩
   | exit id=>exact⟨_,a₁,w₁,E,.pass (x:=.inLoop c) O (λ_ _=>.inl od) G⟩
   | goto l=>exact⟨_,a₁,w₁,E,.pass (x:=.inLoop c) O (λ_ _=>.inl od) G⟩
   | ret=>exact⟨_,a₁,w₁,E,.pass (x:=.inLoop c) O (λ_ _=>.inl od) G⟩
   | panic ch=>exact⟨_,a₁,w₁,E,.pass (x:=.inLoop c) O (λ_ _=>.inl od) G⟩
   | outgrown=>exact⟨_,a₁,w₁,E,.pass (x:=.inLoop c) O (λ_ _=>.inl od) G⟩
 obtain⟨e,I,w',E,G⟩:=key _ z a w O h₀;exact⟨e,I,w',E,.of_steps (.one (fenced_calm hb T O) stepR_loop) G⟩
theorem Kf {c:Code}(D:xp)(S:α->List (Nat×OY))(I:α->LN->OX->Prop)(μ:α->Nat)(hD:wrG D c=true)(z:α)
  (h0:YW f (S z)) (hI:I z ds w)
  (round:∀x g J w',I x J w'->WG ro m P n c (Qci (λE T hc=>∃Y,μ Y<μ x/\YW T (S Y)/\I Y E hc) Q) J (Vc (S x) (mix D f g)) w'):WG ro m P n (.loop c) Q ds f w:=by
 intro a ha;refine UZ (λ(x:α) a' w'=>∃J T,Y3 n J a' T/\(∀t,XN c t=false->T t=f t)/\YW T (S x)/\I x J w') μ z ⟨ds,f,ha,λ_ _=>O,h0,hI⟩ ?_;rintro x a' w' ⟨J,T,h1,h2,h3,h4⟩;have h5:=round x T J w' h4;rw[Ky (λt U=>h2 t (Jt U c hD)),Xl h3]at h5;refine wpIn_mono (h5 a' h1) ?_;rintro e he hc ⟨E,G,g1,g2,V⟩;have k1:∀t,XN c t=false->G t=f t:=λt U=>(g2 t U).D (h2 t U);have k2:∀t,XN (.loop c) t=false->G t=f t:=λt U=>k1 t (by simpa[XN]using U);cases e with
 | normal=>obtain⟨Y,hm,hs,hi⟩:=V;exact⟨Y,hm,E,G,g1,k1,hs,hi⟩
 | exit id=>exact⟨E,G,g1,k2,V⟩
 | goto l=>exact⟨E,G,g1,k2,V⟩
 | ret=>exact⟨E,G,g1,k2,V⟩
 | panic ch=>exact⟨E,G,g1,k2,V⟩
 | outgrown=>exact⟨E,G,g1,k2,V⟩
end
def rqG (P:O0)(rs:List ResultVar)(R:OY->OX->Prop):Exit->LN->Fr->OX->Prop
 | .normal,ds,f,w=>(∀D∈ds,w.heap[D]?=some (.deferred (some [])))/\ds.Nodup/\∃vs,∀w',O1 ds w w'->V8 P f w' rs vs/\R (tup vs) w'
 | .ret,ds,f,w=>(∀D∈ds,w.heap[D]?=some (.deferred (some [])))/\ds.Nodup/\∃vs,∀w',O1 ds w w'->V8 P f w' rs vs/\R (tup vs) w'
 | _,_,_,_=>False
theorem O1.putObj (w:OX)(D:Nat)(o:Obj):O1 [D] w (w.putObj D o):=⟨rfl,rfl,rfl,od,λk _ E=>World.putObj_heap_other (λe=>E (by simp[e]))⟩
theorem zc {F:Fence}{m:Nat}{P:O0}{fn:Func}{tmps:Array OY}{R:Ending->OX->Prop}:∀(ds:LN) (w:OX),(∀D∈ds,w.heap[D]?=some (.deferred (some [])))->ds.Nodup ->
  (∀w',O1 ds w w'->∃v,(results fn tmps).run P w'=.ok v w'/\R (.returned v) w')->LeavesInM F m P fn tmps R (coll ds) .returning w
 | [],w,_,_,h=>h w (O1.Z _ _)
 | D::ds,w,hD,I,h=>by
  refine⟨od,.inl ⟨D,_,rfl,run_takeDeferred (hD D Lo),?_⟩⟩;have G:=List.nodup_cons.1 I;refine zc ds _ (λE hE=>?_) G.2 (λw' J=>h w' ?_)
  ·rw[World.putObj_heap_other (λe=>G.1 (by rw[<-e];exact hE))];exact hD E (Lm _ hE)
  exact((O1.putObj w D (.deferred none)).Y (λb hb=>by simp at hb;simp[hb])).Q (J.Y (λb hb=>Lm _ hb))
theorem QT.of_G {c:Code}{args:LV}{R:OY->OX->Prop}{rs:List ResultVar}(m:Nat)
  (Y:P.funcs[g]?=some fn) (hb:fn.body=some c) (hn:fn.ntmps=n) (ha:fn.results=rs.toArray) (hl:args.length<=n)
  (h:WG none m P n c (rqG P rs R) [] (ent args) w):QT P g args w R:=by
 unfold QT;refine(callsIn_wide (n:=m)).1 (callsIn_of_wp_marks Y hb Z (wpIn_mono (h _ ?_) ?_))
 ·refine⟨by simp[hn];omega,O,λt=>?_⟩;have key:∀(l:LV) (t:Nat),l[t]?.getD undef=ent l t:=by
   intro l;induction l with
   | nil=>intro t;rfl
   | cons v l ih=>intro t;cases t with|zero=>rfl|succ t=>simpa[ent]using ih t
  rw[<-key];simp only[Array.getD_eq_getD_getElem?,Array.getElem?_append,Oc,oS];by_cases S:t<args.length
  ·simp[S]
  simp[S,Array.getElem?_replicate];split <;> rfl
 rintro e J w' ⟨I,f',T,_,E⟩;have fin:((∀D∈I,w'.heap[D]?=some (.deferred (some [])))/\I.Nodup/\∃vs,∀G,O1 I w' G->V8 P f' G rs vs/\R (tup vs) G) ->
   LeavesInM Fence.wide m P fn J.tmps (λe w'=>match e with| .returned v=>R v w'|_=>False) J.defers .returning w':=by
  rintro⟨hd,hc,vs,U⟩;rw[T.defers];refine zc I w' hd hc λG V=>⟨tup vs,?_,(U G V).2⟩;simp only[results,ha,List.mapM_toArray,Sem.run_bind,Sem.run_map];rw[Ju (a:={ J with defers:=[] }) T.rel _ (λ_=>rfl) (λ_ _=>rfl) rs vs (U G V).1]
  cases vs with
  | nil=>rfl
  | cons v vs=>cases vs with|nil=>rfl|cons u us=>rfl
 cases e with
 | normal=>exact fin E
 | ret=>exact fin E
 | exit id=>exact E.elim
 | goto l=>exact E.elim
 | panic c=>exact E.elim
 | outgrown=>exact E.elim
attribute [irreducible] WG
theorem QkE [Fu sV g fn]{q:Ed->Bool}{v:OY}(h:Ua L ↑w v es)
  (G:∀(e:Ed) (E:OX),sW w E->QT sV g ([sT (Qp e)]++cap) E λr w'=>r=.bool (q e)/\sW E w'):
  QT sV 159 [v,.func (.func g) #[] cap.toArray] w λr w'=>sW w w'/\IxQ q es r :=
 (ixG (c:=Qp) ⟨_,O,func159⟩ (λ_=>O) (ldA λ_=>O) h λe _=>G e).Y λ_ _ ⟨I,J⟩=>⟨J,I ▸ QkG q es⟩
theorem QcM [Fu sV gp fn]{q:Int->Bool}{v:OY}(h:Zs L ↑w v l.length 1 (l.flatMap VR))
  (G:∀e∈l,∀(E:OX),sW w E->QT sV gp ([sS e]++cap) E λr w'=>r=.bool (q e)/\sW E w'):
  QT sV 142 [v,.func (.func gp) #[] cap.toArray] w λr w'=>r=sS (fix q 0 l)/\sW w w' :=
 ixG ⟨_,O,func142⟩ QhQ (ld1 λ_=>O) h G
theorem Qc8 [Fu sV gp fn]{q:Int->Bool}{v:OY}(h:Zs L ↑w v l.length 1 (l.flatMap VR))
  (G:∀e∈l,∀(E:OX),sW w E->QT sV gp ([sS e]++cap) E λr w'=>r=.bool (q e)/\sW E w'):
  QT sV 170 [v,.func (.func gp) #[] cap.toArray] w λr w'=>r=.bool (l.any q)/\sW w w':=by
 refine Zn func170 ?_;refine Qc<|Qb<|Ql<|Qa<|Kr<|(QcM h G).Y ?_;rintro J E ⟨rfl,I⟩;refine x (Yd O O)<|Qb<|Qj ⟨[_],La,OR Value.bool (VY q l 0),I⟩
theorem Qah [Fu sV g fn]{q:Int->Bool}{v:OY}{es:LI}(h:Qt L ↑w v es)
  (G:∀(e:Int) (E:OX),sW w E->QT sV g ([sS e]++cap) E λr w'=>r=.bool (q e)/\sW E w'):
  QT sV 170 [v,.func (.func g) #[] cap.toArray] w λr w'=>r=.bool (es.any q)/\sW w w' :=
 Qc8 (Qt.fl h) λe _=>G e
theorem Qd1 (es:List Ed)(s v:Int):O8 es s v=O8 (QS es s) s v:=by
 induction es with
 | nil=>rfl
 | cons e es ih =>
  unfold QS at *;rw[L6];by_cases h:e.1=s
  ·rw[OQ (ou h),O8,O8,ih]
  rw[OP (ou h),O8,OP (λc=>h c.1),ih]
theorem QcF:∀(l:List Ed) (s v:Int) (i:Nat) (hi:i<l.length),(∀e∈l,e.1=s)->(l[i]'hi).2.1=v->(∀m (E:m<i),(l[m]'oa).2.1≠v)->O8 l s v=(l[i]'hi).2.2
 | e::l,s,v,0,_,G,I,_=>by rw[O8,OQ ⟨G e Lo,I⟩];rfl
 | e::l,s,v,i+1,hi,G,I,E=>by
  rw[O8,OP (λc=>E 0 oa c.2)];exact QcF l s v i (ou hi) (λe J=>G e (Lm _ J)) I (λm S=>E (m+1) oa)
theorem Qhc:∀(l:List Ed) (s v:Int),(∀e∈l,e.2.1≠v)->O8 l s v=-1
 | [],_,_,_=>rfl
 | e::l,s,v,h=>by rw[O8,OP (λc=>h e Lo c.2)];exact Qhc l s v (λe E=>h e (Lm _ E))
theorem Qhl {b:Nat}{n:Int}(e:Ed)(w:OX)(G:QK ↑w b T [sS n]):
  QT sV 160 ([sT (Qp e)]++[sP b]) w λr w'=>r=.bool (decide (e.2.1=n))/\sW w w':=by
 refine Zn func160 ?_;refine Qc<|Zd (Qp e) λJ S E U I=>Qb<|Qc<|Qr O I O O<|ZA (G.I E) O O<|x (Q6 O O)<|Qb<|Qj ⟨[_],La,O,E⟩
theorem QbT {st:Int}(h:Ua L ↑w ve a.ed)(I:Zb a)(s v:Int)(hc:0<=s)(S:s<a.st):
  QT sV 81 [.agg #[va,sS st,vm,ve],sS s,sS v] w λr w'=>r=sS (O8 a.ed s v)/\sW w w':=by
 have hk:=I.st1;refine Zn func81 ?_;refine Qc<|Zd [va,sS st,vm,ve] λb3 w1 S hl hf=>Zd [sS v] λb5 w2 T hn hg=>Qb<|Qc<|QY (hf.I T) O O<|Qa<|Qw<|(jG ((h.I S).I T) I.eds (λe E=>⟨(I.ed e E).1,oo (I.ed e E).2.1⟩) s hc oa).Y ?_;rintro vo w3 ⟨U,hE⟩;refine Qb ?_;have hh:∀e∈QS a.ed s,e.1=s:=λe E=>(ZC E).2;rw[Qd1];refine Ql<|x (Zl (l:=[]) (l':=[.tmp 5]))<|Qw<|(QkE (q:=λe=>decide (e.2.1=v)) (cap:=[sP b5]) hE (λe V J=>Qhl e V ((hg.I U).I J))).Y ?_;rintro r4 V ⟨J,G⟩;have Y:=((S.D T).D U).D J;refine Or.elim G (λG=>?_) (λG=>?_)
 ·obtain⟨rfl,hq⟩:=G;have e1:O8 (QS a.ed s) s v=-1:=Qhc _ _ _ λe E=>by
   obtain⟨i,hi,rfl⟩:=LM E;simpa using hq i hi
  rw[e1];refine Qb<|Qe<|Ql<|ZX O O<|xe<|zQ O ?_;refine Qc<|Qb<|Qj ⟨[sS (-1)],La,O,Y⟩
 obtain⟨i,hi,rfl,h1,h2⟩:=G;have e1:O8 (QS a.ed s) s v=((QS a.ed s)[i]'hi).2.2:=QcF _ s v i hi hh (ou h1) (λm hm=>ou (h2 m hm));rw[e1];refine Qb<|Qe<|Ql<|ZX O O<|xe<|Za O (λha=>OS ha oa) (λha=>?_);refine Qf<|Ql<|Qa<|xie (hE.I J) O O hi λhp hj=>x (ZN O)<|x (Qq (hj.fld 2 _ O) O)<|Qb<|Qj ⟨[_],La,O,Y⟩
def flw (a:QF):Int->LI->Int×Nat
 | s,[]=>(s,0)
 | s,v::u=>if O8 a.ed s v<0 then(s,0)else((flw a (O8 a.ed s v) u).1,(flw a (O8 a.ed s v) u).2+1)
theorem Qhd (E:Zb a){v:Int}(h:¬O8 a.ed s v<0):O8 a.ed s v<a.st:=(E.ed _ (jL oa)).2.2.2.2
theorem Qfq {vw:OY}{st:Int}(h:Ua L ↑w ve a.ed)(I:Qt L' ↑w vw u)(U:Zb a)(s:Int)(hc:0<=s)(V:s<a.st):
  QT sV 280 [.agg #[va,sS st,vm,ve],sS s,vw] w λr w'=>r=.tuple #[sS (flw a s u).1,sS (flw a s u).2]/\sW w w':=by
 have hm:=I.le;refine Zn func280 ?_;refine Qc<|Zd [va,sS st,vm,ve] λb3 w1 V hn he=>x Qd<|Qb<|Qe<|Ql<|QG I O<|Qa<|xe<|QW (α:=Nat×Int) [(1,1),(6,10),(13,27)] (λz=>[(1,sS z.2),(13,sS z.1)]) (λz w'=>z.1<=u.length/\0<=z.2/\z.2<a.st/\sW w1 w'/\flw a s u=((flw a z.2 (u.drop z.1)).1,(flw a z.2 (u.drop z.1)).2+z.1)) (λz=>u.length - z.1) (0,s) ov ⟨Ln _,hc,by assumption,O1.Z _ _,od⟩ ?_;rintro⟨k,t⟩ g w2 ⟨hk,hg,hh,T,E⟩;have J:=V.D T;refine Zi rfl O (λY=>?_) (λY=>?_)
 ·refine Qu<|Ql<|Qa<|QG I O<|x Qd<|Qb ?_;rw[Ls oa]at E;have hj:k=u.length:=by have hp:¬(k:Int)<(u.length:Int):=Y;omega
  refine Qj ⟨[sS t,sS u.length],ov,?_,J⟩;rw[E,hj];simp[flw,tup]
 have G:k<u.length:=oa
 rw[QX G,flw]at E;refine Qf<|Qe<|Qn<|Ql<|xii (I.I J) O O G λhq hl=>x (Qq hl O)<|x Qd<|Qb<|Qc<|QY (he.I T) O O<|Qa<|Qa<|Qw<|(QbT (h.I J) U t (u[k]'G) hg hh).Y ?_;rintro r3 w3 ⟨rfl,ha⟩;refine Qb<|Qe<|Ql<|ZX O O<|xe<|Za rfl (λS=>?_) (λS=>?_)
 ·rw[OQ S]at E;refine Ql<|Qa<|x Qd<|Qb<|Qj ⟨[sS t,sS k],ov,?_,J.D ha⟩;rw[E];simp[tup]
 rw[OP S]at E;refine Qf<|Qs<|Qa<|Qb<|Qs<|QC O O<|Qa<|xe<|⟨(k+1,O8 a.ed t (u[k]'G)),oe,ov,G,oe,(Qhd U S),T.D ha,?_⟩;simp only[];rw[E];simp;omega
def cks (a:QF)(s:Int):Int:=if XK a≠0 then XK a else if s<0\/a.st<=s then 2 else 0
theorem JI (h:Zr L ↑w va vm ve a)(s:Int):
  QT sV 79 [.agg #[va,sS a.st,vm,ve],sS s] w λr w'=>r=sS (cks a s)/\sW w w':=by
 refine Zn func79 ?_;refine Qc<|Zd [va,sS a.st,vm,ve] λY w1 S ha T=>Qb<|Qe<|Qc<|QY T O O<|Qw<|(YV (h.I S)).Y ?_;rintro r2 V ⟨rfl,U⟩;refine Qb ?_;unfold cks;have E:=S.D U;refine Ql<|ZI O O<|xe<|Za rfl (λG=>?_) (λG=>?_)
 ·refine Ql<|Qb<|Qj ⟨[_],La,by rw[OQ G];rfl,E⟩
 rw[OP G];refine Qf<|Qe<|QV (α:=Unit) [(11,18)] (λz=>[(18,.bool (decide (s<0\/a.st<=s)))]) (λz w'=>w'=V) oh ?_ ?_
 ·refine Qs<|Qa<|xb (Yw O O) (λI=>?_) (λI=>?_)
  ·refine Qa<|Zy<|J0<|QA O<|xe ?_;exact⟨(),⟨by rw[OT (Or.inl I)];rfl,Z⟩,O⟩
  refine Qa<|Qa<|Qr O (T.I U) O O<|x (Yd O O)<|QA O<|xe ?_;exact⟨(),⟨by show Value.bool (decide (a.st<=s))=_;simp[I],Z⟩,rfl⟩
 rintro z g w3 rfl;refine Za rfl (λJ=>?_) (λJ=>?_)
 ·refine Qc<|Qb<|Qj ⟨[_],La,by rw[OQ J];rfl,E⟩
 refine Qf<|Qc<|Qb<|Qj ⟨[_],La,by rw[OP J];rfl,E⟩
theorem QbF (h:cks a s=0):Zb a/\0<=s/\s<a.st:=by
 unfold cks at h;split at h
 ·rename_i E;exact OS h E
 rename_i E;split at h
 ·cases h
 rename_i G;exact⟨(ZF a).1 (Lr.1 E),oa,oa⟩
theorem QjL {b:Nat}(e:Int)(w:OX)(E:QK ↑w b T (va::us))(hA:Qt L ↑w va al):
  QT sV 279 ([sS e]++[sP b]) w λr w'=>r=.bool (decide (e∉al))/\sW w w':=by
 refine Zn func279 ?_;refine Qc<|Qb<|Qc<|Qr O E O O<|Qa<|Qw<|(ZE hA e).Y ?_;rintro G I ⟨rfl,rfl⟩;refine x (Zh O)<|Qb<|Qj ⟨[_],La,?_,O1.Z _ _⟩;show Value.bool (!decide (e∈al))=_;rw[decide_not]
def QjK (a:QF)(s:Int)(u:LI):Int:=if cks a s≠0 then cks a s else if(u.any λe=>decide (e∉a.al))=true then 9 else 0
theorem QnK {vw:OY}(h:Zr L ↑w va vm ve a)(V:Qt L' ↑w vw u)(s:Int):
  QT sV 248 [.agg #[va,sS a.st,vm,ve],sS s,vw] w λr w'=>sW w w'/\r=if QjK a s u≠0 then .tuple #[sS 0,sS 0,sS (QjK a s u)]else .tuple #[sS (flw a s u).1,sS (flw a s u).2,sS 0]:=by
 refine Zn func248 ?_;refine Qc<|Zd [va,sS a.st,vm,ve] λb3 w1 Y he S=>x Qd<|x Qd<|Qb<|Qe<|Qc<|QY S O O<|Qa<|Qw<|(JI (h.I Y) s).Y ?_;rintro r2 w2 ⟨rfl,T⟩;refine Qb ?_;have G:=Y.D T;unfold QjK;refine Ql<|ZI O O<|xe<|Za rfl (λE=>?_) (λE=>?_)
 ·refine Ql<|x Qd<|x Qd<|Qb<|Qj ⟨[_,_,_],ox,G,by rw[OQ E,OQ E];rfl⟩
 have hc:cks a s=0:=Lr.1 E;obtain⟨ho,h0,h1⟩:=QbF hc;rw[OP E];refine Qf<|Qe<|Ql<|x (Zl (l:=[]) (l':=[.tmp 3]))<|Qw<|(Qah (q:=λe=>decide (e∉a.al)) (cap:=[sP b3]) (V.I G) (λe w4 I=>QjL e w4 ((S.I T).I I) ((h.al.I G).I I))).Y ?_;rintro r3 w3 ⟨rfl,ha⟩;refine xe ?_;have J:=G.D ha;refine Q9 rfl (λU=>?_) (λU=>?_)
 ·rw[OQ U];refine Qc<|x Qd<|x Qd<|Qb<|Qj ⟨[_,_,_],ox,J,by rw[OQ og];rfl⟩
 rw[OP (by rw[U];simp)];refine Qf<|Qc<|QY ((S.I T).I ha) O O<|Qa<|Qa<|Qw<|(Qfq (h.ed.I J) (V.I J) ho s h0 h1).Y ?_;rintro r4 w4 ⟨rfl,I⟩;refine Qa<|x (QZ O O) <|
  QL rfl rfl<|x Qd<|Qb<|Ql<|Qa<|x Qd<|x Qd<|Qb<|Qj ⟨[_,_,_],ox,J.D I,O⟩
def enb (a:QF)(s:Int):LI:=(QS a.ed s).map (·.2.1)
theorem Qil {l:List Ed}{k:Nat}(h:k<l.length):(l.take (k+1)).map (·.2.1)=(l.take k).map (·.2.1)++[(l[k]'h).2.1]:=by
 rw[List.take_add_one,LD h,Lv];rfl
theorem Qds (h:Zr L ↑w va vm ve a)(s:Int):
  QT sV 32 [.agg #[va,sS a.st,vm,ve],sS s] w λr w'=>sW w w'/\∃v,r=.tuple #[v,sS (cks a s)]/\(cks a s≠0->v=Zo)/\(cks a s=0->Qh 3 ↑w w' v (enb a s)):=by
 refine Zn func32 ?_;refine Qc<|Zd [va,sS a.st,vm,ve] λb2 w1 hf h3 hg=>x Qd<|Qb<|Qe<|Qc<|QY hg O O<|Qa<|Qw<|(JI (h.I hf) s).Y ?_;rintro r2 w2 ⟨rfl,hh⟩;refine Qb ?_;have T:=hf.D hh;refine Ql<|ZI O O<|xe<|Za rfl (λU=>?_) (λU=>?_)
 ·refine Ql<|x Qd<|Qb<|Qj ⟨[Zo,_],ov,T,Zo,O,λ_=>O,λe=>OS e U⟩
 have hc:cks a s=0:=Lr.1 U;obtain⟨G,h0,h1⟩:=QbF hc;have h4:=G.st1;rw[hc];refine Qf<|Qc<|Qb<|Qe<|Qc<|QY (hg.I hh) O O<|Qa<|Qw<|(jG (h.ed.I T) G.eds (λe he=>⟨(G.ed e he).1,oo (G.ed e he).2.1⟩) s h0 oa).Y ?_;rintro vo w3 ⟨hl,hE⟩;refine QG hE O<|Qa<|xe ?_;have hj:=T.D hl;have hm:=hj.size;have hn:=Z8 a.ed s;have h5:=G.ed_le;refine Zf (QS a.ed s) λos I=>?_;rw[I]at hE hn;refine QW (α:=Nat×OY) [(7,7),(9,9),(20,29)] (λz=>[(7,z.2),(20,sS z.1)]) (λz w'=>z.1<=os.length/\sW w3 w'/\Qh 3 ↑w3 w' z.2 ((os.take z.1).map (·.2.1))) (λz=>os.length - z.1) (0,nS) ⟨O,by rw[I];rfl,Z⟩ ⟨Ln _,O1.Z _ _,QM _ _ _ _⟩ ?_;rintro⟨k,v⟩ g w4 ⟨hk,S,J⟩;simp only[]at hk J;have h6:=S.size;refine Zi rfl O (λV=>?_) (λV=>?_)
 ·refine Qu<|Ql<|x Qd<|Qb ?_;rw[Lq (by rw[I]at V;omega)]at J;refine Qj ⟨[v,_],ov,hj.D S,v,O,λe=>OS O e,λ_=>?_⟩;unfold enb;rw[I];exact Q8 J hm
 have E:k<os.length:=by rw[I]at V;omega
 refine Qf<|Qe<|Qn<|Qc<|xie (hE.I S) O O E λh7 hp=>x (QE hp O O)<|QP [sS 0,sS 0,sS 0] λb9 w5 hq hr hs=>Q0 (Qp (os[k]'E)) hs ox λw6 ht hu =>
  xe ?_
 have Y:sW w4 w6:=hq.O ht hr;have hv:=Qm J Y;refine Qs<|Qa<|Qr O hu O O<|Qo<|Yf (us:=[[sS (os[k]'E).2.1]]) O O og od ⟨rfl,rfl,Z⟩ λh8 w7 ha h9 hw=>?_;have hy:=Qm hv ha;have hA:=(Y.D ha).size;have hB:((os.take k).map (·.2.1)).length<=131072:=by simp;omega
 refine Qo<|Q2 (news:=[sS (os[k]'E).2.1]) (L:=[]) hy O O O (hw.at od) om oa oa λv8 w8 hz h2 hC=>Qb<|Qs<|QC rfl rfl<|Qa<|xe<|⟨(k+1,v8),oe,ov,E,((S.D Y).D ha).S h2 (λb hb=>.inr ((Qi J) b hb).1),?_⟩;simp only[];rw[Qil E];exact Qh.snoc hz
theorem jx {v:OY}(h:Qt L ↑w v l)(n:Int):
  QT sV 254 [v,sS n] w λr w'=>r=sS (Jn n none l)/\w'=w:=by
 have he:=h.le;refine Zn func254 ?_;refine Qc<|Qb<|Qe<|Ql<|QG h O<|Qa<|xe<|QW (α:=Nat) [(4,6),(9,34)] (λk=>[(9,sS k)]) (λk w'=>w'=w/\k<=l.length/\Jn n (pv l k) (l.drop k)=Jn n none l) (λk=>l.length - k) 0 La ⟨O,Ln _,O⟩ ?_;rintro k g U ⟨rfl,hk,E⟩;refine Zi rfl O (λV=>?_) (λV=>?_)
 ·refine Qu<|Qc<|Qb<|Qj ⟨[sS 0],La,?_,O⟩;rw[<-E,Ls oa];rfl
 have G:k<l.length:=oa
 rw[(QX G),Jn]at E;refine Qf<|Qe<|Qn<|Ql<|xii h O O G λhf Y=>x (Qq Y O)<|x Qd<|Qb<|Qn<|QV (α:=Bool) [(14,21)] (λz=>[(14,.bool z)]) (λz w'=>w'=U/\z=decide (l[k]<0\/n<=l[k])) oh ?_ ?_
 ·refine Qs<|Qa<|xb (Yw O O) (λI=>?_) (λI=>?_)
  ·refine Qa<|Zy<|QA O<|Qb<|⟨true,La,O,by simp[I]⟩
  refine Qa<|Qa<|Qa<|x (Yd O O)<|QA O<|Qb<|⟨_,La,O,by simp[I]⟩
 rintro z g w2 ⟨rfl,rfl⟩;refine Za rfl (λJ=>?_) (λJ=>?_)
 ·refine Qc<|Qb<|Qj ⟨[sS 2],La,?_,O⟩;rw[<-E,OQ J];rfl
 rw[OP J]at E;refine QV (α:=Bool) [(22,33)] (λz=>[(22,.bool z)]) (λz w'=>w'=w2/\z=zd (pv l k) l[k]) oh ?_ ?_
 ·refine Qs<|Qa<|xb (Z2 O O) (λha=>?_) (λha=>?_)
  ·have hk1:((k:Int) - 1)=((k - 1:Nat):Int):=oa
   refine Qa<|Qa<|Qa<|Qa<|x (X9 O O ⟨oa,oa⟩)<|xii (i:=k - 1) h O (by show Value.int _ ((k:Int) - 1)=_;rw[hk1]) oa λhg hc=>x (Qq hc rfl)<|x (Ja rfl rfl)<|QA rfl<|Qb<|⟨_,⟨rfl,Z⟩,rfl,?_⟩;have:pv l k=some l[k - 1]:=by
    have S:k≠0:=oa
    simp[pv,S,show k - 1<l.length by omega]
   rw[this];rfl
  refine Qa<|Zy<|Zy<|J0<|QA O<|Qb ?_;have S:k=0:=oa
  exact⟨false,La,O,by simp[pv,S,zd]⟩
 rintro z g w3 ⟨rfl,rfl⟩;refine Q9 rfl (λT=>?_) (λT=>?_)
 ·refine Qc<|Qb<|Qj ⟨[sS 5],La,?_,O⟩;rw[<-E,OQ T];rfl
 rw[OP (by simp[T])]at E;refine Qf<|Qs<|QC O O<|Qa<|xe ?_;exact⟨k+1,oa,La,O,oa,by rw[J3 G];exact E⟩
theorem KN {v:OY}(h:Qt L ↑w v l)(n:Int):
  QT sV 89 [v,sS n] w λr w'=>r=sS (Jn n none l)/\w'=w:=by
 have he:=h.le;refine Zn func89 ?_;refine Qc<|Qb<|Qe<|Ql<|QG h O<|Qa<|xe<|QW (α:=Nat) [(4,6),(9,32)] (λk=>[(9,sS k)]) (λk w'=>w'=w/\k<=l.length/\Jn n (pv l k) (l.drop k)=Jn n none l) (λk=>l.length - k) 0 La ⟨O,Ln _,O⟩ ?_;rintro k g U ⟨rfl,hk,E⟩;refine Zi rfl O (λV=>?_) (λV=>?_)
 ·refine Qu<|Qc<|Qb<|Qj ⟨[sS 0],La,?_,O⟩;rw[<-E,Ls oa];rfl
 have G:k<l.length:=oa
 rw[(QX G),Jn]at E;refine Qf<|Qe<|Qn<|Ql<|xii h O O G λhf Y=>x (Qq Y O)<|x Qd<|Qb<|Qe<|QV (α:=Bool) [(14,20)] (λz=>[(20,.bool z)]) (λz w'=>w'=U/\z=decide (l[k]<0\/n<=l[k])) oh ?_ ?_
 ·refine Qs<|Qa<|xb (Yw O O) (λI=>?_) (λI=>?_)
  ·refine Qa<|Zy<|QA O<|xe ?_;exact⟨true,La,O,by simp[I]⟩
  refine Qa<|Qa<|Qa<|x (Yd O O)<|QA O<|xe ?_;exact⟨_,La,O,by simp[I]⟩
 rintro z g w2 ⟨rfl,rfl⟩;refine Za rfl (λJ=>?_) (λJ=>?_)
 ·refine Qc<|Qb<|Qj ⟨[sS 2],La,?_,O⟩;rw[<-E,OQ J];rfl
 rw[OP J]at E;refine Qf<|QV (α:=Bool) [(21,31)] (λz=>[(31,.bool z)]) (λz w'=>w'=w2/\z=zd (pv l k) l[k]) oh ?_ ?_
 ·refine Qs<|Qa<|xb (Z2 O O) (λha=>?_) (λha=>?_)
  ·have hk1:((k:Int) - 1)=((k - 1:Nat):Int):=oa
   refine Qa<|Qa<|Qa<|Qa<|x (X9 O O ⟨oa,oa⟩)<|xii (i:=k - 1) h O (by show Value.int _ ((k:Int) - 1)=_;rw[hk1]) oa λhg hc=>x (Qq hc rfl)<|x (Ja rfl rfl)<|QA rfl<|xe<|⟨_,La,O,?_⟩;have:pv l k=some l[k - 1]:=by
    have S:k≠0:=oa
    simp[pv,S,show k - 1<l.length by omega]
   rw[this];rfl
  refine Qa<|Zy<|Zy<|J0<|QA O<|xe ?_;have S:k=0:=oa
  exact⟨false,La,O,by simp[pv,S,zd]⟩
 rintro z g w3 ⟨rfl,rfl⟩;refine Q9 rfl (λT=>?_) (λT=>?_)
 ·refine Qc<|Qb<|Qj ⟨[sS 5],La,?_,O⟩;rw[<-E,OQ T];rfl
 rw[OP (by simp[T])]at E;refine Qf<|Qs<|QC O O<|Qa<|xe ?_;exact⟨k+1,oa,La,O,oa,by rw[J3 G];exact E⟩
theorem zL {v:OY}(h:Qt L ↑w v l):
  QT sV 196 [.agg #[va,sS a.st,vm,ve],v] w λr w'=>r=sS (Jn a.st none l)/\sW w w':=by
 refine Zn func196 ?_;refine Qc<|Zd [va,sS a.st,vm,ve] λI J E S G=>Qb<|Ql<|Qr O G O O<|Qw<|(jx (h.I E) a.st).Y ?_;rintro r2 T ⟨rfl,rfl⟩;refine Qb<|Qj ⟨[sS (Jn a.st none l)],La,O,E⟩
def flg (n:Nat)(l:LI):List Bool:=(oK n).map λi:Nat=>decide ((i:Int)∈l)
theorem VW (n:Nat)(l:LI):(flg n l).length=n:=by simp[flg]
theorem j9 (h:i<(flg n l).length):(flg n l)[i]'h=decide ((i:Int)∈l):=by simp[flg]
theorem qv {x:Int}(G:0<=x):(flg n l).set x.toNat true=flg n (l++[x]):=by
 apply LZ
 ·simp[flg]
 intro i I E;rw[Nj,j9 E];by_cases e:x.toNat=i
 ·have:(i:Int)=x:=oa
  rw[OQ e,this];simp
 have:(i:Int)≠x:=oa
 rw[OP e,j9];simp[this]
theorem Qbp {v:OY}(h:Qt L ↑w v l)(U:a.st=(n:Int))(hp:a.st<=4096)(hl:∀s∈l,0<=s/\s<a.st):
  QT sV 197 [.agg #[va,sS a.st,vm,ve],v] w λr w'=>sW w w'/\∃b,r=sL b n n/\↑w<=b/\QK ↑w' b 4 ((flg n l).map Value.bool):=by
 have hq:=h.le;refine Zn func197 ?_;refine Qc<|Zd [va,sS a.st,vm,ve] λb2 w1 G hr ha=>Qb<|Qc<|Qr O ha O O<|Qo<|YP (n:=n) (OR sS U) (OR sS U) oa λb10 w2 V hc he=>Qb ?_;have hf:QK ↑w2 b10 4 ((flg n (l.take 0)).map Value.bool):=by
  have e:(oG n (Value.bool false).cells.toList).flatten=(flg n (l.take 0)).map Value.bool:=by
   simp only[flg,List.take_zero,oH,decide_false,List.map_map];apply LZ
   ·simp[Value.cells]
   intro i h1 h2;simp[Value.cells]
  rw[<-e];exact he
 refine Qe<|Ql<|QG (h.I (G.D V)) O<|Qa<|xe<|QW (α:=Nat) [(7,7),(13,20)] (λz=>[(13,sS z)]) (λz w'=>z<=l.length/\sW w1 w'/\QK ↑w' b10 4 ((flg n (l.take z)).map Value.bool)) (λz=>l.length - z) 0 La ⟨Ln _,V,hf⟩ ?_;rintro k g w3 ⟨hk,J,S⟩;refine Zi rfl O (λT=>?_) (λT=>?_)
 ·refine Qu ?_;have hg:l.length<=k:=by have I:¬(k:Int)<(l.length:Int):=T;omega
  rw[Lq hg]at S;refine Ql<|Qb ?_;have ht:=G.size;exact Qj ⟨[sL b10 n n],La,G.D J,b10,O,oa,S⟩
 have E:k<l.length:=by have I:(k:Int)<(l.length:Int):=T;omega
 have hx:=hl _ (Lk E);have Y:l.take (k+1)=l.take k++[l[k]'E]:=Lh E;refine Zf (l[k]'E) λs hs=>?_;rw[hs]at hx Y;have hh:s=(s.toNat:Int):=oa
 refine Qf<|Qe<|Qn<|Qc<|xii (i:=k) ((h.I G).I J) O O E λhu I=>?_;rw[hs]at I;refine x (Qq I O)<|Qb<|Qs<|Qa<|Qa<|x (QD (i:=s.toNat) O (OR sS hh) oa)<|Qo<|Qv (j:=0+s.toNat*1) (u:=.bool true) S O O (by rw[Lj,VW];omega) O λw4 hj hm=>xe ?_;have ho:QK ↑w4 b10 4 ((flg n (l.take (k+1))).map Value.bool):=by
  rw[Y,<-(qv (n:=n) (l:=l.take k) hx.1),Nr];simpa using hm
 refine Qs<|QC O O<|Qa<|xe ?_;exact⟨k+1,oa,La,E,J.O hj hc,ho⟩
def Rv (l:LI)(i:Nat)(li:LI):Prop:=∃h:li.length=l.length,∀k (E:k<l.length),li[k]'oa=if k<i\/l.length<=k+i then l[l.length - 1 - k]'oa else l[k]'E
theorem Rv.start (l:LI):Rv l 0 l:=⟨O,λk E=>by rw[OP oa]⟩
theorem Rv.next (h:Rv l i li)(hi:i<l.length - 1 - i):Rv l (i+1) ((li.set i (l[l.length - 1 - i]'oa)).set (l.length - 1 - i) (l[i]'oa)):=by
 obtain⟨E,G⟩:=h;refine⟨by simp[E],λk I=>?_⟩;rw[Nj,Nj];by_cases e1:l.length - 1 - i=k
 ·rw[OQ e1,OQ oa];congr 1;omega
 rw[OP e1];by_cases e2:i=k
 ·rw[OQ e2,OQ oa];subst e2;rfl
 rw[OP e2,G k I];by_cases e3:k<i\/l.length<=k+i
 ·rw[OQ e3,OQ oa]
 rw[OP e3,OP oa]
theorem Rv.fin (h:Rv l i li)(hi:l.length - 1 - i<=i)(J:2*i<=l.length):li=l.reverse:=by
 obtain⟨E,G⟩:=h;apply LZ
 ·simp[E]
 intro k S T;have I:k<l.length:=oa
 rw[G k I,List.getElem_reverse];by_cases e:k<i\/l.length<=k+i
 ·rw[OQ e]
 rw[OP e];congr 1;omega
theorem Rv.at_i (h:Rv l i li)(hi:i<l.length - 1 - i):∃(G:i<li.length) (I:l.length - 1 - i<li.length),li[i]'G=l[i]'oa/\li[l.length - 1 - i]'I=l[l.length - 1 - i]'oa:=by
 obtain⟨J,E⟩:=h;refine⟨oa,oa,?_,?_⟩
 ·rw[E i oa,OP oa]
 rw[E _ oa,OP oa]
theorem zV {v:OY}(h:Qh 3 base w v l)(hh:l.length<=1099511627776):
  QT sV 144 [v] w λ_ w'=>Qh 3 base w' v l.reverse/\O1 (ob v) w w':=by
 refine Zn func144 ?_;refine Ql<|QG (QN (L:=[]) h hh od) rfl<|x (X9 rfl rfl ⟨oa,oa⟩)<|x Qd<|Qb<|QW (α:=Nat×LI) [(2,3),(7,27)] (λz=>[(2,sS z.1),(3,sS ((l.length:Int) - 1 - z.1))])
  (λz w'=>Rv l z.1 z.2/\2*z.1<=l.length/\O1 (ob v) w w'/\Qh 3 base w' v z.2) (λz=>l.length - z.1) (0,l) ⟨O,OR sS od,Z⟩ ⟨Rv.start l,od,O1.Z _ _,h⟩ ?_
 rintro⟨i,li⟩ g J ⟨hR,hk,T,E⟩;refine Qe<|Ql<|Qa<|ZX O O<|xe<|Zp rfl (λh9=>?_) (λh9=>?_)
 ·refine Qu ?_;rw[hR.fin oa hk]at E;exact⟨[],Z,E,T⟩
 have U:i<l.length - 1 - i:=oa
 have V:(l.length:Int) - 1 - (i:Int)=((l.length - 1 - i:Nat):Int):=oa
 have hp:li.length=l.length:=hR.1;refine Exists.elim (hR.at_i U) λY G=>Exists.elim G λh3 G=>?_;refine Exists.elim (Ur E oa) λgg hg=>Exists.elim hg λcap I=>?_;have ha:Qt [] ↑J v li:=QN E oa od;refine Qf<|Qe<|Qn<|ZJ [] (Y4 0 16 [13,15])<|p Qy<|p Qy<|p Qy<|p Qy<|p Qy<|p Qy<|pii (i:=l.length - 1 - i) O ha O (OR sS V) h3 λhq he=>?_;rw[G.2]at he;refine pq (λ_ S=>Qq (he.I S) O)<|p Qy<|p Qy<|pii (i:=i) O ha O O Y λhs hf=>?_;rw[G.1]at hf;refine pq (λ_ S=>Qq (hf.I S) O)<|p (λ_=>QD (i:=i) (show ev _ _=_ from I) O oa) <|
  pkk<|yE (Qm E (O1.C [] J)) I O O Y λw2 hl hm=>p (λ_=>QD (i:=l.length - 1 - i) (show ev _ _=_ from I) (OR sS V) oa) <|
  pkk<|yE hm (by rw[MR];exact I) O O (by rw[MR];exact h3) λw3 hn ho=>pe ?_
 refine Qs<|Qa<|QC O O<|Qa<|x (X9 O O ⟨oa,oa⟩)<|x Qd<|Qb<|⟨(i+1,_),oe,⟨O,OR sS oa,Z⟩,(hR.next U),oe,((T.D (O1.C [] J)).Q hl).Q hn,ho⟩
open Go.RowKit
def upY (P:O0)(m:Nat)(dst:xA)(f:Fr)(K:xt):Result Next->Prop
 | .ok (.value v) w'=>K (QO f dst v) w'
 | .ok .skip w'=>K (QO f dst undef) w'
 | .ok (.enter g args) w'=>Calls P g args w' λe E=>match e with| .returned v=>K (QO f dst v) E|_=>False
 | .ok (.round l fn tmps assign body) w'=>RoundIn (fen none) (m - 1) P l fn tmps assign body w' λe E=>match e with| .returned v=>K (QO f dst v) E|_=>False
 | _=>False
def XOY (P:O0)(m:Nat)(o:Oper)(f:Fr)(w:OX)(K:xt):Prop:=upY P m o.dst f K ((execOp (ev f) o).run P w)
def X5 (P:O0)(m:Nat)(ops:xz)(K:xt):xz->Fr->OX->Prop
 | [],f,w=>K f w
 | o::l,f,w=>bif Z3 ops f o then XOY P m o f w (X5 P m ops K l)else X5 P m ops K l (QO f o.dst undef) w
theorem XOY.of_XO {o:Oper}{K':xt}(hK:∀f w,K f w->K' f w)(h:XO P o f w K):XOY P m o f w K':=by
 unfold XO at h;unfold XOY;generalize (execOp (ev f) o).run P w=r at h;cases r with
 | ok nx w' =>
  cases nx <;> simp only[upF]at h <;> simp only[upY]
  case value v=>exact hK _ _ h
  case skip=>exact hK _ _ h
  case enter g args =>
   refine Calls.mono h λe G E=>?_;cases e with
   | returned v=>exact hK _ _ E
   | panicked c=>exact E.elim
   | outgrown=>exact E.elim
 | halt x w'=>exact h.elim
theorem X5.pre {ops:xz}{K:xt}{l2:xz}:∀(E:xz) (f:Fr) (w:OX),XL P ops (λf w=>X5 P m ops K l2 f w) E f w->X5 P m ops K (E++l2) f w
 | [],f,w,h=>by unfold XL at h;exact h
 | o::E,f,w,h=>by
  unfold XL at h;show(bif Z3 ops f o then XOY P m o f w (X5 P m ops K (E++l2))else X5 P m ops K (E++l2) (QO f o.dst undef) w);cases G:Z3 ops f o with
  | false=>rw[G]at h;exact X5.pre E _ _ h
  | true=>rw[G]at h;exact XOY.of_XO (λf w h=>X5.pre E f w h) h
theorem X5.pre2 {o1 o2:Oper}{l2:xz}(h:XL P ops (λf w=>X5 P m ops K l2 f w) [o1,o2] f w):X5 P m ops K (o1::o2::l2) f w:=X5.pre [o1,o2] f w h
theorem X5.of_XL {l:xz}(h:XL P ops K l f w):X5 P m ops K l f w:=by
 have:=X5.pre (m:=m) (l2:=[]) l f w h
 rwa [LH]at this
theorem QiW {o:Oper}{a:Act}{K':Act->OX->Prop}{Q:Exit->Act->OX->Prop}(h:Y3 n ds a f)
  (hK:∀v w',K (QO f o.dst v) w'->K' (a.put o.dst v) w') (hx:XOY P m o f w K):o.wpIn (fen none) m P a w K' Q:=by
 unfold XOY at hx;refine⟨λ_ _=>trivial,?_⟩;have e:Oper.semAt (fen none).round a.eval o=execOp (ev f) o:=by rw[h.eval];rfl
 rw[e];generalize (execOp (ev f) o).run P w=r at hx;cases r with
 | ok nx w' =>
  cases nx <;> simp only[upY]at hx <;> simp only[Oper.uponIn]
  case value v=>exact hK v w' hx
  case skip=>exact hK _ w' hx
  case enter g args =>
   refine⟨λh=>by simp[Fence.wide]at h,?_⟩;refine(callsIn_wide (n:=m - 1)).2 (Calls.mono hx λe G E=>?_);cases e with
   | returned v=>exact hK v G E
   | panicked c=>exact E.elim
   | outgrown=>exact E.elim
  case round l fn tmps assign body =>
   refine⟨λh=>by simp[Fence.wide]at h,?_⟩;refine RoundIn.mono hx λe G E=>?_;cases e with
   | returned v=>exact hK v G E
   | panicked c=>exact E.elim
   | outgrown=>exact E.elim
 | halt x w'=>exact hx.elim
theorem QbV {Q:Exit->LN->Fr->OX->Prop}{all:xz}(G:∀o∈all,∀d,o.dst=some d->d<n)(f0:Fr):
  ∀(l:xz) (k:Nat) (a:Act) (f:Fr) (w:OX),(∀j,l[j]?=all[k+j]?)->Y3 n ds a f->(∀t,Ye all t=false->f t=f0 t) ->
   X5 P m all (λf w=>Q .normal ds f w) l f w ->
   wpOpsIn (fen none) m P all.toArray (λe Y w'=>∃ds' f',Y3 n ds' Y f'/\(∀t,Ye all t=false->f' t=f0 t)/\Q e ds' f' w') (oN k l.length) a w
 | [],_,a,f,w,_,E,I,h=>⟨ds,f,E,I,by unfold X5 at h;exact h⟩
 | o::l,k,a,f,w,S,E,I,h=>by
  have T:all[k]?=some o:=by simpa using(S 0).symm
  have J:o∈all:=Me T;have ih:=λa f w=>QbV (Q:=Q) G f0 l (k+1) a f w (λj=>by have:=S (j+1);simpa[Nat.add_assoc,Nat.add_comm 1 j]using this);have next:∀v,(∀t,Ye all t=false->QO f o.dst v t=f0 t):=λv t U=>(YY (X6 J U) v).D (I t U);simp only[oQ,Ot,wpOpsIn,oS,T];rw[Va E G o];unfold X5 at h;cases V:Z3 all f o with
  | false =>
   rw[V]at h;exact⟨λ_ _=>trivial,ih _ _ _ (E.put (G o J) _) (next _) h⟩
  | true =>
   rw[V]at h;exact QiW E (λv w' hx=>ih _ _ _ (E.put (G o J) v) (next v) hx) h
theorem JZ {Q:Exit->LN->Fr->OX->Prop}{l:xz}(E:Xf n l=true)(h:X5 P m l (λf w=>Q .normal ds f w) l f w):WG none m P n (.region id l.toArray false) Q ds f w:=by
 unfold WG;intro a G;refine wpIn_region ?_;have:=QbV (m:=m) (Xq E) f l 0 a f w od G (λ_ _=>rfl) h;simpa[List.range_eq_range',XN]using this
theorem xy {rest:xz}{x:OZ}{l:Nat}{R:Ending->OX->Prop}
  (hx:ev f x=.func (.yield l) #[] #[]) (E:YieldAt (fen none) (m - 1) P l #[ev f y] w R) (hK:∀e w',R e w'->∃v,e=.returned v/\X5 P m ops K rest (QO f d v) w')
  (G:Z3 ops f ⟨d,.call ⟨.value x,#[y],at_⟩,ty,pS,af,gd⟩=true:=by rfl):
  X5 P m ops K (⟨d,.call ⟨.value x,#[y],at_⟩,ty,pS,af,gd⟩::rest) f w:=by
 obtain⟨fn,tmps,assign,body,I,J⟩:=E;have S:(execOp (ev f) ⟨d,.call ⟨.value x,#[y],at_⟩,ty,pS,af,gd⟩).run P w=.ok (.round l fn tmps assign body) w:=by
  simp[execOp,resolve,hx,Deferred.ofValue,invoke,I]
 unfold X5;rw[G];simp only[XOY,S,upY,cond_true];exact J.mono λe w' h=>by obtain⟨v,rfl,T⟩:=hK e w' h;exact T
attribute [irreducible] X5
structure Lw (B:Nat)(L:LN)(w w':OX):Prop where
 os:w'.os=w.os
 tape:w'.tape=w.tape
 output:w'.output=w.output
 size:w.heap.size<=↑w'
 low:∀k,k<B->k∉L->w'.heap[k]?=w.heap[k]?
theorem Lw.refl (B:Nat)(L:LN)(w:OX):Lw B L w w:=⟨O,O,O,Lp _,λ_ _ _=>O⟩
theorem Lw.D {B:Nat}{L:LN}{E w w':OX}(h:Lw B L E w)(k:Lw B L w w'):Lw B L E w' :=
 ⟨k.os.D h.os,k.tape.D h.tape,k.output.D h.output,Lx h.size k.size,λi hi G=>(k.low i hi G).D (h.low i hi G)⟩
theorem O1.lw {E:OX}(h:O1 L w w')(k:Lw ↑w L w' E):O1 L w E :=
 ⟨k.os.D h.os,k.tape.D h.tape,k.output.D h.output,Lx h.size k.size,λi hi G=>(k.low i hi G).D (h.block i hi G)⟩
structure Xy (B:Nat)(L:LN)(W W':OX):Prop where
 lw:Lw B L W W'
 other:∀(k:Nat) (o:Obj),W.heap[k]?=some o->o.isCells=false->W'.heap[k]?=some o
theorem Xy.refl (B:Nat)(L:LN)(w:OX):Xy B L w w:=⟨Lw.refl _ _ _,λ_ _ h _=>h⟩
theorem Xy.D {B:Nat}{L:LN}{E w w':OX}(h:Xy B L E w)(k:Xy B L w w'):Xy B L E w':=⟨h.lw.D k.lw,λi o hi G=>k.other i o (h.other i o hi G) G⟩
theorem Xy.J {W:OX}(h:O1 X W W')(T:B<=↑W)(hX:∀b∈X,(b∈L\/B<=b)/\∃o:Obj,W.heap[b]?=some o/\o.isCells=true):Xy B L W W':=by
 refine⟨⟨h.os,h.tape,h.output,h.size,λk G J=>h.block k oa (λhx=>?_)⟩,λk o G S=>?_⟩
 ·rcases(hX k hx).1 with E|E
  ·exact J E
  omega
 refine(h.block k (LJ.1 G).1 (λhx=>?_)).D G;obtain⟨U,E,I⟩:=(hX k hx).2;rw[G]at E;cases E;rw[S]at I;cases I
theorem Xy.I {W:OX}(h:sW W W')(E:B<=↑W):Xy B L W W':=Xy.J h E (λ_ hb=>by cases hb)
theorem QK.cells {H:xw}{b:Nat}(h:QK H b T cs):∃o:Obj,H[b]?=some o/\o.isCells=true:=⟨_,h,O⟩
theorem Xy.blk {W:OX}{b:Nat}(h:O1 [b] W W')(E:B<=↑W)(hb:QK ↑W b T cs)(G:b∈L\/B<=b):Xy B L W W' :=
 Xy.J h E (λc I=>by
  have e:c=b:=by simpa using I
  subst e;exact⟨G,hb.cells⟩)
def Z7 (B:Nat)(I:xu):Prop:=∀W W' X,I W->O1 X W W'->(∀r∈X,B<=r/\∃o:Obj,W.heap[r]?=some o/\o.isCells=false)->I W'
theorem Z7.own {I:β->OX->Prop}(h:∀s,Z7 B (I s)):OwnFrom B I:=λs W W' row G J S =>
 h s W W' _ G (O1.of_grown J) (λr E=>S r (by cases row <;> simp at E ⊢;exact E.symm))
theorem Z7.blk {b:Nat}:Z7 B (λW=>QK ↑W b T cs):=λW W' X h G hX=>h.J G (λhb=>by
 obtain⟨_,o,E,I⟩:=hX b hb;unfold QK at h;rw[h]at E;cases E;cases I)
theorem Z7.and {I J:xu}(h:Z7 B I)(k:Z7 B J):Z7 B (λW=>I W/\J W):=λW W' X hi E hX=>⟨h W W' X hi.1 E hX,k W W' X hi.2 E hX⟩
theorem Z7.ex {I:β->OX->Prop}(h:∀z,Z7 B (I z)):Z7 B (λW=>∃z,I z W):=λW W' X ⟨z,hi⟩ E hX=>⟨z,h z W W' X hi E hX⟩
theorem Z7.pure (p:Prop):Z7 B (λ_=>p):=λ_ _ _ h _ _=>h
theorem Z7.J (G:↑w<=B):Z7 B (λW=>O1 L w W):=λW W' X h E hX=>h.S E (λb hb=>.inr (oo (hX b hb).1))
theorem Q3 {e:Nat}{v:OY}(h:w.ownsRow base e sz v n cs):∀b∈ob v,∃o:Obj,w.heap[b]?=some o/\o.isCells=true:=by
 intro b hb;rcases h.2 with⟨E,_⟩|⟨g,cap,cur,E,I,G,_⟩
 ·subst E;simp[ob]at hb
 subst E;simp[ob]at hb;subst hb;exact⟨_,G,O⟩
theorem Z7.row {e:Nat}{v:OY}:Z7 B (λW=>W.ownsRow base e sz v n cs):=λW W' X h I hX=>Qg h I (λb hb hx=>by
 obtain⟨_,o,J,S⟩:=hX b hx;obtain⟨T,E,G⟩:=Q3 h b hb;rw[J]at E;cases E;rw[S]at G;cases G)
theorem QeI {Q:Exit->LN->Fr->OX->Prop}{g:OZ}{p:Nat}{assign body:Code}(L:LN)(Y:1<=m)
  {gf:Nat}  [hF:Fu P gf fn]  (hg:ev f g=.func (.func gf) #[] capt.toArray) {enc:α->OY} {S:List α->Prop}  (hp:p<n)
  (hh:SeqStopsK (fen none) (m - 1) P gf capt.toArray (λx=>#[enc x]) (Lw ↑w L) S (λ_=>True) N w)
  (I:List α->OX->Prop) (hI:∀s,Z7 ↑w (I s)) (h0:I [] w) (A:Fr->α->Fr->OX->Prop) (hA:∀x E,Z7 ↑w (A f x E))
  (he:∀l pre x W,I pre W->WG (some l) (m - 1 - 1) P n assign (Qci (λhc E W'=>hc=[]/\Xy ↑w L W W'/\I pre W'/\A f x E W') (λ_ _ _ _=>False)) [] (upd f p (enc x)) W)
  (hf:∀l pre x E W,I pre W->A f x E W->pre.length<N->WG (some l) (m - 1 - 1) P n body (Qci (λ_ _ W'=>Xy ↑w L W W'/\I (pre++[x]) W') (λ_ _ _ _=>False)) [] E W)
  (hj:∀D xs W,↑w<=D->S xs->I xs W->W.heap[D]?=some (.deferred (some []))->Q .normal (D::ds) f W):
  WG none m P n (.rangeFunc g #[p] assign body) Q ds f w:=by
 unfold WG at he hf ⊢;intro a U;have eg:∀args w,(callFunc gf args).run P w=.ok (.enter gf args) w:=by
  intro args w;have Y:¬fn.name = "runtime.NumGoroutine" := by simpa using hF.nm
  have T:¬fn.body=none:=by have:=hF.b;intro e;rw[e]at this;cases this
  simp[callFunc,hF.f,Y,T]
 have keep:∀{W W':OX},Xy ↑w L W W'->KeepsFrom ↑w W W':=λh=>⟨h.lw.size,λk o _ hk ho=>h.other k o hk ho⟩;refine wpIn_rangeFunc_ownH (F:=fen none) O Y (gf:=gf) (lb:=capt.toArray) (by rw[U.eval];exact hg) Z eg hh (λh k=>h.D k)
  (λW l o o' hl ho _ _=>⟨O,O,O,od,λk hk _=>World.putObj_heap_other oa⟩) (Below.refl _ _) (λ_=>rfl) I (λ_ _ _=>False) (Z7.own hI) (λ_ _ _ _ _ hs _ _=>hs) h0
  (λx V W=>∃E,Y3 n [] V E/\A f x E W) (λx V=>Z7.own λ_=>Z7.ex λE=>Z7.and (Z7.pure _) (hA x E)) ?_ ?_ ?_ ?_
 ·intro l pre x W K hi hK;have hr:Y3 n [] { tmps:=((#[p]:Array Nat).zip #[enc x]).foldl (λt (p,v)=>t.setIfInBounds p v) a.tmps,defers:=[] } (upd f p (enc x)):=by
   have T:Y3 n [] { a with defers:=[] } f:=⟨U.size,O,U.get⟩
   have G:=T.put (dst:=some p) (λd e=>by cases e;exact hp) (enc x);have e:((#[p]:Array Nat).zip #[enc x]).foldl (λt (p,v)=>t.setIfInBounds p v) a.tmps=a.tmps.setIfInBounds p (enc x):=od
   rw[e];exact G
  refine wpIn_mono (he l pre x W hi _ hr) ?_;rintro e V W' ⟨hc,E,T,_,G⟩;cases e with
  | normal=>obtain⟨rfl,h4,J,h6⟩:=G;exact hK V W' (keep h4) h4.lw J ⟨E,T,h6⟩
  | exit id=>exact G.elim
  | goto l=>exact G.elim
  | ret=>exact G.elim
  | panic ch=>exact G.elim
  | outgrown=>exact G.elim
 ·rintro l pre x V W _ _ hi ⟨E,T,G⟩ hm;refine wpIn_mono (hf l pre x E W hi G hm V T) ?_;rintro e hn W' ⟨hc,hq,h4,_,J⟩;cases e with
  | normal=>exact⟨keep J.1,J.1.lw,J.2⟩
  | exit id=>exact J.elim
  | goto l=>exact J.elim
  | ret=>exact J.elim
  | panic ch=>exact J.elim
  | outgrown=>exact J.elim
 ·intro D xs W hD hS hi hd;exact⟨D::ds,f,⟨U.size,by rw[show coll (D::ds)={ target:=.collected D,args:=#[] }::coll ds from rfl,U.defers],U.get⟩,λ_ _=>rfl,hj D xs W hD hS hi hd⟩
 intro D c pre W _ _ h _;exact h.elim
def Qny (P:O0)(t:Nat):Option (LV×xp):=match P.info? t,P.underlying t with
 | some it,some (.struct fs)=>match it.zero,fs.toList.mapM (λf=>(P.info? f.type).map λi=>(f.offset,i.size))with
  | some (.agg zs),some pl=>some (zs.toList,pl)
  | _,_=>none
 | _,_=>none
class Bw (P:O0)(t:Nat)(zs:outParam (LV))(pl:outParam xp):Prop where
 h:Qny P t=some (zs,pl):=by first|kernel_rfl|decide|rfl|exact sX (by kernel_rfl)
 b:pl.all (λx=>x.1+x.2<=zs.length)=true:=by first|kernel_rfl|decide|rfl|exact sX (by kernel_rfl)
def QaN:LV->Nat->LV->LV
 | zs,_,[]=>zs
 | zs,o,u::us=>QaN (zs.set o u) (o+1) us
def QiU (pl:xp)(zs:LV):List (Nat×LV)->LV
 | []=>zs
 | (j,us)::ps=>QiU pl (QaN zs (pl.getD j (0,0)).1 us) ps
def QlD:List (Nat×OY)->List (Nat×LV)->Prop
 | [],[]=>True
 | (j,v)::vs,(j',us)::uss=>v.cells=us.toArray/\j=j'/\QlD vs uss
 | _,_=>False
theorem QaM:∀(us zs:LV) (o:Nat),(QaN zs o us).length=zs.length
 | [],_,_=>rfl
 | u::us,zs,o=>by rw[QaN,QaM us,MR]
theorem yx (o:Nat):∀(us:LV) (k:Nat) (zs:LV),(us.zipIdx k).foldl (λ(cs:Array OY) (x:OY×Nat)=>cs.setIfInBounds (o+x.2) x.1) zs.toArray=(QaN zs (o+k) us).toArray
 | [],_,_=>rfl
 | u::us,k,zs=>by
  rw[Nx,LO,QaN];have:=yx o us (k+1) (zs.set (o+k) u);rw[<-List.setIfInBounds_toArray]at this;exact this
theorem Qh4 {pl:xp}:∀(vs:List (Nat×OY)) (uss:List (Nat×LV)) (zs:LV),QlD vs uss->uss.all (λp=>p.1<pl.length && (p.2.length == (pl.getD p.1 (0,0)).2))=true ->
  (∀x∈pl,x.1+x.2<=zs.length)->Instr.fill (pl.toArray[·]?) zs.toArray vs=some (QiU pl zs uss).toArray
 | [],[],zs,_,_,_=>rfl
 | [],_::_,_,h,_,_=>h.elim
 | _::_,[],_,h,_,_=>h.elim
 | (j,v)::vs,(j',us)::uss,zs,I,G,J=>by
  obtain⟨U,rfl,I⟩:=I;simp only[Oa,oI,decide_eq_true_eq,beq_iff_eq]at G;obtain⟨⟨E,S⟩,G⟩:=G;have T:pl.getD j (0,0)=pl[j]'E:=by simp[oO,E]
  have V:=J _ (Lk E);unfold Instr.fill;simp only[oS,oU E,U];rw[T]at S;rw[OP (by simp only[Oc,S,ne_eq,not_true,decide_false,Bool.false_or,decide_eq_true_eq];omega)];have e:=yx (pl[j]'E).1 us 0 zs;rw[MS]at e;have e2:(us.toArray.zipIdx).foldl (λ(cs:Array OY) (x:OY×Nat)=>cs.setIfInBounds ((pl[j]'E).1+x.2) x.1) zs.toArray=(QaN zs (pl[j]'E).1 us).toArray:=by
   rw[<-e];simp
  rw[e2,QiU,T];simpa only[oS]using(Qh4 vs uss (QaN zs (pl[j]'E).1 us) I G (λx hx=>by rw[QaM];exact J x hx))
theorem Qda {zs:LV}{pl:xp}(h:Qny P t=some (zs,pl))(hb:pl.all (λx=>x.1+x.2<=zs.length)=true)(vs:List (Nat×OY))(uss:List (Nat×LV))(J:QlD vs uss)
  (S:uss.all (λp=>p.1<pl.length && (p.2.length == (pl.getD p.1 (0,0)).2))=true):P.built t vs=some (QiU pl zs uss).toArray:=by
 have T:∀x∈pl,x.1+x.2<=zs.length:=λo U=>ou (L9.1 hb o U)
 unfold Qny at h;unfold Program.built;cases hi:P.info? t with
 | none=>simp[hi]at h
 | some it =>
  cases I:P.underlying t with
  | none=>simp[hi,I]at h
  | some dd =>
   simp only[hi,I]at h;cases dd <;> simp only[]at h <;> try (cases h)
   case struct fs =>
    cases E:it.zero with
    | none=>simp[E]at h
    | some z =>
     cases z <;> simp only[E]at h <;> try (cases h)
     rename_i za;cases G:fs.toList.mapM (λf=>(P.info? f.type).map λi=>(f.offset,i.size))with
     | none=>simp[G]at h
     | some pl' =>
      simp only[G,Option.some.injEq,Prod.mk.injEq]at h;obtain⟨rfl,rfl⟩:=h;simp only[E,G,Value.cells];exact Qh4 vs uss za.toList J S T
theorem Zq {zs:LV}{pl:xp}[h:Bw P t zs pl]{parts:List (Nat×OZ)}(uss:List (Nat×LV))
  (E:QlD (parts.map λx=>(x.1,ev f x.2)) uss) (G:uss.all (λp=>p.1<pl.length && (p.2.length == (pl.getD p.1 (0,0)).2))=true:=by rfl):
  (execOp (ev f) ⟨d,.build t parts.toArray,ty,pS,af,gd⟩).run P w=.ok (.value (sT (QiU pl zs uss))) w:=by
 simp only[execOp,Sem.run_bind,(run_build (P:=P) w t (parts.toArray.map λ(i,x)=>(i,ev f x)) _ (by simpa using(Qda h.h h.b _ uss E G))),Result.andThen_ok,Sem.run_pure]
def cnE (p:Ed->Bool)(es:List Ed):Int:=((es.filter p).length:Int)
theorem QbE (p:Ed->Bool)(es:List Ed)(e:Ed):cnE p (es++[e])=cnE p es+if p e=true then 1 else 0:=by
 unfold cnE;rw[LR,Lc];by_cases h:p e=true
 ·simp[h]
 simp[h]
theorem Vj (p:Ed->Bool)(es:List Ed):0<=cnE p es/\cnE p es<=es.length:=by
 unfold cnE;have:=LF p es;omega
def gA (n:Nat)(f:Nat->Int):LI:=(oK n).map f
theorem Qm7 (n:Nat)(f:Nat->Int):(gA n f).length=n:=by simp[gA]
theorem QhY {f:Nat->Int}(h:i<(gA n f).length):(gA n f)[i]'h=f i:=by simp[gA]
theorem QcR {f g:Nat->Int}{u:Int}(G:u=g i)(h:∀j,j<n->j≠i->g j=f j):(gA n f).set i u=gA n g:=by
 apply LZ
 ·simp[gA]
 intro k I E;rw[Nj,QhY E];by_cases e:i=k
 ·rw[OQ e,G,e]
 rw[OP e,QhY];exact(h k (by simpa[gA]using E) (Ne.symm e)).symm
theorem Qbl {f g:Nat->Int}(h:∀j,j<n->f j=g j):gA n f=gA n g:=List.map_congr_left (λj E=>h j (MD.1 E))
def cN (es:List Ed)(s:Nat):Int:=cnE (λe=>decide (e.1+1=(s:Int))) es
def fS (es:List Ed)(s:Nat):Int:=cnE (λe=>decide (e.1<(s:Int))) es
theorem Qej (es:List Ed)(s:Nat):fS es (s+1)=cN es (s+1)+fS es s:=by
 unfold fS cN cnE;induction es with
 | nil=>rfl
 | cons e es ih =>
  simp only[OE];by_cases I:e.1<(s:Int)
  ·have G:e.1<((s+1:Nat):Int):=oa
   have E:¬e.1+1=((s+1:Nat):Int):=oa
   simp only[I,G,E,decide_true,decide_false,if_true,oQ]at ih ⊢;simp only[Oh,if_false]at ih ⊢;omega
  by_cases G:e.1+1=((s+1:Nat):Int)
  ·have E:e.1<((s+1:Nat):Int):=oa
   simp only[I,G,E,decide_true,decide_false,if_true,oQ]at ih ⊢;simp only[Oh,if_false]at ih ⊢;omega
  have E:¬e.1<((s+1:Nat):Int):=oa
  simp only[I,G,E,decide_false,Oh,if_false]at ih ⊢;exact ih
theorem Qei (h:∀e∈es,0<=e.1):fS es 0=0/\cN es 0=0:=by
 unfold fS cN cnE;refine⟨?_,?_⟩
 ·have:(es.filter λe=>decide (e.1<((0:Nat):Int)))=[]:=MN.2 (λe E=>by have:=h e E;simp;omega);rw[this];rfl
 have:(es.filter λe=>decide (e.1+1=((0:Nat):Int)))=[]:=MN.2 (λe E=>by have:=h e E;simp;omega);rw[this];rfl
def mX (es:List Ed)(s j:Nat):Int:=if j<=s then fS es j else cN es j
theorem Qkk (h:∀e∈es,0<=e.1)(n:Nat):gA n (cN es)=gA n (mX es 0):=Qbl λj _=>by
 unfold mX;by_cases e:j<=0
 ·have:j=0:=oa
  subst this;rw[OQ (Lp _),(Qei h).1,(Qei h).2]
 rw[OP e]
theorem Qkl (es:List Ed)(s n:Nat):(gA n (mX es s)).set (s+1) (mX es s (s+1)+mX es s s)=gA n (mX es (s+1)):=by
 refine QcR ?_ λj _ E=>?_
 ·unfold mX;rw[OP oa,OQ (Lp _),OQ (Lp _),Qej]
 unfold mX;by_cases e:j<=s
 ·rw[OQ oa,OQ e]
 rw[OP oa,OP e]
theorem Qlh (es:List Ed)(e:Ed)(E:0<=e.1)(n:Nat):(gA n (cN es)).set (e.1.toNat+1) (cN es (e.1.toNat+1)+1)=gA n (cN (es++[e])):=by
 refine QcR ?_ λj _ G=>?_
 ·unfold cN;rw[QbE,OQ (by simp;omega)]
 unfold cN;rw[QbE,OP (by simp;omega)];simp
theorem yK (n:Nat):(oG n (sS 0).cells.toList).flatten=(gA n (cN [])).map (Value.int .i64):=by
 apply LZ
 ·simp[Value.cells,gA]
 intro i E G;simp[Value.cells,gA,cN,cnE]
theorem VF [Xt P t]{x:OZ}{b:Nat}{g:Nat->Int}(h:QK ↑w b T ((gA n g).map (.int .i64)))(hx:ev f x=.pointer (some ⟨b,0+i*1,none⟩))(hi:i<n):
  (execOp (ev f) ⟨d,.load t x,ty,pS,af,gd⟩).run P w=.ok (.value (sS (g i))) w:=Qk h hx (by simp[gA,hi])
theorem qY [h1:Xt P t]{x:OZ}{b:Nat}{g E:Nat->Int}{u:Int}(G:QK ↑w b T ((gA n g).map (.int .i64)))(hx:ev f x=.pointer (some ⟨b,0+i*1,none⟩))(I:ev f y=sS u)(hi:i<n)(J:(gA n g).set i u=gA n E)
  (hK:∀w',O1 [b] w w'->QK ↑w' b T ((gA n E).map (.int .i64))->K (QO f d undef) w'):XO P ⟨d,.store t x y,ty,pS,af,gd⟩ f w K :=
 JP G hx I (by rw[Qm7];exact hi) λw' S U=>hK w' S (by rw[<-J];exact U)
instance:Bw sV 304 [nS,sS 0,nS,nS,nS] [(0,4),(4,1)]:={}
theorem Qa6 (h:Zr [] ↑w va vm ve a)(hn:a.st=(n:Int))(hR:a.st<=4096)(h3:∀e∈a.ed,0<=e.1/\e.1<a.st):
  QT sV 198 [.agg #[va,sS a.st,vm,ve]] w λr w'=>sW w w'/\∃b,r=.agg #[va,sS a.st,vm,ve,sL b (n+1) (n+1)]/\↑w<=b/\QK ↑w' b 3 ((gA (n+1) (fS a.ed)).map (Value.int .i64)):=by
 have hS:=h.ed.le;refine Zn func198 ?_;refine Qc<|Zd [va,sS a.st,vm,ve] λb1 w1 hu hC hD=>QP [nS,sS 0,nS,nS,nS] λb2 G hv hT h4=>xe ?_;have ha:=hD.I hv;have ho:a.st+1=((n+1:Nat):Int):=oa
 have hw:sW G { G with drawn:=G.drawn+1 }:=O1.C [] G
 have hU:=hw.size;refine QV (α:=Nat×Nat) [(3,3),(7,12)] (λz=>[(3,.pointer (some ⟨z.1,0,none⟩))]) (λz w'=>sW G w'/\QK ↑w' z.1 304 [va,sS a.st,vm,ve,.slice (some ⟨z.2,0,none⟩) (n+1) (n+1)]/\QK ↑w' z.2 3 ((gA (n+1) (cN [])).map (Value.int .i64))/\↑G<=z.1/\↑G<=z.2/\z.1≠z.2) oh ?_ ?_
 ·refine QeG (sW G) (.f2 [oz 0,oz 1,oz 2,oz 3] 4 6 (.pl [oz 5,oA 6,oA 7]) (.pl [oA 4,oz 5,oA 7])) mixed oh oc (O1.C _ _) ?_;refine u2<|pq (λ_ E=>Zj (ha.I E) O O)<|p (QH O)<|pq (λ_ E=>Qk (ha.I E) O O)<|p (λ_=>YE O O ⟨oa,oa⟩)<|pe ⟨?_,?_⟩
  ·refine ue<|YP (n:=n+1) (OR sS ho) (OR sS ho) oa λb11 w3 hy hE hp=>?_;have hf:=hw.D hy;have hV:=hp.lt;refine⟨hf,?_⟩;refine uP<|p (λ_=>Zq [(0,[va,sS a.st,vm,ve]),(1,[sL b11 (n+1) (n+1)])] ⟨O,O,O,O,Z⟩)<|pk<|YK (us:=[nS,sS 0,nS,nS,nS]) O λT w4 hg h5 U=>?_;have I:=hf.D hg;refine⟨I,?_⟩;refine pk<|Us [va,sS a.st,vm,ve,sL b11 (n+1) (n+1)] U ⟨h.al.one,O,h.mr.one,h.ed.one,O,Z⟩ λw5 J hh=>⟨I.O J oa,pe ?_⟩;have hz:QK ↑w3 b11 3 ((gA (n+1) (cN [])).map (Value.int .i64)):=by rw[<-yK];exact hp
   exact⟨(T,b11),La,I.O J oa,hh,(hz.I hg).J J (by simp;omega),oe,oe,oe⟩
  refine ue<|YK (us:=[nS,sS 0,nS,nS,nS]) O λT w3 hy h5 U=>?_;have hf:=hw.D hy;have hW:=U.lt;refine⟨hf,?_⟩;refine uP<|pk<|YP (n:=n+1) (OR sS ho) (OR sS ho) oa λb11 w4 hg hE hp=>?_;have I:=hf.D hg;refine⟨I,?_⟩;refine p (λ_=>Zq [(0,[va,sS a.st,vm,ve]),(1,[sL b11 (n+1) (n+1)])] ⟨O,O,O,O,Z⟩)<|pk<|Us [va,sS a.st,vm,ve,sL b11 (n+1) (n+1)] (U.I hg) ⟨h.al.one,O,h.mr.one,h.ed.one,O,Z⟩ λw5 J hh=>⟨I.O J oa,pe ?_⟩;have hz:QK ↑w4 b11 3 ((gA (n+1) (cN [])).map (Value.int .i64)):=by rw[<-yK];exact hp
  exact⟨(T,b11),La,I.O J oa,hh,hz.J J (by simp;omega),oe,oe,oe⟩
 rintro⟨T,bF⟩ g6 w6 ⟨h6,U,hF,h5,h7,hX⟩;have hY:=ha.lt;have hZ:=h4.lt;refine Qe<|Qc<|Qr O (ha.I h6) O O<|QG h.ed O<|Qa<|xe ?_;have hG:∀e∈a.ed,0<=e.1:=λe he=>(h3 e he).1;refine QW (α:=Nat) [(5,5),(16,29)] (λz=>[(16,sS z)]) (λz w'=>z<=a.ed.length/\sW G w'/\QK ↑w' T 304 [va,sS a.st,vm,ve,sL bF (n+1) (n+1)]/\QK ↑w' bF 3 ((gA (n+1) (cN (a.ed.take z))).map (Value.int .i64))) (λz=>a.ed.length - z) 0 La
  ⟨Ln _,h6,U,hF⟩ ?_
 rintro k g w7 ⟨hk,hq,h0,hr⟩;refine Zi rfl O (λh1=>?_) (λh1=>?_)
 ·refine Qu ?_;have hH:a.ed.length<=k:=by have hs:¬(k:Int)<(a.ed.length:Int):=h1;omega
  rw[Lq hH,Qkk hG (n+1)]at hr;refine Qe<|Qc<|Qr O (ha.I hq) O O<|Qa<|xe<|QW (α:=Nat) [(6,6),(32,48)] (λz=>[(32,sS z)]) (λz w'=>z<=n/\sW G w'/\QK ↑w' T 304 [va,sS a.st,vm,ve,sL bF (n+1) (n+1)]/\QK ↑w' bF 3 ((gA (n+1) (mX a.ed z)).map (Value.int .i64))) (λz=>n - z) 0 La
   ⟨Ln _,hq,h0,hr⟩ ?_
  rintro j g w8 ⟨hj,hl,ht,V⟩;refine Zi O O (λh8=>?_) (λh8=>?_)
  ·refine Qu ?_;have h2:j=n:=oa
   rw[h2]at V;have hI:gA (n+1) (mX a.ed n)=gA (n+1) (fS a.ed):=Qbl λi hi=>by unfold mX;rw[OQ oa]
   rw[hI]at V;refine Qc<|QY ht O O<|Q0 [va,sS a.st,vm,ve,sL bF (n+1) (n+1)] (h4.I hl) ⟨h.al.one,O,h.mr.one,h.ed.one,O,Z⟩ λw9 S hJ=>xe ?_;have ga:=hu.size;refine Qj ⟨[_],⟨Jm hJ,Z⟩,((hu.D hv).D hl).O S oa,bF,O,oa,V.J S (by simp;omega)⟩
  have h2:j<n:=by have gb:(j:Int)<a.st:=h8;omega
  have gc:=Vj (λe:Ed=>decide (e.1<(j:Int))) a.ed;have ge:=Vj (λe:Ed=>decide (e.1+1=((j+1:Nat):Int))) a.ed;have hK:mX a.ed j (j+1)=cN a.ed (j+1):=by unfold mX;rw[OP oa]
  have hL:mX a.ed j j=fS a.ed j:=by unfold mX;rw[OQ (Lp _)]
  have hC:0<=mX a.ed j (j+1)/\mX a.ed j (j+1)<=1099511627776:=by rw[hK];unfold cN;omega
  have gg:0<=mX a.ed j j/\mX a.ed j j<=1099511627776:=by rw[hL];unfold fS;omega
  refine Qf<|Qe<|Qn<|Ql<|Qb<|ZJ [] (Y4 0 14 [13])<|p (QH O)<|pq (λ_ E=>Qk (ht.I E) O O)<|p Qy<|p (λ_=>YE O O ⟨oa,oa⟩) <|
   p (λ_=>QD (i:=j+1) O O oa)<|pq (λ_ E=>VF (i:=j+1) (V.I E) O oa)<|p (QH O)<|pq (λ_ E=>Qk (ht.I E) O O) <|
   p Qy<|p (λ_=>QD (i:=j) O O oa)<|pq (λ_ E=>VF (i:=j) (V.I E) O oa)<|p (λ_=>YE O O ⟨oa,oa⟩) <|
   p (λ_=>QD (i:=j+1) O O oa)<|pkk<|qY (i:=j+1) (V.I (O1.C [] w8)) O O oa (Qkl a.ed j (n+1)) λw9 S hM=>pe ?_
  refine Qs<|QC O O<|Qa<|xe ?_;exact⟨j+1,oa,La,h2,(hl.D (O1.C [] w8)).O S h7,(ht.I (O1.C [] w8)).J S (by simp;omega),hM⟩
 have Y:k<a.ed.length:=by have hs:(k:Int)<(a.ed.length:Int):=h1;omega
 have h9:a.ed.take (k+1)=a.ed.take k++[a.ed[k]'Y]:=Lh Y;have hA:=h3 _ (Lk Y);refine Zf (a.ed[k]'Y) λe he=>?_;rw[he]at h9 hA;have hfr:e.1+1=((e.1.toNat+1:Nat):Int):=oa
 have hN:=Vj (λd:Ed=>decide (d.1+1=((e.1.toNat+1:Nat):Int))) (a.ed.take k);have gh:0<=cN (a.ed.take k) (e.1.toNat+1)/\cN (a.ed.take k) (e.1.toNat+1)<=1099511627776:=by unfold cN;rw[LA]at hN;omega
 refine Qf<|Qe<|Qn<|Qc<|xie ((h.I (hu.D hv)).ed.I hq) O O Y λgi hs=>?_;rw[he]at hs;refine x (QE hs O O)<|QP [sS 0,sS 0,sS 0] λb5 w8 hl hO hh=>Q0 (Qp e) hh ox λw9 S hP=>xe ?_;have hm:sW w7 w9:=hl.O S hO;refine Qs<|Qr O (h0.I hm) O O<|Qr O hP O O<|QC O O<|x (QD (i:=e.1.toNat+1) O (OR sS hfr) oa) <|
  x (VF (i:=e.1.toNat+1) (hr.I hm) O oa)<|QC O O<|x (QD (i:=e.1.toNat+1) O (OR sS hfr) oa) <|
  Qo<|qY (i:=e.1.toNat+1) (hr.I hm) O O oa (Qlh (a.ed.take k) e hA.1 (n+1)) λgj hB hQ=>xe ?_
 refine Qs<|QC O O<|Qa<|xe<|⟨k+1,oa,La,Y,(hq.D hm).O hB h7,(h0.I hm).J hB (by simp;omega),?_⟩;rw[h9];exact hQ
open Go.RowKit
section
variable {l:xz}
end
def Xd {α:Type}(f:Nat->α)(i:Nat)(x:α):Nat->α:=λj=>if j=i then x else f j
theorem Zt (f:Nat->α)(i:Nat)(x:α):Xd f i x i=x:=by simp[Xd]
theorem ZM (f:Nat->α)(x:α)(h:j≠i):Xd f i x j=f j:=by simp[Xd,h]
theorem JK (k:α->β)(n:Nat)(f:Nat->α)(i:Nat)(x:α):((oK n).map λj=>k (f j)).set i (k x)=(oK n).map λj=>k (Xd f i x j):=by
 apply LZ
 ·simp
 intro j E G;rw[Nj];by_cases e:i=j
 ·subst e;simp[Zt]
 rw[OP e];simp[ZM _ _ (Ne.symm e)]
structure K8 (base:Nat)(w:OX)(n:Nat)(f:Nat->OY)(g:Nat->LI):Prop where
 own:∀i,i<n->Qh 3 base w (f i) (g i)
 dj:∀i j,i<n->j<n->i≠j->Dj (f i) (f j)
theorem K8.app {f:Nat->OY}{g:Nat->LI}(h:K8 base w n f g)(hi:i<n)(T:Qh 3 base w' v' l)(U:O1 (ob (f i)) w w')
  (V:∀b∈ob v',b∈ob (f i)\/↑w<=b):K8 base w' n (Xd f i v') (Xd g i l):=by
 refine⟨λj E=>?_,λj k E I G=>?_⟩
 ·by_cases e:j=i
  ·subst e;rw[Zt,Zt];exact T
  rw[ZM _ _ e,ZM _ _ e];exact Qg (h.own j E) U (h.dj j i E hi e)
 have key:∀j,j<n->j≠i->Dj v' (f j):=λj E e b hb J=>by
  rcases V b hb with S|S
  ·exact h.dj i j hi E (Ne.symm e) b S J
  have:=QU (h.own j E) b J;omega
 by_cases e1:j=i
 ·subst e1;rw[Zt,ZM _ _ (Ne.symm G)];exact key k I (Ne.symm G)
 rw[ZM _ _ e1];by_cases e2:k=i
 ·subst e2;rw[Zt];exact(key j E e1).symm
 rw[ZM _ _ e2];exact h.dj j k E I G
theorem K8.J {f:Nat->OY}{g:Nat->LI}(h:K8 base w n f g)(E:O1 X w w')(hX:∀i,i<n->∀b∈ob (f i),b∉X):K8 base w' n f g :=
 ⟨λi hi=>Qg (h.own i hi) E (hX i hi),h.dj⟩
theorem K8.I {f:Nat->OY}{g:Nat->LI}(h:K8 base w n f g)(E:sW w w'):K8 base w' n f g:=h.J E (λ_ _ _ _=>od)
def YR (es:List Ed)(s:Nat):LI:=(es.filter λe=>decide (e.2.2=(s:Int))).map (·.1)
theorem QcO (es:List Ed)(e:Ed)(E:0<=e.2.2):∀s,Xd (YR es) e.2.2.toNat (YR es e.2.2.toNat++[e.1]) s=YR (es++[e]) s:=by
 intro s;unfold YR;rw[LR,Lv];by_cases h:s=e.2.2.toNat
 ·subst h;rw[Zt];have:e.2.2=(e.2.2.toNat:Int):=oa
  simp[<-this]
 rw[ZM _ _ h];have:¬e.2.2=(s:Int):=oa
 simp[this]
theorem Qfm {s:Nat}{p:Int}(h:p∈YR es s):∃e∈es,e.1=p/\e.2.2=(s:Int):=by
 unfold YR at h;simp only[OF,Ow,decide_eq_true_eq]at h;obtain⟨e,⟨E,G⟩,I⟩:=h;exact⟨e,E,I,G⟩
theorem Ux (es:List Ed)(s:Nat):(YR es s).length<=es.length:=by
 unfold YR;rw[Lj];exact LF _ _
def bwE (s:Int)(st:LI×LI)(p:Int):LI×LI:=if O2 st.1 p.toNat<0 then(st.1.set p.toNat (O2 st.1 s.toNat+1),st.2++[p])else st
def U7 (n:Nat)(to:LI):LI:=(oK n).map λi:Nat=>if(i:Int)∈to then 0 else -1
structure Qje (n:Nat)(o q:LI):Prop where
 len:o.length=n
 q:∀x∈q,0<=x/\x<(n:Int)
 le:∀x∈o,-1<=x/\x+(neg o:Int)<=n
theorem QmC (l:LI):neg l<=l.length:=LF _ _
theorem Qnz {p:Int}{st:LI×LI}(h:Qje n st.1 st.2)(hs:0<=s/\s<(n:Int))(E:0<=O2 st.1 s.toNat)(S:0<=p/\p<(n:Int)):
  Qje n (bwE s st p).1 (bwE s st p).2/\neg (bwE s st p).1+(bwE s st p).2.length=neg st.1+st.2.length/\0<=O2 (bwE s st p).1 s.toNat:=by
 unfold bwE;have T:=h.len;have G:p.toNat<st.1.length:=oa
 have U:s.toNat<st.1.length:=oa
 by_cases I:O2 st.1 p.toNat<0
 ·rw[OQ I];have V:st.1[p.toNat]'G<0:=by rw[Zu G];exact I
  have hv:=h.le _ (Xh U);have ha:=VM st.1 p.toNat (O2 st.1 s.toNat+1) G V oa;refine⟨⟨by simp[T],λx hx=>?_,λx hx=>?_⟩,?_,?_⟩
  ·simp only[oV,oF]at hx;rcases hx with hx|rfl
   ·exact h.q x hx
   exact S
  ·simp only[]at hx ⊢;rcases Nn hx with J|J
   ·have:=h.le x J;omega
   subst J;omega
  ·simp only[oM,oL];omega
  simp only[];have Y:s.toNat≠p.toNat:=λe=>by rw[e]at E;omega
  have:O2 (st.1.set p.toNat (O2 st.1 s.toNat+1)) s.toNat=O2 st.1 s.toNat:=by
   unfold O2;simp[oO,List.getElem?_set_ne (Ne.symm Y)]
  rw[this];exact E
 rw[OP I];exact⟨h,rfl,E⟩
theorem V5 (n:Nat)(to:LI):(U7 n to).length=n:=by simp[U7]
theorem QnA {to:LI}(h:∀x∈to,0<=x/\x<(n:Int)):Qje n (U7 n to) to:=by
 refine⟨V5 n to,h,λx hx=>?_⟩;have E:=QmC (U7 n to);rw[V5]at E;unfold U7 at hx;simp only[OF]at hx;obtain⟨i,_,rfl⟩:=hx;split <;> omega
theorem Qlk {to:LI}{x:Int}(h:0<=x/\x<(n:Int))(hx:x∈to):O2 (U7 n to) x.toNat=0:=by
 have E:x.toNat<(U7 n to).length:=by rw[V5];omega
 rw[<-Zu E];have:((x.toNat:Nat):Int)=x:=oa
 simp[U7,this,hx]
def QnJ (o q:LI):Prop:=∀x∈q,0<=O2 o x.toNat
theorem QiQ {p:Int}{st:LI×LI}(h:Qje n st.1 st.2)(J:0<=O2 st.1 s.toNat)(S:0<=p/\p<(n:Int))(E:QnJ st.1 st.2):QnJ (bwE s st p).1 (bwE s st p).2:=by
 unfold bwE;have I:p.toNat<st.1.length:=by have:=h.len;omega
 by_cases G:O2 st.1 p.toNat<0
 ·rw[OQ G];intro x hx;have e1:O2 (st.1.set p.toNat (O2 st.1 s.toNat+1)) x.toNat=if x.toNat=p.toNat then O2 st.1 s.toNat+1 else O2 st.1 x.toNat:=by
   by_cases e:x.toNat=p.toNat
   ·rw[OQ e,e];unfold O2;simp[oO,I]
   rw[OP e];unfold O2;simp[oO,List.getElem?_set_ne (Ne.symm e)]
  rw[e1];split
  ·omega
  rename_i e;simp only[oV,oF]at hx;rcases hx with hx|rfl
  ·exact E x hx
  exact OS O e
 rw[OP G];exact E
theorem VC (n:Nat):(oG n (nS).cells.toList).flatten=(oK n).map (λ_=>nS):=by
 apply LZ
 ·simp[Value.cells]
 intro i E G;simp[Value.cells]
theorem Qfl (n:Nat):(oG n (sS 0).cells.toList).flatten=(gA n (λj=>if j<0 then -1 else 0)).map (Value.int .i64):=by
 apply LZ
 ·simp[Value.cells,gA]
 intro i E G;simp[Value.cells,gA]
theorem Kv {rv:Nat->OY}(hi:i<n):((oK n).map rv)[0+i*1]?=some (rv i):=by simp[hi]
theorem QpQ {C:xu}{pl:xo}
  {e bys:Nat}  {x G I:OZ}  {v:OY}   {H:xw} {k:IntKind}  [h:Sl P t e sz bys z]
  (J:QR ops E=⟨d,.slice t x (some G) (some I) none,ty,pS,af,gd⟩) (hA:Zs L H v n sz cs) (hx:ev f x=v) (S:ev f G=.int k lo) (T:ev f I=.int k' hi) (U:lo<=hi) (V:hi<=n)
  (hK:∀v',Zs L H v' (hi - lo) sz ((cs.drop (lo*sz)).take ((hi - lo)*sz))->XP P ops C K pl (QO f d v') w)
  (Y:Z3 ops f (QR ops E)=true:=by rfl):XP P ops C K ((E,true)::pl) f w:=by
 obtain⟨v',h3,h4⟩:=QdP (P:=P) (d:=d) (ty:=ty) (pS:=pS) (af:=af) (gd:=gd) (t:=t) hA hx S T U V;exact Lg.p (λw'=>by rw[J];exact h4 w') (by rw[J];exact hK v' h3) Y
theorem Qek (G:es.Pairwise λx y=>x.1<=y.1)(s:Nat):∀(m:Nat) (E:m<es.length),(m:Int)<fS es s↔(es[m]'E).1<(s:Int):=by
 unfold fS cnE;induction es with
 | nil=>intro m E;simp at E
 | cons e es ih =>
  intro m E;simp only[Ou]at G;have ih:=ih G.2;simp only[OE];by_cases I:e.1<(s:Int)
  ·simp only[I,decide_true,if_true,oQ];cases m with
   | zero=>simp only[Oj];omega
   | succ m =>
    have:=ih m (ou E);simp only[List.getElem_cons_succ];rw[<-this];omega
  have J:(es.filter λe=>decide (e.1<(s:Int)))=[]:=MN.2 (λd hd=>by have:=G.1 d hd;simp;omega);simp only[I,decide_false,Oh,if_false,J,List.length_nil];cases m with
  | zero=>simp only[Oj];omega
  | succ m =>
   have hd:es[m]'(ou E)∈es:=Lk _;have:=G.1 _ hd;simp only[List.getElem_cons_succ];omega
theorem QkW (es:List Ed)(s:Nat):fS es s<=fS es (s+1):=by
 have h:=Qej es s;have:=(Vj (λe:Ed=>decide (e.1+1=((s+1:Nat):Int))) es).1;unfold cN at h;omega
theorem QjJ (G:es.Pairwise λx y=>x.1<=y.1)(s lo hi:Nat)(U:fS es s=(lo:Int))(J:fS es (s+1)=(hi:Int)):(es.drop lo).take (hi - lo)=QS es s/\hi<=es.length/\lo<=hi:=by
 have E:=QkW es s;have V:=(Vj (λe:Ed=>decide (e.1<((s+1:Nat):Int))) es).2;have I:hi<=es.length:=by unfold fS at J;omega
 refine⟨?_,I,oa⟩;exact zC (λe:Ed=>decide (e.1=(s:Int))) es lo hi oa I
  (λm E Y=>by have:=(Qek G s m E).1 oa;simp;omega)
  (λm E S h4=>by
   have h5:¬(es[m]'E).1<(s:Int):=λh=>oo ((Qek G s m E).2 h)
   have T:=(Qek G (s+1) m E).1 oa;simp;omega)
  (λm E S=>by
   have T:¬(es[m]'E).1<((s+1:Nat):Int):=λh=>oo ((Qek G (s+1) m E).2 h)
   simp;omega)
theorem yV:∀(l:List Ed) (k:Nat),(l.flatMap Qp).drop (k*3)=(l.drop k).flatMap Qp
 | [],k=>od
 | e::l,0=>od
 | e::l,k+1=>by
  simp only[oW,List.drop_succ_cons,Ok,OI];rw[MT,<-List.drop_drop,show(Qp e++l.flatMap Qp).drop 3=l.flatMap Qp from rfl,yV l k]
theorem yU:∀(l:List Ed) (k:Nat),(l.flatMap Qp).take (k*3)=(l.take k).flatMap Qp
 | [],k=>od
 | e::l,0=>od
 | e::l,k+1=>by
  simp only[oW,List.take_succ_cons,Ok,OI];rw[MT,Nv,show(Qp e).length=3 from rfl,show 3+k*3 - 3=k*3 by omega,yU l k,Lq (by rw[show(Qp e).length=3 from rfl];omega)]
theorem Qim {vf:OY}{st:Int}:
  QT sV 255 [.agg #[va,sS st,vm,ve,vf],sS s] w λr w'=>sW w w'/\∃b1 E,r=.func (.func 285) #[] #[sP b1,sP E] /\
   ↑w<=b1/\↑w<=E/\QK ↑w' b1 304 [va,sS st,vm,ve,vf]/\QK ↑w' E 3 [sS s]:=by
 refine Zn func255 ?_;refine Qc<|Zd [va,sS st,vm,ve,vf] λE V G J S=>Zd [sS s] λT Y I ha U=>Qb<|Qc<|x Zl<|Qb ?_;have hc:=G.size;exact Qj ⟨[_],La,G.D I,E,T,O,J,oa,S.I I,U⟩
theorem QcY {U V bF s:Nat}(h3:QK ↑w U 304 [va,sS a.st,vm,ve,sL bF (n+1) (n+1)])(h4:QK ↑w V 3 [sS s])
  (h5:QK ↑w bF 3 ((gA (n+1) (fS a.ed)).map (Value.int .i64))) (hE:Ua L ↑w ve a.ed) (h6:a.ed.Pairwise λx y=>x.1<=y.1) (hs:s<n) (hn:n<=4096):
  SeqStopsK (fen none) m sV 285 #[sP U,sP V] (λx:{ e:Ed // e∈a.ed }=>#[sT (Qp x.1)]) (Lw ↑w L)
   (λys=>ys.map (·.1)=QS a.ed s) (λ_=>True) (a.ed.length+1) w:=by
 intro l J Jx W h7 hJ h8 hY h0;have hf:sW w W:=O1.of_below h7;have ab:∀{ys:List { e:Ed // e∈a.ed }} {W1 W2:OX},J ys W1->sW W1 W2->J ys W2:=λ{ys W1 W2} hj Y=>hJ ys W1 W2 none hj ⟨Y.os,Y.tape,Y.output,Y.size,λk hk _=>Y.block k hk od⟩ (λr e=>by cases e);have hN:=Vj (λe:Ed=>decide (e.1<(s:Int))) a.ed;have hO:=Vj (λe:Ed=>decide (e.1<((s+1:Nat):Int))) a.ed;obtain⟨lo,hp⟩:∃lo:Nat,fS a.ed s=(lo:Int):=⟨(fS a.ed s).toNat,by unfold fS;omega⟩;obtain⟨hi,hq⟩:∃hi:Nat,fS a.ed (s+1)=(hi:Int):=⟨(fS a.ed (s+1)).toNat,by unfold fS;omega⟩;obtain⟨hr,h9,hA⟩:=QjJ h6 s lo hi hp hq;have hP:=hE.le;have hB:(QS a.ed s).length=hi - lo:=by rw[<-hr,LA,Mf];omega
 have hC:∀e∈QS a.ed s,e∈a.ed:=λe G=>(ZC G).1;have key:QT sV 285 [.func (.yield l) #[] #[],sP U,sP V] W (λ_ W'=>(∃ys,ys.map (·.1)=QS a.ed s/\J ys W')\/(∃pre,True/\Jx pre W')):=by
  refine QT.of_G m func285 O ntmps285 results285 od ?_;have hl:=h3.I hf;have ht:=h4.I hf;have hu:=h5.I hf;refine QQ<|Vu (sW W) [oz 0,oz 1,oz 2,oz 3,oz 4,oz 5,oz 6,oz 7,oz 8,oz 9,oz 10,oz 11,oz 12,oz 13,oz 14,oz 15,oz 16] mixed oh oh oc (O1.C _ _) ?_;refine p (QH O)<|p (QH O)<|pq (λ_ E=>Qk (hl.I E) O O)<|p (QH O)<|pq (λ_ E=>Qk (hl.I E) O O)<|pq (λ_ E=>Qk (ht.I E) O O) <|
   p (λ_=>QD (i:=s) O O oa)<|pq (λ_ E=>VF (i:=s) (hu.I E) O oa)<|p (QH O)<|pq (λ_ E=>Qk (hl.I E) O O) <|
   pq (λ_ E=>Qk (ht.I E) O O)<|p (λ_=>YE O O ⟨oa,oa⟩)<|p (λ_=>QD (i:=s+1) O O oa)<|pq (λ_ E=>VF (i:=s+1) (hu.I E) O oa) <|
   QpQ (lo:=lo) (hi:=hi) O hE O (OR sS hp) (OR sS hq) hA h9 λhD hv=>p (λ_=>YH hv O)<|p Qy<|pe ?_
  have hS:Ua L ↑w hD (QS a.ed s):=by
   unfold Ua;rw[hB,<-hr,<-yU,<-yV];exact hv
  have hw:sW W { W with drawn:=W.drawn+1 }:=O1.C _ _
  refine ZL<|Kf (α:=Nat×List { e:Ed // e∈a.ed }) [(5,5),(22,30)] (λz=>[(22,sS z.1)]) (λz ds W'=>ds=[]/\z.1<=(QS a.ed s).length/\O1 L w W'/\z.2.map (·.1)=(QS a.ed s).take z.1/\J z.2 W') (λz=>(QS a.ed s).length - z.1) oh (0,[]) La
   ⟨O,Ln _,(hf.D hw).any,O,ab h0 hw⟩ ?_
  rintro⟨k,ys⟩ g ds w1 ⟨rfl,hk,hy,ha,hm⟩;simp only[]at hk ha hm;refine QQ<|Qx oh oh<|ZX O O<|xe<|QQ<|V9 O (λho=>?_) (λho=>?_)
  ·refine Jl ?_;have hF:(QS a.ed s).length<=k:=by
    have hg:¬(k:Int)<((hi - lo:Nat):Int):=ho;omega
   rw[Lq hF]at ha;exact⟨λ_ h=>(by cases h),Ml,[],λW' I=>⟨Z,.inl ⟨ys,ha,ab hm I⟩⟩⟩
  refine Z4 ?_;have S:k<(QS a.ed s).length:=by
   have hg:(k:Int)<((hi - lo:Nat):Int):=ho;omega
  have hQ:=Z8 a.ed s;have hz:(QS a.ed s).take (k+1)=(QS a.ed s).take k++[(QS a.ed s)[k]'S]:=Lh S;have hh:=hC _ (Lk S);have hR:ys.length=k:=by have:=OR oY ha;rw[Lj,LA]at this;omega
  refine Zf ((QS a.ed s)[k]'S) λe G=>?_;rw[G]at hz hh;refine QQ<|ZL<|QQ<|Qx oh oh<|xie (i:=k) (hS.st hy) O O S λhT hg=>?_;rw[G]at hg;refine x (QE hg O O)<|QP [sS 0,sS 0,sS 0] λb5 w2 hG hH hI=>Q0 (Qp e) hI ox λw3 hK hL=>xe ?_;have h2:sW w1 w3:=hG.O hK hH;refine QQ<|JZ oh ?_;refine X5.pre2 ?_;refine Qa<|QY hL O O<|xe<|xy (l:=l) O (hY ys ⟨e,hh⟩ w3 (ab hm h2) oa) λen W3 hM=>Or.elim hM (λT=>⟨.bool true,T.1,?_⟩) (λT=>⟨.bool false,T.1,?_⟩)
  ·refine X5.of_XL<|x (Zh O)<|xe<|JF O<|Z4 ?_;refine Qx oh oh<|QC O O<|Qa<|xe ?_;exact⟨(k+1,ys++[⟨e,hh⟩]),oe,La,O,S,(hy.D h2).lw T.2.2,by rw[hz,Lv,ha];rfl,T.2.1⟩
  refine X5.of_XL<|x (Zh O)<|xe<|z0 O ?_;refine JE ⟨λ_ h=>(by cases h),Ml,[],λW' I=>⟨Z,.inr ⟨ys++[⟨e,hh⟩],Z,?_⟩⟩⟩;exact h8 _ W3 W' none T.2 ⟨I.os,I.tape,I.output,I.size,λk hk _=>I.block k hk od⟩ (λr e=>by cases e)
 refine(callsIn_wide (n:=m)).2 ?_;have ea:(#[.func (.yield l) #[] #[]]++[sP U,sP V].toArray:Array OY)=#[.func (.yield l) #[] #[],sP U,sP V]:=od
 rw[ea];unfold QT at key;refine Calls.mono key λe w' G=>?_;cases e with
 | returned v=>exact⟨⟨v,O⟩,G⟩
 | panicked c=>exact G.elim
 | outgrown=>exact G.elim
def stS (st:List Ed):LI:=st.map (·.1)
def gE (st:List Ed)(k:Nat):Ed:=st.getD k (0,-1,0)
theorem QhX {st:List Ed}{k:Nat}(h:k<st.length):st[k]'h=gE st k:=by simp[gE,oO,h]
theorem Qm6 {st:List Ed}{k:Nat}(h:k<st.length):gE st k∈st:=by rw[<-QhX h];exact Lk h
def Ke (pm:Ed->Bool)(i:Nat)(st:List Ed)(e:Ed):List Ed:=if e.2.2∉stS st/\pm e=true then st++[(e.2.2,(i:Int),e.2.1)]else st
def wrd (st:List Ed):Nat->Nat->LI
 | 0,_=>[]
 | f+1,k=>if 0<=(gE st k).2.1 then(gE st k).2.2::wrd st f (gE st k).2.1.toNat else[]
def jE (wt:Int->Bool)(pm:Ed->Bool)(es:List Ed):Nat->Nat->List Ed->LI×Bool
 | 0,_,_=>([],false)
 | f+1,i,st=>if i<st.length then(if wt (gE st i).1=true then((wrd st (i+1) i).reverse,true)else jE wt pm es f (i+1) ((QS es (gE st i).1).foldl (Ke pm i) st))else([],false)
def pth (wt:Int->Bool)(pm:Ed->Bool)(es:List Ed)(n from0:Nat):LI×Bool:=jE wt pm es (n+1) 0 [((from0:Int),-1,-1)]
structure Qdl (n:Nat)(st:List Ed):Prop where
 nd:(stS st).Nodup
 rg:∀x∈st,0<=x.1/\x.1<(n:Int)
 par:∀k,k<st.length->(gE st k).2.1=-1\/(0<=(gE st k).2.1/\(gE st k).2.1<(k:Int))
theorem Qdl.le {st:List Ed}(h:Qdl n st):st.length<=n:=by
 have:=xD n (stS st) h.nd (λx hx=>by
  unfold stS at hx;obtain⟨y,E,rfl⟩:=Lz.1 hx;exact h.rg y E)
 simpa[stS]using this
theorem QkO {st:List Ed}{x:Ed}{k:Nat}(h:k<st.length):gE (st++[x]) k=gE st k:=by
 unfold gE;simp[oO,Of h]
theorem QkP (st:List Ed)(x:Ed):gE (st++[x]) st.length=x:=by
 unfold gE;simp[oO]
theorem Qlt {pm:Ed->Bool}{st:List Ed}{e:Ed}(h:Qdl n st)(hi:i<st.length)(I:0<=e.2.2/\e.2.2<(n:Int)):Qdl n (Ke pm i st e)/\i<(Ke pm i st e).length:=by
 unfold Ke;split
 ·rename_i E;refine⟨⟨?_,λx hx=>?_,λk J=>?_⟩,by simp;omega⟩
  ·unfold stS at E ⊢;rw[Lv];exact J6 h.nd E.1
  ·simp only[oV,oF]at hx;rcases hx with hx|rfl
   ·exact h.rg x hx
   exact I
  by_cases G:k<st.length
  ·rw[QkO G];exact h.par k G
  have:k=st.length:=by simp at J;omega
  subst this;rw[QkP];simp only[];omega
 exact⟨h,hi⟩
theorem Qmo {from0:Nat}(h:from0<n):Qdl n [((from0:Int),-1,-1)]:=by
 refine⟨by simp[stS],λx hx=>?_,λk E=>?_⟩
 ·simp at hx;subst hx;simp only[];omega
 simp at E;subst E;exact .inl O
theorem Qe3 {wt:Int->Bool}{pm:Ed->Bool}{f:Nat}{st:List Ed}(h:¬i<st.length):jE wt pm es f i st=([],false):=by
 cases f with
 | zero=>rfl
 | succ f=>rw[jE,OP h]
abbrev Lf:=List Bool
def lft (l:Lf)(s:Int):Bool:=l.getD s.toNat false
def cut (l:Lf)(s:Int):Lf:=l.set s.toNat false
def KA (ul:LI)(lf:Lf)(out:xq)(e:Ed):xq:=
 if lft lf e.1=false\/lft lf e.2.2=true\/e.2.1∉ul then out else if out.getLast?.map (·.1)=some e.1 then out else out++[(e.1,e.2.1)]
def lost (a:QF)(ul:LI)(lf:Lf):xq:=a.ed.foldl (KA ul lf) []
def dsE (lf:Lf)(x:Int)(z:LI×LI)(y:Int):LI×LI:=if lft lf y=true/\O2 z.1 y.toNat<0 then(z.1.set y.toNat (O2 z.1 x.toNat+1),z.2++[y])else z
def dsL (es:List Ed)(lf:Lf):Nat->Nat->LI×LI->LI×LI
 | 0,_,z=>z
 | f+1,i,z=>if i<z.2.length then dsL es lf f (i+1) ((YR es (O2 z.2 i).toNat).foldl (dsE lf (O2 z.2 i)) z)else z
def ds1 (lf:Lf)(z:LI×LI)(x:Int):LI×LI:=if lft lf x=true then(z.1.set x.toNat 0,z.2++[x])else z
def ds0 (a:QF)(lf:Lf):LI×LI:=a.mr.foldl (ds1 lf) (oG a.st.toNat (-1),[])
def dsts (a:QF)(lf:Lf):LI:=(dsL a.ed lf a.st.toNat 0 (ds0 a lf)).1
def KZ (lf:Lf):Nat->LI->LI
 | _,[]=>[]
 | i,d::l=>if lf.getD i false=true/\d<0 then(i:Int)::KZ lf (i+1) l else KZ lf (i+1) l
def nxs (a:QF)(ul:LI)(lf:Lf):LI:=if(lost a ul lf).length≠0 then(lost a ul lf).map (·.1)else KZ lf 0 (dsts a lf)
def qO (a:QF)(ul:LI):Nat->Lf->Lf
 | 0,lf=>lf
 | f+1,lf=>if(nxs a ul lf).length=0 then lf else qO a ul f ((nxs a ul lf).foldl cut lf)
def lf0 (n:Nat)(fb:LI):Lf:=fb.foldl cut (oG n true)
def Qct (a:QF)(fb ul:LI):Lf:=qO a ul (a.st.toNat+1) (lf0 a.st.toNat fb)
def rstr (a:QF)(lf:Lf):QF:=⟨a.al,a.st,a.mr,a.ed.filter λe=>lft lf e.2.2⟩
def Qcl (a:QF)(lf:Lf):QF:=if a.st=0\/lft lf 0=false then⟨a.al,0,[],[]⟩else X0 (rstr a lf)
def jo (a:QF)(fb ul:LI):QF:=Qcl a (Qct a fb ul)
def fbs (s:Spc):LI:=s.fb.map (·.st)
def z9 (c:Yl):Int:=Y2 c
def U0 (c:Yl):QF:=jo (spc c).a (fbs (spc c)) (unc c.ev)
def orB (b:Nat)(k:Nat):Nat:=b ||| (1 <<< k)
def rqB (x:Kp):Nat->Nat->List Kp->Nat
 | _,b,[]=>b
 | k,b,y::l=>rqB x (k+1) (if(y.a.al.any λe=>decide (e∈x.a.al))=true then orB b k else b) l
def prB (ls:xq):Nat:=ls.foldl (λb l=>orB b l.1.toNat) 0
def srR (c:Yl):LN:=c.rq.map λx=>rqB x 0 0 c.co
def srX (c:Yl):LN:=c.ex.map λx=>prB x.ls
def srC (c:Yl):LN:=c.cs.map λx=>prB x.ts
structure Mdl where
 kd:Int
 ix:Int
 co:LI
def Qkj (k:Int):Nat->LN->List Mdl
 | _,[]=>[]
 | i,b::l=>⟨k,i,setK b 8⟩::Qkj k (i+1) l
def O5 (c:Yl):List Mdl:=Qkj 1 0 (srR c)++(Qkj 2 0 (srX c)++Qkj 3 0 (srC c))
def sets (c:Yl):LN:=srR c++(srX c++srC c)
def QpK (c:Yl):Nat:=(sets c).foldl (λl b=>l &&& (65535 ^^^ b)) (2 ^ c.co.length - 1)
def rem (c:Yl):LI:=setK (QpK c) 8
structure Prt where
 co:LI
 rq:LI
 ex:LI
 cs:LI
def chs (l:List Kp)(ix:LI):List Kp:=ix.map λi=>l.getD i.toNat ⟨.empty,⟨[],0,[],[]⟩⟩
def ixP (co:LI)(ls:xq):xq:=ls.map λl=>((co.idxOf l.1:Int),l.2)
def QpG (c:Yl)(p:Prt):List Exc:=p.ex.map λi=>⟨(c.ex.getD i.toNat ⟨.empty,[]⟩).nm,ixP p.co (c.ex.getD i.toNat ⟨.empty,[]⟩).ls⟩
def QpH (c:Yl)(p:Prt):List xG:=p.cs.map λi=>⟨(c.cs.getD i.toNat ⟨.empty,[],0⟩).nm,ixP p.co (c.cs.getD i.toNat ⟨.empty,[],0⟩).ts,(c.cs.getD i.toNat ⟨.empty,[],0⟩).bd⟩
def QpI (c:Yl)(p:Prt):Yl:=⟨c.ev,chs c.co p.co,chs c.rq p.rq,QpG c p,QpH c p⟩
def prt (m:Mdl):Prt:=⟨m.co,if m.kd=1 then[m.ix]else[],if m.kd=2 then[m.ix]else[],if m.kd≠1/\m.kd≠2 then[m.ix]else[]⟩
def mcC (c:Yl)(m:Mdl):Yl:=QpI c (prt m)
def msA (c:Yl)(m:Mdl):QF:=U0 (mcC c m)
def QpD (c:Yl):List QF:=(O5 c).map (msA c)++(rem c).map λi=>(c.co.getD i.toNat ⟨.empty,⟨[],0,[],[]⟩⟩).a
def Vd (l:List QF):Int:=if K5 l≠0 then K5 l else match xd l with|none=>3|some _=>0
def tgA (c:Yl):QF:=Kq (QpD c)
theorem Qnf (lf:Lf)(x:Int)(z:LI×LI)(y:Int):dsE lf x z y=if lft lf y=true then bwE x z y else z:=by
 unfold dsE bwE;by_cases h:lft lf y=true <;> by_cases E:O2 z.1 y.toNat<0 <;> simp[h,E]
structure DsI (n:Nat)(z:LI×LI):Prop where
 ok:Qje n z.1 z.2
 cnt:neg z.1+z.2.length=n
 s0:QnJ z.1 z.2
theorem DsI.le {z:LI×LI}(h:DsI n z):z.2.length<=n:=by have:=h.cnt;omega
theorem Qiq {lf:Lf}{x y:Int}{z:LI×LI}(h:DsI n z)(hx:0<=x/\x<(n:Int))(E:0<=O2 z.1 x.toNat)(G:0<=y/\y<(n:Int)):
  DsI n (dsE lf x z y)/\0<=O2 (dsE lf x z y).1 x.toNat:=by
 rw[Qnf];split
 ·obtain⟨I,S,J⟩:=Qnz h.ok hx E G;exact⟨⟨I,oo h.cnt,QiQ h.ok E G h.s0⟩,J⟩
 exact⟨h,E⟩
theorem Qk3 (lf:Lf)(x:Int)(z:LI×LI)(y:Int):∃r,(dsE lf x z y).2=z.2++r:=by
 unfold dsE;split
 ·exact⟨[y],O⟩
 exact⟨[],od⟩
theorem Qk2 {n:Nat}{lf:Lf}{x:Int}(hx:0<=x/\x<(n:Int)):∀(l:LI) (z:LI×LI),DsI n z->0<=O2 z.1 x.toNat->(∀y∈l,0<=y/\y<(n:Int)) ->
  DsI n (l.foldl (dsE lf x) z)/\∃r,(l.foldl (dsE lf x) z).2=z.2++r
 | [],z,h,_,_=>⟨h,[],od⟩
 | y::l,z,h,G,E=>by
  obtain⟨I,J⟩:=Qiq (lf:=lf) h hx G (E y Lo);obtain⟨S,r2,T⟩:=Qk2 hx l _ I J (λy U=>E y (Lm _ U));obtain⟨V,Y⟩:=Qk3 lf x z y;exact⟨S,V++r2,by rw[LO,T,Y,LE]⟩
theorem Qip {lf:Lf}{f:Nat}{z:LI×LI}(h:¬i<z.2.length):dsL es lf f i z=z:=by
 cases f with
 | zero=>rfl
 | succ f=>rw[dsL,OP h]
theorem QeB {x:Int}(E:0<=x):(U7 n l).set x.toNat 0=U7 n (l++[x]):=by
 apply LZ
 ·simp[U7]
 intro i G I;rw[Nj];by_cases e:x.toNat=i
 ·have:(i:Int)=x:=oa
  rw[OQ e];simp[U7,this]
 have:(i:Int)≠x:=oa
 rw[OP e];simp[U7,this]
theorem QbB {lf:Lf}(I:∀x∈a.mr,0<=x)(k:Nat):(a.mr.take k).foldl (ds1 lf) (oG a.st.toNat (-1),[])=(U7 a.st.toNat ((a.mr.take k).filter (lft lf)),(a.mr.take k).filter (lft lf)):=by
 induction k with
 | zero =>
  simp only[List.take_zero,List.foldl_nil,List.filter_nil];congr 1;apply LZ
  ·simp[U7]
  intro i J S;simp[U7]
 | succ k ih =>
  by_cases G:k<a.mr.length
  ·rw[Lh G,Mg,ih,LR];simp only[List.foldl_cons,List.foldl_nil,ds1];by_cases E:lft lf (a.mr[k]'G)=true
   ·rw[OQ E,QeB (I _ (Lk G))];simp[E]
   rw[OP E];simp[E]
  have e:a.mr.take (k+1)=a.mr.take k:=by rw[Lq oa,Lq oa]
  rw[e];exact ih
theorem Qnh {lf:Lf}(E:∀x∈a.mr,0<=x):ds0 a lf=(U7 a.st.toNat (a.mr.filter (lft lf)),a.mr.filter (lft lf)):=by
 have:=QbB (lf:=lf) E a.mr.length;rw[OH]at this;exact this
theorem Qkg (l:LI)(G:l.Nodup)(hb:∀x∈l,0<=x/\x<(n:Int)):neg (U7 n l)+l.length=n:=by
 have key:∀k,k<=l.length->neg (U7 n (l.take k))+k=n:=by
  intro k;induction k with
  | zero =>
   intro _;have e:U7 n (l.take 0)=oG n (-1):=by
    apply LZ
    ·simp[U7]
    intro i I V;simp[U7]
   rw[e];unfold neg;simp
  | succ k ih =>
   intro Y;have I:=ih oa;have hx:=hb _ (Lk (show k<l.length by omega));rw[Lh (show k<l.length by omega),<-QeB hx.1];have J:(l[k]'oa).toNat<(U7 n (l.take k)).length:=by rw[V5];omega
   have ha:=VM (U7 n (l.take k)) (l[k]'oa).toNat 0 J (by
    have e:(((l[k]'oa).toNat:Nat):Int)=l[k]'oa:=oa
    have S:(l[k]'oa)∉l.take k:=λh=>by
     obtain⟨j,T,E⟩:=LM h;rw[MZ]at E;have U:j<k:=by simp at T;omega
     have:=(Md.1 G) j k oa oa U;exact this E
    simp[U7,e,S]) (Mt _)
   omega
 have:=key l.length (Lp _)
 rwa [OH]at this
theorem Qng {lf:Lf}(E:Zb a)(G:a.st=(n:Int)):DsI n (ds0 a lf):=by
 have hb:∀x∈a.mr.filter (lft lf),0<=x/\x<(n:Int):=λx hx=>by rw[<-G];exact E.mr x (LS.1 hx).1
 have e:a.st.toNat=n:=oa
 rw[Qnh (λx hx=>(E.mr x hx).1),e];refine⟨QnA hb,Qkg _ ((E.mri.imp (λh=>oa)).filter _) hb,λx hx=>?_⟩;rw[Qlk (hb x hx) hx];exact Mt _
def Vi (l:Lf):Nat:=l.countP (· == true)
theorem Qk8 (l:Lf):Vi l<=l.length:=List.countP_le_length
theorem Qet (l:Lf)(s:Int):(cut l s).length=l.length:=by simp[cut]
theorem zB:∀(xs:LI) (l:Lf),(xs.foldl cut l).length=l.length
 | [],_=>rfl
 | x::xs,l=>by rw[LO,zB xs,Qet]
theorem Qeu:∀(l:Lf) (i:Nat),Vi (l.set i false)+(if l.getD i false=true then 1 else 0)=Vi l
 | [],i=>by simp[Vi]
 | b::l,0=>by cases b <;> simp[Vi]
 | b::l,i+1=>by
  have ih:=Qeu l i;unfold Vi at *;simp only[List.set_cons_succ,List.countP_cons,List.getD_cons_succ];omega
theorem Qev (l:Lf)(s:Int):Vi (cut l s)+(if lft l s=true then 1 else 0)=Vi l:=Qeu l s.toNat
theorem QbD:∀(xs:LI) (l:Lf),Vi (xs.foldl cut l)<=Vi l
 | [],_=>Lp _
 | x::xs,l=>by
  have E:=QbD xs (cut l x);have G:=Qev l x;rw[LO];omega
theorem QiB {xs:LI}{l:Lf}(h:0<xs.length)(E:∀x∈xs,lft l x=true):Vi (xs.foldl cut l)<Vi l:=by
 cases xs with
 | nil=>simp at h
 | cons x xs =>
  have I:=QbD xs (cut l x);have G:=Qev l x;rw[OQ (E x Lo)]at G;rw[LO];omega
def Qi8 (a:QF)(lf:Lf)(out:xq):Prop:=∀p∈out,lft lf p.1=true/\∃e∈a.ed,e.1=p.1/\e.2.1=p.2
theorem Qkn {lf:Lf}{out:xq}{e:Ed}(h:Qi8 a lf out)(G:e∈a.ed):Qi8 a lf (KA ul lf out e)/\(KA ul lf out e).length<=out.length+1:=by
 unfold KA;split
 ·exact⟨h,oa⟩
 rename_i I;split
 ·exact⟨h,oa⟩
 refine⟨λp E=>?_,od⟩;simp only[oV,oF]at E;rcases E with E|rfl
 ·exact h p E
 exact⟨by cases J:lft lf e.1 with|true=>rfl|false=>exact OS (.inl J) I,e,G,rfl,rfl⟩
theorem q9 {a:QF}{ul:LI}{lf:Lf}:∀(l:List Ed) (out:xq),(∀e∈l,e∈a.ed)->Qi8 a lf out->Qi8 a lf (l.foldl (KA ul lf) out)/\(l.foldl (KA ul lf) out).length<=out.length+l.length
 | [],out,_,h=>⟨h,od⟩
 | e::l,out,E,h=>by
  obtain⟨G,S⟩:=Qkn (ul:=ul) h (E e Lo);obtain⟨I,T⟩:=q9 l _ (λe J=>E e (Lm _ J)) G;exact⟨I,by rw[LO,LL];omega⟩
theorem jQ (a:QF)(ul:LI)(lf:Lf):Qi8 a lf (lost a ul lf)/\(lost a ul lf).length<=a.ed.length:=by
 have:=q9 (ul:=ul) (lf:=lf) a.ed [] (λ_ h=>h) (λp E=>by cases E);unfold lost;simpa using this
theorem V6 (lf:Lf):∀(l:LI) (i:Nat),(∀x∈KZ lf i l,lft lf x=true/\(i:Int)<=x/\x<(i:Int)+l.length)/\(KZ lf i l).length<=l.length
 | [],i=>⟨λx hx=>(by cases hx),Lp _⟩
 | d::l,i=>by
  obtain⟨E,I⟩:=V6 lf l (i+1);unfold KZ;split
  ·rename_i G;refine⟨λx hx=>?_,by simp;omega⟩;rcases Ll.1 hx with rfl|hx
   ·exact⟨by unfold lft;simpa using G.1,Mt _,by simp;omega⟩
   have:=E x hx;exact⟨this.1,oa,by simp only[oQ];omega⟩
  refine⟨λx hx=>?_,by simp;omega⟩;have:=E x hx;exact⟨this.1,oa,by simp only[oQ];omega⟩
theorem Qhh {lf:Lf}(x:Int)(hx:x∈nxs a ul lf):lft lf x=true:=by
 unfold nxs at hx;split at hx
 ·obtain⟨p,E,rfl⟩:=Lz.1 hx;exact((jQ a ul lf).1 p E).1
 exact((V6 lf (dsts a lf) 0).1 x hx).1
theorem QeZ {f:Nat}{lf:Lf}(h:(nxs a ul lf).length=0):qO a ul f lf=lf:=by
 cases f with
 | zero=>rfl
 | succ f=>rw[qO,OQ h]
theorem QeY {f:Nat}{lf:Lf}(h:(nxs a ul lf).length≠0):qO a ul (f+1) lf=qO a ul f ((nxs a ul lf).foldl cut lf):=by rw[qO,OP h]
theorem Qhi {lf:Lf}(h:(nxs a ul lf).length≠0):Vi ((nxs a ul lf).foldl cut lf)<Vi lf:=QiB oa (λx hx=>Qhh x hx)
theorem yA (h:Zb a)(lf:Lf):Zb (rstr a lf):=
 ⟨h.al,h.ali,h.st0,h.st1,h.mr,h.mri,λe E=>h.ed e (LS.1 E).1,h.edi.filter _⟩
structure PI (w0:OX)(b4 b7 b10 b11 bS n:Nat)(gc:LV)(pf:OY)(bi i:Nat)(vs:OY)(st:List Ed)(W:OX):Prop where
 stp:sW w0 W
 B4:QK ↑W b4 304 gc
 B7:QK ↑W b7 275 [pf]
 B10:QK ↑W b10 356 [vs]
 B11:QK ↑W b11 301 [sL bS n n]
 BS:QK ↑W bS 4 ((flg n (stS st)).map Value.bool)
 BI:QK ↑W bi 3 [sS i]
 R:Z6 355 ↑w0 W vs st
 ne:∀b∈ob vs,b≠b4/\b≠b7/\b≠b10/\b≠b11/\b≠bS/\b≠bi
theorem PI.I {G:OX}{I J b10 b11 bS n:Nat}{gc:LV}{pf:OY}{bi i:Nat}{vs:OY}{st:List Ed}{W W':OX}(h:PI G I J b10 b11 bS n gc pf bi i vs st W)(E:sW W W'):PI G I J b10 b11 bS n gc pf bi i vs st W' :=
 ⟨h.stp.D E,h.B4.I E,h.B7.I E,h.B10.I E,h.B11.I E,h.BS.I E,h.BI.I E,Qm h.R E,h.ne⟩
theorem PI.stb {G:OX}{I J b10 b11 bS:Nat}{gc:LV}{pf:OY}{bi:Nat}{st:List Ed}(S:↑G<=B):Z7 B (λW=>PI G I J b10 b11 bS n gc pf bi i vs st W):=λW W' X h E hX =>
 ⟨Z7.J S W W' X h.stp E hX,Z7.blk W W' X h.B4 E hX,Z7.blk W W' X h.B7 E hX,Z7.blk W W' X h.B10 E hX,Z7.blk W W' X h.B11 E hX,Z7.blk W W' X h.BS E hX,Z7.blk W W' X h.BI E hX,Z7.row W W' X h.R E hX,h.ne⟩
def Kh (lo hi:Nat)(ds:LN)(W:OX):Prop:=ds.Nodup/\∀D∈ds,lo<=D/\D<hi/\W.heap[D]?=some (.deferred (some []))
theorem Kh.J {W:OX}(h:Kh lo hi ds W)(I:O1 X W W')(hX:∀b∈X,∃o:Obj,W.heap[b]?=some o/\o.isCells=true):Kh lo hi ds W':=by
 refine⟨h.1,λD hD=>⟨(h.2 D hD).1,(h.2 D hD).2.1,?_⟩⟩;have E:=(h.2 D hD).2.2;refine(I.block D (LJ.1 E).1 (λhx=>?_)).D E;obtain⟨o,G,J⟩:=hX D hx;rw[E]at G;cases G;cases J
theorem Kh.I {W:OX}(h:Kh lo hi ds W)(E:sW W W'):Kh lo hi ds W':=h.J E (λ_ hb=>by cases hb)
theorem Kh.blk {W:OX}{b:Nat}(h:Kh lo hi ds W)(E:O1 [b] W W')(hb:QK ↑W b T cs):Kh lo hi ds W' :=
 h.J E (λc G=>by
  have e:c=b:=by simpa using G
  subst e;exact hb.cells)
theorem Kh.up {hi':Nat}{W:OX}(h:Kh lo hi ds W)(E:hi<=hi'):Kh lo hi' ds W:=⟨h.1,λD hD=>⟨(h.2 D hD).1,oo (h.2 D hD).2.1,(h.2 D hD).2.2⟩⟩
theorem Kh.cons {W:OX}{D:Nat}(h:Kh lo hi ds W)(J:lo<=hi)(hD:hi<=D)(hd:W.heap[D]?=some (.deferred (some []))):Kh lo ↑W (D::ds) W:=by
 have G:=(LJ.1 hd).1;refine⟨List.nodup_cons.2 ⟨λI=>oo (h.2 D I).2.1,h.1⟩,λE hE=>?_⟩;rcases Ll.1 hE with rfl|hE
 ·exact⟨oa,G,hd⟩
 have:=h.2 E hE;exact⟨this.1,(LJ.1 this.2.2).1,this.2.2⟩
theorem Kh.stb (I:hi<=B):Z7 B (λW=>Kh lo hi ds W):=λW W' X h G hX=>by
 refine⟨h.1,λD hD=>⟨(h.2 D hD).1,(h.2 D hD).2.1,?_⟩⟩;have E:=(h.2 D hD).2.2;refine(G.block D (LJ.1 E).1 (λhx=>?_)).D E;have:=(hX D hx).1;have:=(h.2 D hD).2.1;omega
theorem Kh.own {W:OX}{e:Nat}{v:OY}(h:Kh lo hi ds W)(G:W.ownsRow base e sz v n cs):∀b∈ob v,b∉ds:=λb hb hd=>by
 obtain⟨o,E,I⟩:=Go.Lg.Q3 G b hb;rw[(h.2 b hd).2.2]at E;cases E;cases I
theorem Kh.rst {W:OX}(h:Kh lo hi ds W)(E:Xy B L W W'):Kh lo hi ds W':=⟨h.1,λD hD=>⟨(h.2 D hD).1,(h.2 D hD).2.1,E.other D _ (h.2 D hD).2.2 O⟩⟩
theorem PI.add {J:OX}{S U b10 b11 bS:Nat}{gc:LV}{pf:OY}{bi:Nat}{v:OY}{st:List Ed}{x:Ed}{W W1 W2 W3 W4:OX}{L0:LN}(h:PI J S U b10 b11 bS n gc pf bi i v st W)
  (hd:bS≠S/\bS≠U/\bS≠b10/\bS≠b11/\bS≠bi/\b10≠S/\b10≠U/\b10≠b11/\b10≠bi) (hB:B<=↑W) (ha:↑J<=bS) (he:↑J<=b10) (hk:S<↑W/\U<↑W/\b11<W.heap.size/\bi<↑W)
  (V:O1 [bS] W W1) (hS:QK ↑W1 bS 4 ((flg n (stS (st++[x]))).map Value.bool)) (I:sW W1 W2) (Y:O1 (ob v) W2 W3) (hR:Z6 355 ↑J W3 v' (st++[x])) (hn:∀b∈ob v',b∈ob v\/↑W2<=b)
  (h4:O1 [b10] W3 W4) (hf:QK ↑W4 b10 356 [v']) (hv:∀b∈ob v,b∈L0\/B<=b):
  PI J S U b10 b11 bS n gc pf bi i v' (st++[x]) W4/\Xy B (bS::b10::L0) W W4/\(∀b∈ob v',b∈L0\/B<=b):=by
 have hl:=V.size;have ho:=I.size;have hp:=Y.size;have hq:=h.BS.lt;have hr:=h.B10.lt;have key:∀b T cs,QK ↑W b T cs->b≠bS->b∉ob v->b≠b10->QK ↑W4 b T cs:=λb T cs hb e1 e2 e3=>(((hb.J V (ou e1)).I I).J Y e2).J h4 (ou e3);have G:=h.ne;have nin:∀b,(∀c∈ob v,c≠b)->b∉ob v:=λb hb hm=>hb b hm O;have hg:b10∉ob v:=nin _ λc E=>(G c E).2.2.1;have hh:bS∉ob v:=nin _ λc E=>(G c E).2.2.2.2.1;have hj:W2.ownsRow ↑J 355 3 v st.length (st.flatMap Qp):=Qm (Qg h.R V (λb hb=>by have:=(G b hb).2.2.2.2.1;simpa using this)) I;have hge:∀b∈ob v',b≠S/\b≠U/\b≠b10/\b≠b11/\b≠bS/\b≠bi:=λb hb=>by
  rcases hn b hb with hb|hb
  ·exact G b hb
  omega
 refine⟨⟨?_,key _ _ _ h.B4 hd.1.symm (nin _ λc E=>(G c E).1) hd.2.2.2.2.2.1.symm,key _ _ _ h.B7 hd.2.1.symm (nin _ λc E=>(G c E).2.1) hd.2.2.2.2.2.2.1.symm,hf,
  key _ _ _ h.B11 hd.2.2.2.1.symm (nin _ λc E=>(G c E).2.2.2.1) hd.2.2.2.2.2.2.2.1.symm,((hS.I I).J Y hh).J h4 (by have:=hd.2.2.1;simpa using this),key _ _ _ h.BI hd.2.2.2.2.1.symm (nin _ λc E=>(G c E).2.2.2.2.2) hd.2.2.2.2.2.2.2.2.symm,
  Qg hR h4 (λb hb=>by have:=(hge b hb).2.2.1;simpa using this),hge⟩,?_,λb hb=>?_⟩
 ·exact(((h.stp.O V ha).D I).S Y (λb hb=>.inr (Qi h.R b hb).1)).O h4 he
 ·have r1:Xy B (bS::b10::L0) W W1:=Xy.blk V hB h.BS (.inl od);have r2:Xy B (bS::b10::L0) W1 W2:=Xy.I I oa;have r3:Xy B (bS::b10::L0) W2 W3:=Xy.J Y oa (λb hb=>⟨(hv b hb).imp (λh=>by simp[h]) id,Go.Lg.Q3 hj b hb⟩);have r4:Xy B (bS::b10::L0) W3 W4:=Xy.blk h4 oa ((((h.B10.J V (by have:=hd.2.2.1;simpa using this.symm)).I I).J Y hg)) (.inl od);exact((r1.D r2).D r3).D r4
 rcases hn b hb with hb|hb
 ·exact hv b hb
 exact .inr oa
theorem zq {x:Int}(G:0<=x)(I:x<(n:Int)):((flg n l).map Value.bool)[0+x.toNat*1]?=some (.bool (decide (x∈l))):=by
 have E:x.toNat<(flg n l).length:=by rw[VW];omega
 have e:((x.toNat:Nat):Int)=x:=oa
 simp only[oX,OM,List.getElem?_map,oU E,Ov,j9,e]
theorem QjZ {bF from0 gw:Nat}{fw fp:Func}[Fu sV gw fw][Fu sV gp fp]{cw cp:LV}{wt:Int->Bool}{pm:Ed->Bool}
  (hA:Zr [] ↑w va vm ve a) (hn:a.st=(n:Int)) (kn:n<=4096) (ko:∀e∈a.ed,0<=e.2.2/\e.2.2<(n:Int)) (kp:a.ed.Pairwise λx y=>x.1<=y.1) (kq:QK ↑w bF 3 ((gA (n+1) (fS a.ed)).map (Value.int .i64))) (hf:from0<n)
  (kr:∀(s:Int) (w':OX),0<=s->s<(n:Int)->sW w w'->QT sV gw (sS s::cw) w' λr hQ=>r=.bool (wt s)/\sW w' hQ)
  (kt:∀(e:Ed) (w':OX),e∈a.ed->sW w w'->QT sV gp (sT (Qp e)::cp) w' λr hQ=>r=.bool (pm e)/\sW w' hQ):
  QT sV 199 [.agg #[va,sS a.st,vm,ve,sL bF (n+1) (n+1)],sS from0,.func (.func gw) #[] cw.toArray,.func (.func gp) #[] cp.toArray] w λr w' =>
   sW w w'/\∃v,r=.tuple #[v,.bool (pth wt pm a.ed n from0).2]/\Qh 3 ↑w w' v (pth wt pm a.ed n from0).1:=by
 refine QT.of_G 3 func199 O ntmps199 results199 od ?_;refine QQ<|Qx oh oh<|Zd [va,sS a.st,vm,ve,sL bF (n+1) (n+1)] λb4 w1 ku j3 hR=>Zd [.func (.func gp) #[] cp.toArray] λb7 w2 kv j4 gk=>x Qd<|Qb<|QQ<|Qx oh oh<|Qa<|x (QB ⟨O,O,O,Z⟩)<|Qo<|Q5 [[sS from0,sS (-1),sS (-1)]] λbL w3 gl za gm =>
  QP [nS] λb10 w4 hS z2 gn=>Qo<|Qv (u:=sL bL 1 1) gn O O og O λw5 hB hC=>xe ?_
 have z3:=hR.lt;have z4:=gk.lt;have z5:=gm.lt;have hl10:=gn.lt;have hz5:=hB.size;have hT:sW w1 w5:=((kv.D gl).D hS).O hB oa;have kw:sW w2 w5:=(gl.D hS).O hB oa;have kx:sW w3 w5:=hS.O hB oa;refine QQ<|Qx oh oh<|Q7 O<|Qr O (hR.I hT) O O<|Qo<|YP (n:=n) (OR sS hn) (OR sS hn) oa λbS w6 kz hbS go=>QP [nS] λb11 w7 gq hb11 gr =>
  Qo<|Qv (u:=sL bS n n) gr O O og O λw8 hU gs=>xe ?_
 have hlS:=go.lt;have hl11:=gr.lt;have hz8:=hU.size;have h3:sW w5 w8:=(kz.D gq).O hU oa;have k0:sW w6 w8:=gq.O hU oa;have k4:QK ↑w6 bS 4 ((flg n []).map Value.bool):=by
  have e:(oG n (Value.bool false).cells.toList).flatten=(flg n []).map Value.bool:=by
   simp only[flg,oH,decide_false,List.map_map];apply LZ
   ·simp[Value.cells]
   intro i h1 h2;simp[Value.cells]
  rw[<-e];exact go
 refine QQ<|Qx oh oh<|ZA gs O O<|Qa<|x (QD (i:=from0) O O hf)<|Qo<|Qv (j:=0+from0*1) (u:=.bool true) (k4.I k0) O O (by rw[Lj,VW];omega) O λw9 hl k5=>xe ?_;have hz9:=hl.size;have k6:QK ↑w9 bS 4 ((flg n [(from0:Int)]).map Value.bool):=by
  have e1:=qv (n:=n) (l:=[]) (x:=(from0:Int)) oa;rw[Mx]at e1;rw[<-e1,Nr];simpa using k5
 refine QQ<|QQ<|Qx oh oh<|QP [sS 0] λgt w10 k9 ma gu=>Qo<|Qv (u:=sS 0) gu O O og O λhE gv mc=>xe ?_;have hl12:=gu.lt;have hz11:=gv.size;have ho:sW w9 hE:=k9.O gv ma;have mf:sW w hE:=(((ku.D hT).D h3).O hl oa).D ho;have mg:PI w b4 b7 b10 b11 bS n [va,sS a.st,vm,ve,sL bF (n+1) (n+1)] (.func (.func gp) #[] cp.toArray) gt 0 (sL bL 1 1) [((from0:Int),-1,-1)] hE:=by
  refine⟨mf,(((hR.I hT).I h3).J hl (by simp;omega)).I ho,(((gk.I kw).I h3).J hl (by simp;omega)).I ho,((hC.I h3).J hl (by simp;omega)).I ho,
   (gs.J hl (by simp;omega)).I ho,k6.I ho,mc,?_,λb hb=>?_⟩
  ·have mh:=(((gm.I kx).I h3).J hl (by simp;omega)).I ho;exact mh.own (n:=1) (sz:=3) O oa oa
  have e:b=bL:=by simpa[ob]using hb
  subst e;omega
 refine ZL<|Kf (α:=Nat×Nat×Nat×OY×List Ed) [(8,9),(12,15),(26,68),(70,94)] (λz=>[(12,.pointer (some ⟨z.2.1,0,none⟩))])
  (λz ds W=>PI w b4 b7 b10 b11 bS n [va,sS a.st,vm,ve,sL bF (n+1) (n+1)] (.func (.func gp) #[] cp.toArray) z.2.1 z.1 z.2.2.2.1 z.2.2.2.2 W/\Qdl n z.2.2.2.2/\Kh ↑w ↑W ds W/\hE.heap.size<=↑W /\
   (z.2.1≠b4/\z.2.1≠b7/\z.2.1≠b10/\z.2.1≠b11/\z.2.1≠bS)/\↑w<=z.2.1/\z.1<=z.2.2.2.2.length/\n+1<=z.2.2.1+z.1/\jE wt pm a.ed z.2.2.1 z.1 z.2.2.2.2=pth wt pm a.ed n from0)
  (λz=>n+1 - z.1) oh (0,gt,n+1,sL bL 1 1,[((from0:Int),-1,-1)]) La
  ⟨mg,Qmo hf,⟨Ml,λ_ h=>by cases h⟩,Lp _,oe,oe,od,od,rfl⟩ ?_
 rintro⟨i,bi,fu,vs,st⟩ g ds hF ⟨Y,h4,h5,hz12,mj,mo,mq,ms,S⟩;simp only[]at Y h4 h5 mj mo mq ms S;have hstl:=h4.le;refine QQ<|QQ<|Qx oh oh<|ZA Y.BI O O<|ZA Y.B10 O O<|QG (QN (L:=[]) Y.R oa od) rfl<|ZX rfl rfl<|xe<|V9 rfl (λhV=>?_) (λhV=>?_)
 ·refine Jl ?_;have mt:¬i<st.length:=by have mu:¬(i:Int)<(st.length:Int):=hV;omega
  rw[Qe3 mt]at S;refine QQ<|Qx oh oh<|x Qd<|Qb<|JE ⟨λD hD=>(h5.2 D hD).2.2,h5.1,[nS,.bool false],λw' hG=>⟨ov,Y.stp.S hG (λD hD=>.inr (h5.2 D hD).1),_,by rw[<-S];rfl,?_⟩⟩;rw[<-S];exact QM _ _ _ _
 have hq:i<st.length:=by have mu:(i:Int)<(st.length:Int):=hV;omega
 refine Exists.elim (Nb (show fu≠0 by omega)) λmv hW=>?_;subst hW;rw[jE,OQ hq]at S;have hX:=h4.rg _ (Qm6 hq);have hge:=QhX hq;refine Zf (gE st i) λs0 mw=>?_;rw[mw]at S hX hge;refine Z4<|QQ<|ZL<|QQ<|QQ<|Qx oh oh<|Qa<|ZA Y.B10 O O<|ZA Y.BI O O<|xie (i:=i) (QN (L:=[]) Y.R oa od) rfl rfl hq λa35 gx=>?_;rw[hge]at gx;refine x (ZN O)<|x (Qq (gx.fld 0 (sS s0.1) O) O)<|Qo<|xc (first:=[]) (capt:=cw) O<|(kr s0.1 _ hX.1 hX.2 Y.stp).Y ?_;rintro r13 hj ⟨rfl,hY⟩;have hz13:=hY.size;have hk:=Y.I hY;have gy:=h5.I hY;refine xe<|Kg rfl (λhZ=>?_) (λhZ=>?_)
 ·rw[OQ hZ]at S;have my:Kh ↑w ↑hF ds hj:=gy;refine QQ<|Qx oh oh<|Qb<|QQ<|QQ<|Qx oh oh<|ZA hk.BI O O<|Qb<|ZL<|Kf (α:=Nat×Nat×OY×LI) [(13,14),(40,58)] (λz=>[(13,z.2.2.1),(14,sS z.2.1)])
   (λz gz W=>gz=ds/\sW hj W/\Kh ↑w ↑hF ds W/\z.2.1<z.1/\z.2.1<st.length/\Qh 3 ↑hj W z.2.2.1 z.2.2.2/\z.2.2.2.length+z.1<=i+1/\z.2.2.2++wrd st z.1 z.2.1=wrd st (i+1) i)
   (λz=>z.1) oh (i+1,i,nS,[]) ov ⟨O,O1.Z _ _,my,od,hq,QM _ _ _ _,od,rfl⟩ ?_
  rintro⟨f,k,v,acc⟩ g gz hg ⟨rfl,h6,hH,mz,hw,hr,m0,ht⟩;simp only[]at mz hw hr m0 ht;refine Exists.elim (Nb (show f≠0 by omega)) λf' hW=>?_;subst hW;rw[wrd]at ht;have hI:=QhX hw;have m1:=h4.par k hw;refine Zf (gE st k) λs1 m2=>?_;rw[m2]at ht hI m1;have J:=hk.I h6;have m3:=h6.size;refine QQ<|QQ<|Qx oh oh<|ZA J.B10 O O<|Qa<|xie (i:=k) (QN (L:=[]) J.R oa od) rfl rfl hw λa42 g0=>?_;rw[hI]at g0;refine x (ZN O)<|x (Qq (g0.fld 1 (sS s1.2.1) O) O)<|x (Yd O O)<|xe<|V9 O (λga=>?_) (λga=>?_)
  ·refine Jl ?_;rw[OP ga,LH]at ht;refine QQ<|Qx oh oh<|Qa<|Kr<|(zV hr oa).Y ?_;rintro r15 g2 ⟨g3,V⟩;have hJ:=hH.J V (Go.Lg.Q3 hr);refine xe<|QQ<|Qx oh oh<|Qa<|x Qd<|Qb<|JE ⟨λD hD=>(hJ.2 D hD).2.2,hJ.1,[v,.bool true],λw' hG=>⟨ov,?_,v,by rw[<-S];rfl,?_⟩⟩
   ·exact((J.stp).S V (λb hb=>.inr (oo (Qi hr b hb).1))).S hG (λD hD=>.inr (hJ.2 D hD).1)
   rw[<-S,<-ht];exact Q8 (Qg g3 hG (hJ.own g3)) oa
  rw[OQ ga]at ht;refine Z4<|QQ<|ZL<|Qx oh oh<|Qa<|ZA J.B10 O O<|Qa<|xie (i:=k) (QN (L:=[]) J.R oa od) rfl rfl hw λa54 g4=>?_;rw[hI]at g4;refine x (ZN O)<|x (Qq (g4.fld 2 (sS s1.2.2) O) O)<|Qo<|Q5 [[sS s1.2.2]] λb57 h7 I hb57 m4=>Qo<|Q2 (m:=1) (news:=[sS s1.2.2]) (Qm hr I) O O O (m4.at (L:=[]) od) om oa (oo I.size) λm5 g5 m6 hu hn17 =>
   Qb ?_
  have g6:sW hj g5:=(h6.D I).S hu (λb hb=>.inr (Qi hr b hb).1);have g7:=hk.I g6;have m7:=(hH.I I).J hu (Go.Lg.Q3 (Qm hr I));refine Qx oh oh<|ZA g7.B10 O O<|Qa<|xie (i:=k) (QN (L:=[]) g7.R oa od) rfl rfl hw λa48 g8=>?_;rw[hI]at g8;refine x (ZN O)<|x (Qq (g8.fld 1 (sS s1.2.1) O) O)<|Qb ?_;have m8:s1.2.1=(s1.2.1.toNat:Int):=oa
  refine⟨(f',s1.2.1.toNat,m5,acc++[s1.2.2]),oe,⟨O,OR sS m8,Z⟩,O,g6,m7,oe,oe,Qh.snoc m6,?_,?_⟩
  ·simp only[oM,oL];omega
  rw[LE];exact ht
 rw[OP (by rw[hZ];decide)]at S;have g9:s0.1=(s0.1.toNat:Int):=oa
 refine Z4 ?_;have m9:sW hj { hj with drawn:=hj.drawn+1 }:=O1.C _ _
 refine QQ<|Vu (sW hj) [oz 0,oz 1,oz 2,oz 3,oz 4,oz 5,oA 6] mixed oh oh oc (O1.C _ _) ?_;refine pq (λ_ hc=>Zj (hk.B4.I hc) O O)<|pq (λ_ hc=>Qk (hk.B10.I hc) O O)<|pq (λ_ hc=>Qk (hk.BI.I hc) O O) <|
  pie (i:=i) O (QN (L:=[]) hk.R oa od) rfl rfl hq λa65 ka=>?_
 rw[hge]at ka;refine p (λ_=>ZN O)<|pq (λ_ hc=>Qq ((ka.fld 0 (sS s0.1) O).I hc) O)<|pk<|xf<|(Qim (va:=va) (vm:=vm) (ve:=ve) (vf:=sL bF (n+1) (n+1)) (st:=a.st) (s:=s0.1)).Y ?_;rintro r18 hg ⟨h6,b1,b2,rfl,hb1,hb2,pc,kb⟩;have hK:=m9.D h6;refine⟨hK,pe ?_⟩;have J:=hk.I hK;have hH:Kh ↑w ↑hF ds hg:=gy.I hK;have m3:=hK.size;have pd:Ua (bS::b10::ob vs) ↑hg ve a.ed:=by
  refine(hA.ed.up (L':=bS::b10::ob vs) (λb hb=>.inr ?_)).J J.stp (λ_ hb=>by cases hb);rcases Ll.1 hb with rfl|hb
  ·omega
  rcases Ll.1 hb with rfl|hb
  ·omega
  exact(Qi J.R b hb).1
 rw[g9]at kb;have pf:w.heap.size<=hg.heap.size:=J.stp.size;have gb:bS≠b4/\bS≠b7/\bS≠b10/\bS≠b11/\bS≠bi/\b10≠b4/\b10≠b7/\b10≠b11/\b10≠bi:=oa
 have hqS:=J.BS.lt;have hqi:=J.BI.lt;refine ZL<|QeI (α:={ e:Ed // e∈a.ed }) (bS::b10::ob vs) oa (capt:=[sP b1,sP b2]) O (enc:=λx=>sT (Qp x.1)) og
  (QcY pc kb (kq.I J.stp) pd kp oa kn)
  (λpre W=>∃v,PI w b4 b7 b10 b11 bS n [va,sS a.st,vm,ve,sL bF (n+1) (n+1)] (.func (.func gp) #[] cp.toArray) bi i v ((pre.map (·.1)).foldl (Ke pm i) st) W/\Qdl n ((pre.map (·.1)).foldl (Ke pm i) st)/\i<((pre.map (·.1)).foldl (Ke pm i) st).length /\
   (∀b∈ob v,b∈ob vs\/↑hg<=b)/\Kh ↑w ↑hF ds W/\hg.heap.size<=↑W)
  (λpre=>Z7.ex λv=>(PI.stb pf).and ((Z7.pure _).and ((Z7.pure _).and ((Z7.pure _).and ((Kh.stb oa).and (λW W' X h hs _=>Lx h hs.size))))))
  ⟨vs,J,h4,hq,λb hb=>.inl hb,hH,Lp _⟩
  (λf x f' W=>∃b,f'=upd (upd f 69 (sT (Qp x.1))) 15 (sP b)/\↑hg<=b/\QK ↑W b 179 (Qp x.1))
  (λx f'=>Z7.ex λb=>(Z7.pure _).and ((Z7.pure _).and Z7.blk)) ?_ ?_ ?_
 ·rintro l pre ⟨e,he⟩ W ⟨v,E,T,ha,hy,hv,hz⟩;refine Qx oh oh<|QP [sS 0,sS 0,sS 0] λb15 g2 V kc h0=>Q0 (Qp e) h0 ox λh7 I pg=>xe ?_;have hL:sW W h7:=V.O I kc;have ph:=hL.size;exact⟨O,Xy.I hL hz,⟨v,E.I hL,T,ha,hy,hv.I hL,oa⟩,b15,O,oa,pg⟩
 ·rintro l pre ⟨e,he⟩ f' W ⟨v,E,T,ha,hy,hv,hz⟩ ⟨b15,rfl,kc,h0⟩ _;have h8:((pre++[(⟨e,he⟩:{ e:Ed // e∈a.ed })]).map (·.1)).foldl (Ke pm i) st=Ke pm i ((pre.map (·.1)).foldl (Ke pm i) st) e:=by rw[Lv,Mg];rfl
  refine Zf ((pre.map (·.1)).foldl (Ke pm i) st) λG gc=>?_;rw[gc]at E T ha h8;have hM:=ko e he;have ge:e.2.2=(e.2.2.toNat:Int):=oa
  have gg:=Qlt (pm:=pm) T ha hM;have hN:=zq (l:=stS G) hM.1 hM.2;have pj:=T.le;have ph:=E.stp.size;refine ZL<|QQ<|Qx oh oh ?_;by_cases hO:e.2.2∈stS G
  ·rw[OT hO]at hN;have h9:Ke pm i G e=G:=by unfold Ke;rw[OP (λh=>h.1 hO)]
   refine ZA E.B11 O O<|Qr O h0 O O<|x (QD (i:=e.2.2.toNat) O (OR sS ge) oa)<|ZA E.BS O hN<|x (Zh O)<|x Um <|
    Zy<|QA rfl<|xe ?_
   refine JF O<|Z4 ?_;refine⟨Xy.refl _ _ _,v,?_⟩;rw[h8,h9];exact⟨E,T,ha,hy,hv,hz⟩
  rw[OV hO]at hN;refine ZA E.B11 O O<|Qr O h0 O O<|x (QD (i:=e.2.2.toNat) O (OR sS ge) oa)<|ZA E.BS O hN<|x (Zh O)<|x Um <|
   ZA E.B7 O O<|QY h0 O O<|Qo<|xc (first:=[]) (capt:=cp) O<|(kt e _ he E.stp).Y ?_
  rintro r19 g2 ⟨rfl,V⟩;refine QA O<|xe ?_;have hh:=E.I V;have hz15:=V.size;refine Kg O (λhp=>?_) (λhp=>?_)
  ·have h9:Ke pm i G e=G++[(e.2.2,(i:Int),e.2.1)]:=by unfold Ke;rw[OQ ⟨hO,hp⟩]
   rw[h9]at h8 gg;have ke:=h0.I V;refine QQ<|Qx oh oh<|ZA hh.B11 O O<|Qr O ke O O<|x (QD (i:=e.2.2.toNat) O (OR sS ge) oa)<|Qo<|Qv (j:=0+e.2.2.toNat*1) (u:=.bool true) hh.BS O O (by rw[Lj,VW];omega) O λh7 I pn=>xe ?_;have po:QK ↑h7 bS 4 ((flg n (stS (G++[(e.2.2,(i:Int),e.2.1)]))).map Value.bool):=by
    have e1:=qv (n:=n) (l:=stS G) hM.1;have e2:stS (G++[(e.2.2,(i:Int),e.2.1)])=stS G++[e.2.2]:=by unfold stS;rw[Lv];rfl
    rw[e2,<-e1,Nr];simpa using pn
   have hz16:=I.size;have hC:=hh.B10.J I (by have:=gb.2.2.1;simpa using this.symm);have pp:=hh.BI.J I (by have:=gb.2.2.2.2.1;simpa using this.symm);have pt:Z6 355 ↑w h7 v G:=Qg hh.R I (λb hb=>by have:=(hh.ne b hb).2.2.2.2.1;simpa using this);have kf:=ke.J I (by simp;omega);refine Qx oh oh<|ZA hC O O<|Qr O kf O O<|ZA pp O O<|Qr O kf O O<|x (QB ⟨O,O,O,Z⟩) <|
    Qo<|Q5 [[sS e.2.2,sS i,sS e.2.1]] λb92 g5 hu hb92 pu =>
    Qo<|Q2 (m:=1) (news:=[sS e.2.2,sS i,sS e.2.1]) (Qm pt hu) O O O (pu.at (L:=[]) od) om oa (oo hu.size) λkg w18 kh ki pw=>?_
   have pz:b10∉ob v:=λhm=>(hh.ne b10 hm).2.2.1 O;refine Qo<|Qv (u:=kg) ((hC.I hu).J ki pz) O O od (QN (L:=[]) kh oa od).one λp0 p4 p5=>xe ?_;have gh:=hh.add (B:=↑hg) (L0:=ob vs) gb oa oa oa ⟨oa,oa,oa,oa⟩ I po hu ki (Z6.snoc kh) pw p4 p5 hy;have gi:Xy ↑hg (bS::b10::ob vs) W p0:=(Xy.I V hz).D gh.2.1;have hzf:=gi.lw.size;refine⟨gi,kg,?_⟩;rw[h8];exact⟨gh.1,gg.1,gg.2,gh.2.2,hv.rst gi,oa⟩
  have h9:Ke pm i G e=G:=by unfold Ke;rw[OP (λh=>by rw[hp]at h;exact OS h.2 og)]
  refine Z4<|⟨Xy.I V hz,v,?_⟩;rw[h8,h9];exact⟨hh,T,ha,hy,hv.I V,oa⟩
 rintro D xs W hD p6 ⟨v,E,T,ha,hy,hv,hz⟩ p7;rw[p6,<-g9]at E T ha;refine Zf ((QS a.ed s0.1).foldl (Ke pm i) st) λG gc=>?_;rw[gc]at E T ha S;have pj:=T.le;have p8:=hv.cons oa oa p7;refine QQ<|QQ<|Qx oh oh<|ZA E.BI O O<|xe<|Qx oh oh<|QP [sS 0] λbj w20 p9 kj qf=>Qo<|Qv (u:=sS i) qf O O od rfl λw21 qj kk=>xe ?_;refine Qx oh oh<|ZA kk O O<|QC O O<|Qo<|Qv (u:=sS ((i:Int)+1)) kk O O od rfl λql q0 q4=>xe ?_;have gj:sW W ql:=(p9.O qj kj).O q0 kj;have q5:=gj.size;have U:=E.I gj;have j1:=(p8.I gj).up q5;have j2:∀b∈ob v,b≠bj:=λb hb e=>oo (QU E.R b hb)
 refine⟨(i+1,bj,mv,v,G),oe,La,⟨U.stp,U.B4,U.B7,U.B10,U.B11,U.BS,q4,U.R,λb hb=>⟨(U.ne b hb).1,(U.ne b hb).2.1,(U.ne b hb).2.2.1,(U.ne b hb).2.2.2.1,(U.ne b hb).2.2.2.2.1,j2 b hb⟩⟩,T,j1,oa,?_,oe,ha,oe,S⟩;have t4:=E.B4.lt;have t7:=E.B7.lt;have t10:=E.B10.lt;have t11:=E.B11.lt;have tS:=E.BS.lt;simp only[];omega
open Go.RowKit
def sl (d:xA)(f:Fr):OY:=match d with|some d=>f d|none=>undef
def ow:OY->LN
 | .slice (some a) _ _=>[a.block]
 | .pointer (some a)=>[a.block]
 | .map (some b)=>[b]
 | _=>[]
def Fa (p:Nat->Prop):LN->Prop
 | []=>True
 | i::l=>p i/\Fa p l
theorem Fa.all {p:Nat->Prop}:∀{l:LN},Fa p l->∀i∈l,p i
 | [],_,_,hi=>by cases hi
 | j::l,h,i,hi=>by
  rcases Ll.1 hi with rfl|hi
  ·exact h.1
  exact Fa.all h.2 i hi
theorem Fa.of {p:Nat->Prop}:∀{l:LN},(∀i∈l,p i)->Fa p l
 | [],_=>trivial
 | i::_,h=>⟨h i Lo,Fa.of λj E=>h j (Lm _ E)⟩
def undup:List (Array Bool)->List (Array Bool)->List (Array Bool)
 | [],acc=>acc
 | x::l,acc=>if acc.contains x then undup l acc else undup l (x::acc)
theorem Uf {x:Array Bool}:∀{l acc:List (Array Bool)},(x∈l\/x∈acc)->x∈undup l acc
 | [],acc,h=>h.elim (λh=>by cases h) id
 | y::l,acc,h=>by
  unfold undup;split
  ·rename_i E;refine Uf ?_;rcases h with h|h
   ·rcases Ll.1 h with e|h
    ·exact .inr (e ▸ List.contains_iff_mem.1 E)
    exact .inl h
   exact .inr h
  refine Uf ?_;rcases h with h|h
  ·rcases Ll.1 h with e|h
   ·exact .inr (e ▸ Lo)
   exact .inl h
  exact .inr (Lm _ h)
def alv (tk:Nat->LN)(opn:LN)(ls:Array Bool)(j:Nat):Bool:=ls.getD j false && opn.all λk=>!(ls.getD k false && (tk k).contains j)
def ze (all:Array Oper)(dp tk:Nat->LN)(opn fn nb:LN)(rest:xo):Nat->List (Array Bool)->Bool
 | 0,L=>L.all λls=>Y7 all rest ls && fn.all λi=>opn.contains i && alv tk opn ls i
 | k+1,L=>(L.all λls=>!(Region.ready .any all ls).isEmpty && (Region.ready .any all ls).all λi=>opn.contains i && ((dp i).all λj=>opn.contains j && alv tk opn ls j) && ((tk i).all λj=>(dp i).contains j) && ((tk i).isEmpty || nb.all λj=>!ls.getD j false)) &&
  ze all dp tk opn fn nb rest k (undup (L.flatMap λls=>(Region.ready .any all ls).map λi=>ls.setIfInBounds i true) [])
def Qa3 (all:xz)(D:xp):LN->Bool
 | []=>true
 | i::l=>(QR all i).guard.isNone && (match (QR all i).dst with|some d=>JH D d && l.all (λj=>!((QR all j).dst == some d))|none=>false) && !l.contains i && Qa3 all D l
theorem J5 {all:xz}{D:xp}:∀{l:LN},Qa3 all D l=true->(∀i∈l,(QR all i).guard=none/\∃d,(QR all i).dst=some d/\JH D d=true)/\∀i∈l,∀j∈l,i≠j->(QR all i).dst≠(QR all j).dst
 | [],_=>⟨λ_ h=>(by cases h),λ_ h=>(by cases h)⟩
 | i::l,h=>by
  simp only[Qa3,oI,Option.isNone_iff_eq_none]at h;obtain⟨⟨⟨U,hd⟩,Y⟩,V⟩:=h;have ih:=J5 V;cases G:(QR all i).dst with
  | none=>rw[G]at hd;cases hd
  | some d =>
   rw[G]at hd;simp only[oI,Og,Od,beq_eq_false_iff_ne,ne_eq]at hd;have I:∀j∈l,(QR all j).dst≠some d:=λj E=>hd.2 j E;refine⟨λj E=>?_,λj E k S T=>?_⟩
   ·rcases Ll.1 E with rfl|E
    ·exact⟨U,d,G,hd.1⟩
    exact ih.1 j E
   rcases Ll.1 E with hj1|hj1
   ·rcases Ll.1 S with hk1|hk1
    ·exact OS (hj1.D hk1.symm) T
    rw[hj1,G];exact λe=>I k hk1 e.symm
   rcases Ll.1 S with hk1|hk1
   ·rw[hk1,G];exact I j hj1
   exact ih.2 j hj1 k hk1 T
def Qeq (all:xz)(dp tk:Nat->LN)(pre:xo)(opn fn nb:LN)(rest:xo)(D:xp):Bool :=
 Region.noSelect all.toArray && (pre.length+(opn.length+rest.length) == all.length) && XQ all.toArray pre (oP all.length false) && Qa3 all D opn && ze all.toArray dp tk opn fn nb rest opn.length [ZO pre (oP all.length false)]
  && opn.all λi=>!((ZO pre (oP all.length false)).getD i false)
theorem JB {tk:Nat->LN}{opn:LN}{ls:Array Bool}(hi:i∈opn)(E:i<ls.size)(S:j≠i)(h:alv tk opn (ls.setIfInBounds i true) j=true):alv tk opn ls j=true/\j∉tk i:=by
 unfold alv at *;simp only[oI,Og,Od,Bool.and_eq_false_iff]at *;refine⟨⟨by rw[getD_set_ne false (Ne.symm S)]at h;exact h.1,λk G=>?_⟩,λT=>?_⟩
 ·by_cases I:k=i
  ·subst I;refine .inr ((h.2 k G).resolve_left λe=>?_);simp[Array.getD_eq_getD_getElem?,E]at e
  have:=h.2 k G;rw[getD_set_ne false (Ne.symm I)]at this;exact this
 rcases h.2 i hi with e|e
 ·simp[Array.getD_eq_getD_getElem?,E]at e
 rw[List.contains_iff_mem.2 T]at e;cases e
section
variable {all:xz}{C J:xu}
theorem zo {o:Oper}(h:o.guard=none):Z3 all f o=true:=by unfold Z3;rw[h]
abbrev tkn (all:xz)(tk:Nat->LN)(i:Nat)(g:Fr):LN:=(tk i).flatMap λj=>ow (sl (QR all j).dst g)
theorem QbW {α:Type}{N:Nat}{D:xp}{dp tk:Nat->LN}{opn fn nb:LN}{rest:xo}{Φ:Nat->OY->OX->Prop}{S:α->List (Nat×OY)}{I:α->OX->Prop}{f1:Fr}(hs:Region.noSelect all.toArray=true)(hop:Qa3 all D opn=true)
  (hy:∀w,J w->C w) (h6:∀i∈opn,∀own w w',J w->O1 own w w'->(∀b∈own,N<=b)->(tk i=[]->own=[])->J w') (hN:∀w,J w->N<=↑w) (stab:∀i∈opn,∀v own w w',Φ i v w->O1 own w w'->(∀b∈ow v,b∉own)->(i∈nb->own=[])->Φ i v w')
  (h7:∀(g:Fr) w,Fa (λi=>Φ i (sl (QR all i).dst g) w) fn->(∀i∈fn,∀j∈fn,i≠j->∀b∈ow (sl (QR all i).dst g),b∉ow (sl (QR all j).dst g))->(∀i∈fn,∀b∈ow (sl (QR all i).dst g),N<=b)->∃z,YW g (S z)/\I z w)
  (spec:Fa (λi=>∀g w,J w->Fa (λj=>Φ j (sl (QR all j).dst (mix D f1 g)) w) (dp i)->(∀j∈dp i,∀b∈ow (sl (QR all j).dst (mix D f1 g)),N<=b/\b<↑w)->XO P (QR all i) (mix D f1 g) w (λf' w'=>O1 (tkn all tk i (mix D f1 g)) w w'/\Φ i (sl (QR all i).dst f') w'/\∀b∈ow (sl (QR all i).dst f'),(↑w<=b\/b∈tkn all tk i (mix D f1 g))/\b<↑w')) opn)
  (fin:∀z g w,J w->I z w->XP P all C K rest (Vc (S z) (mix D f1 g)) w):
  ∀(k:Nat) {L:List (Array Bool)} (_:ze all.toArray dp tk opn fn nb rest k L=true) (ls:Array Bool) (f:Fr) (w:OX),ls∈L->ls.size=all.length->J w->(∀t,JH D t=false->f t=f1 t)->(∀i∈opn,alv tk opn ls i=true->Φ i (sl (QR all i).dst f) w) ->
   (∀i∈opn,alv tk opn ls i=true->(∀b∈ow (sl (QR all i).dst f),N<=b/\b<↑w)/\∀j∈opn,alv tk opn ls j=true->i≠j->∀b∈ow (sl (QR all i).dst f),b∉ow (sl (QR all j).dst f))->XA P all C K (k+rest.length) ls f w
 | 0,L,T,ls,f,w,hr,hu,hC,hf,hv,V=>by
  simp only[ze,oI,Og,List.contains_iff_mem]at T;have T:=T ls hr;obtain⟨z,h1,Y⟩:=h7 f w (Fa.of λi hi=>hv i (T.2 i hi).1 (T.2 i hi).2) (λi hi j E G=>(V i (T.2 i hi).1 (T.2 i hi).2).2 j (T.2 j E).1 (T.2 j E).2 G) (λi hi b hb=>((V i (T.2 i hi).1 (T.2 i hi).2).1 b hb).1);have h3:=fin z f w hC Y;rw[Ky hf,Xl h1]at h3;rw[LT];exact Yi hs rest ls f w hu (.inl (hy _ hC)) T.1 h3
 | k+1,L,T,ls,f,w,hr,hu,hC,hf,hv,V=>by
  simp only[ze,oI,Og,List.contains_iff_mem,Bool.or_eq_true,Od]at T;obtain⟨T,hB⟩:=T;obtain⟨hw,T⟩:=T ls hr;rw[Nat.add_right_comm];refine JC (λh0=>(by rw[h0]at hw;cases hw)) ?_;intro i hi o ho;obtain⟨⟨⟨U,ha⟩,hn⟩,hD⟩:=T i hi;obtain⟨hg,d,hd,hE⟩:=(J5 hop).1 i U;have hsp:=Fa.all spec i U f w hC;rw[Ky hf]at hsp;have hsp:=hsp (Fa.of λj E=>hv j (ha j E).1 (ha j E).2) (λj E=>(V j (ha j E).1 (ha j E).2).1);have hq:=ZD ho;have he:i<ls.size:=by rw[hu];exact(Mc.1 (ou ho)).1
  rw[hq]at hg hd hsp;rw[zo hg,cond_true];refine hsp.Y λv w' hx=>?_;have hT:∀b∈tkn all tk i f,∃j,j∈tk i/\b∈ow (sl (QR all j).dst f):=λb hb=>by
   obtain⟨j,E,hb⟩:=Mb.1 hb;exact⟨j,E,hb⟩
  have h8:=h6 i U _ w w' hC hx.1 (λb hb=>by
   obtain⟨j,E,hb⟩:=hT b hb;exact((V j (ha j (hn j E)).1 (ha j (hn j E)).2).1 b hb).1) λe=>by rw[tkn,e];rfl
  have hz:=hx.1.size;have old:∀j∈opn,j≠i->sl (QR all j).dst (QO f o.dst v)=sl (QR all j).dst f:=λj E G=>by
   obtain⟨_,dj,h9,_⟩:=(J5 hop).1 j E;have hw:o.dst≠some dj:=λe=>((J5 hop).2) j E i U G (by rw[h9,hq];exact e.symm);rw[h9];exact YY hw v
  have apt:∀j∈opn,j≠i->alv tk opn (ls.setIfInBounds i true) j=true->∀b∈ow (sl (QR all j).dst f),b∉tkn all tk i f:=λj E G hc b hb hm=>by
   obtain⟨h1,Y⟩:=JB U he G hc;obtain⟨t,ht,h4⟩:=hT b hm;exact(V j E h1).2 t (ha t (hn t ht)).1 (ha t (hn t ht)).2 (λe=>Y (e ▸ ht)) b hb h4
  refine⟨.inr (.inr (hy _ h8)),QbW hs hop hy h6 hN stab h7 spec fin k hB _ _ _ (Uf (.inl (Mb.2 ⟨ls,hr,Lz.2 ⟨i,hi,O⟩⟩))) (ou hu) h8 (λt ht=>?_) (λj E hc=>?_) (λj E hc=>⟨λb hb=>?_,λk hk h5 hA b hb hh=>?_⟩)⟩
  ·rw[YY (by rw[hd];intro e;cases e;rw[hE]at ht;cases ht)];exact hf t ht
  ·by_cases G:j=i
   ·subst G;have Y:=hx.2.1;rw[hq];exact Y
   rw[old j E G];refine stab j E _ _ _ _ (hv j E (JB U he G hc).1) hx.1 (apt j E G hc) λhF=>?_;rcases hD with e|e
   ·rw[List.isEmpty_iff]at e;show(tk i).flatMap _=[];rw[e];rfl
   have h1:=(JB U he G hc).1;unfold alv at h1;rw[e j hF]at h1;cases h1
  ·by_cases G:j=i
   ·subst G;rw[hq]at hb;refine⟨(hx.2.2 b hb).1.elim (λh=>Lx (hN w hC) h) λh=>?_,(hx.2.2 b hb).2⟩;obtain⟨t,ht,h4⟩:=hT b h;exact((V t (ha t (hn t ht)).1 (ha t (hn t ht)).2).1 b h4).1
   rw[old j E G]at hb;have:=(V j E (JB U he G hc).1).1 b hb;exact⟨this.1,oa⟩
  by_cases G:j=i
  ·subst G;have hl:k≠j:=Ne.symm hA;rw[old k hk hl]at hh;rw[hq]at hb;have h1:=((V k hk (JB U he hl h5).1).1 b hh).2;rcases(hx.2.2 b hb).1 with Y|Y
   ·omega
   exact apt k hk hl h5 b hh Y
  rw[old j E G]at hb;have h1:=((V j E (JB U he G hc).1).1 b hb).2;by_cases hl:k=i
  ·subst hl;rw[hq]at hh;rcases(hx.2.2 b hh).1 with Y|Y
   ·omega
   exact apt j E G hc b hb Y
  rw[old k hk hl]at hh;exact(V j E (JB U he G hc).1).2 k hk (JB U he hl h5).1 hA b hb hh
theorem zR {Q:Exit->Fr->OX->Prop}(C J:xu)(N:Nat)(pre:xo)(dp tk:Nat->LN)(opn fn nb:LN)(rest:xo)(D:xp)(Φ:Nat->OY->OX->Prop)(S:α->List (Nat×OY))(I:α->OX->Prop)
  (hm:P.follows .mixedOrders=true) (hn:Xf n all=true) (G:Qeq all dp tk pre opn fn nb rest D=true) (hC:J { w with drawn:=w.drawn+1 }) (T:∀w,J w->C w) (hc:∀i∈opn,∀own w w',J w->O1 own w w'->(∀b∈own,N<=b)->(tk i=[]->own=[])->J w') (hN:∀w,J w->N<=↑w) (stab:∀i∈opn,∀v own w w',Φ i v w->O1 own w w'->(∀b∈ow v,b∉own)->(i∈nb->own=[])->Φ i v w')
  (he:∀(g:Fr) w,Fa (λi=>Φ i (sl (QR all i).dst g) w) fn->(∀i∈fn,∀j∈fn,i≠j->∀b∈ow (sl (QR all i).dst g),b∉ow (sl (QR all j).dst g))->(∀i∈fn,∀b∈ow (sl (QR all i).dst g),N<=b)->∃z,YW g (S z)/\I z w)
  (h:XP P all C (λf1 _=>(Fa (λi=>∀g w,J w->Fa (λj=>Φ j (sl (QR all j).dst (mix D f1 g)) w) (dp i)->(∀j∈dp i,∀b∈ow (sl (QR all j).dst (mix D f1 g)),N<=b/\b<↑w)->XO P (QR all i) (mix D f1 g) w (λU w'=>O1 (tkn all tk i (mix D f1 g)) w w'/\Φ i (sl (QR all i).dst U) w'/\∀b∈ow (sl (QR all i).dst U),(↑w<=b\/b∈tkn all tk i (mix D f1 g))/\b<↑w')) opn) /\
   ∀z g w,J w->I z w->XP P all C (λf w=>Q .normal f w) rest (Vc (S z) (mix D f1 g)) w) pre f { w with drawn:=w.drawn+1 }):W P n (.region id all.toArray true) Q f w:=by
 simp only[Qeq,oI,beq_iff_eq,Og,Od]at G;obtain⟨⟨⟨⟨⟨V,Y⟩,hq⟩,hop⟩,hf⟩,hg⟩:=G;refine Jj C hm hn ?_;rw[<-Y];have hh:(oP all.length false).size=all.length:=od
 have ha:∀i∈opn,alv tk opn (ZO pre (oP all.length false)) i=true->False:=λi hi E=>by
  unfold alv at E;rw[hg i hi]at E;cases E
 have h1:=Yx (K:=λf w=>Q .normal f w) (m:=opn.length+rest.length) V pre (oP all.length false) f _ (T _ hC) hq (λf1 hB=>QbW (P:=P) (C:=C) V hop T hc hN stab he hB.1 hB.2 opn.length hf (ZO pre (oP all.length false)) f1 _ Lo (by rw[YB];exact hh) hC (λ_ _=>O) (λi hi E=>(ha i hi E).elim) (λi hi E=>(ha i hi E).elim)) h;rw[Y]at h1 ⊢;exact h1
theorem XP.keeps_mono {K':xt}:∀(l:xo) (f:Fr) (w:OX),XP P all C K l f w->(∀f w,K f w->K' f w)->XP P all C K' l f w
 | [],f,w,h,E=>by simp only[XP]at h ⊢;exact E _ _ h
 | (j,q)::l,f,w,h,E=>by
  simp only[XP]at h ⊢;cases G:Z3 all f (QR all j)with
  | false=>rw[G]at h;exact XP.keeps_mono l _ _ h E
  | true =>
   rw[G]at h;cases q with
   | true=>obtain⟨v,I,hx⟩:=h;exact⟨v,I,XP.keeps_mono l _ _ hx E⟩
   | false=>exact XO.Y (λv w' hx=>⟨hx.1,XP.keeps_mono l _ _ hx.2 E⟩) h
theorem QbY {Q:Exit->Fr->OX->Prop}(C J:xu)(pre:xo)(dp:Nat->LN)(opn:LN)(rest:xo)(D:xp)(Φ:Nat->OY->OX->Prop)(S:α->List (Nat×OY))(I:α->OX->Prop)
  (T:P.follows .mixedOrders=true) (U:Xf n all=true) (V:Qeq all dp (λ_=>[]) pre opn opn opn rest D=true) (hC:J { w with drawn:=w.drawn+1 }) (Y:∀w,J w->C w) (ha:∀w w',J w->sW w w'->J w') (stab:∀i v w w',Φ i v w->sW w w'->Φ i v w')
  (hc:∀(g:Fr) w,Fa (λi=>Φ i (sl (QR all i).dst g) w) opn->(∀i∈opn,∀j∈opn,i≠j->∀b∈ow (sl (QR all i).dst g),b∉ow (sl (QR all j).dst g))->∃z,YW g (S z)/\I z w)
  (h:XP P all C (λf1 _=>Fa (λi=>∀g w,J w->Fa (λj=>Φ j (sl (QR all j).dst (mix D f1 g)) w) (dp i)->XO P (QR all i) (mix D f1 g) w (λG w'=>sW w w'/\Φ i (sl (QR all i).dst G) w'/\∀b∈ow (sl (QR all i).dst G),↑w<=b/\b<↑w')) opn /\
   ∀z g w,J w->I z w->XP P all C (λf w=>Q .normal f w) rest (Vc (S z) (mix D f1 g)) w) pre f { w with drawn:=w.drawn+1 }):W P n (.region id all.toArray true) Q f w:=by
 refine zR C J 0 pre dp (λ_=>[]) opn opn opn rest D Φ S I T U V hC Y (λ_ _ _ w w' h E _ e=>?_) (λ_ _=>Ln _) (λi hi v _ w w' h E _ e=>?_) (λg w h1 h2 _=>hc g w h1 h2) (XP.keeps_mono _ _ _ h λf1 w1 hx=>⟨Fa.of λi hi g w hJ hd _=>(Fa.all hx.1 i hi g w hJ hd).Y λ_ _ h=>⟨h.1,h.2.1,λb hb=>⟨.inl (h.2.2 b hb).1,(h.2.2 b hb).2⟩⟩,hx.2⟩)
 ·rw[e rfl]at E;exact ha w w' h E
 rw[e hi]at E;exact stab i v w w' h E
theorem KJ {Q:Exit->Fr->OX->Prop}(C:xu)(pre:xo)(dp:Nat->LN)(opn:LN)(rest:xo)(D:xp)(Φ:Nat->OY->OX->Prop)(S:α->List (Nat×OY))(I:α->OX->Prop)
  (G:P.follows .mixedOrders=true) (T:Xf n all=true) (U:Qeq all dp (λ_=>[]) pre opn opn opn rest D=true) (hC:C { w with drawn:=w.drawn+1 }) (V:∀w w',C w->sW w w'->C w') (stab:∀i v w w',Φ i v w->sW w w'->Φ i v w')
  (Y:∀(g:Fr) w,Fa (λi=>Φ i (sl (QR all i).dst g) w) opn->(∀i∈opn,∀j∈opn,i≠j->∀b∈ow (sl (QR all i).dst g),b∉ow (sl (QR all j).dst g))->∃z,YW g (S z)/\I z w)
  (h:XP P all C (λf1 _=>Fa (λi=>∀g w,C w->Fa (λj=>Φ j (sl (QR all j).dst (mix D f1 g)) w) (dp i)->XO P (QR all i) (mix D f1 g) w (λE w'=>sW w w'/\Φ i (sl (QR all i).dst E) w'/\∀b∈ow (sl (QR all i).dst E),↑w<=b/\b<↑w')) opn /\
   ∀z g w,C w->I z w->XP P all C (λf w=>Q .normal f w) rest (Vc (S z) (mix D f1 g)) w) pre f { w with drawn:=w.drawn+1 }):W P n (.region id all.toArray true) Q f w :=
 QbY C C pre dp opn rest D Φ S I G T U hC (λ_ h=>h) V stab Y h
end
theorem flA [Ze P t z]{E:OX}{e:Nat}(us:LV)(hC:sW E w)(T:z.cells=us.toArray:=by rfl):XO P ⟨some e,.alloc t,ty,pS,af,gd⟩ f w λG w'=>sW w w'/\sW E w'/\(∃b,G e=sP b/\↑E<=b/\QK ↑w' b t us)/\∀b∈ow (G e),↑w<=b/\b<w'.heap.size:=YK T λb w' I hb S=>by
 have e1:QO f (some e) (sP b) e=sP b:=by simp[QO,upd]
 show sW w w'/\sW E w'/\(∃b',QO f (some e) (sP b) e=sP b'/\↑E<=b'/\QK ↑w' b' t us)/\∀b'∈ow (QO f (some e) (sP b) e),↑w<=b'/\b'<↑w';rw[e1];exact⟨I,hC.D I,⟨b,O,Lx hC.size hb,S⟩,λx hx=>by rw[show x=b by simpa using(show x∈[b] from hx)];exact⟨hb,S.lt⟩⟩
theorem QaX {x:OZ}{e:Nat}[h:Ay P t m e 1][h1:Xt P e]{k:IntKind}{u:OY}(hx:ev f x=sT cs)(E:ev f y=.int k i)(hi:i<m)(G:cs[i]?=some u):
  (execOp (ev f) ⟨d,.index t x y,ty,pS,af,gd⟩).run P w=.ok (.value u) w:=by
 have I:=qJ (P:=P) (w:=w) (t:=e);have J:=yQ (P:=P) (w:=w) (t:=e);simp[execOp,hx,E,Instr.index,asIntOf,run_underlying h.u,I,part,J,G];intro S;omega
theorem Qi5 {b:Nat}(G:QK ↑w b 301 [sL E n n])(hS:QK ↑w E 4 ((flg n l).map Value.bool))(I:0<=s)(J:s<(n:Int)):
  QT sV 200 [sS s,sP b] w λr w'=>r=.bool (decide (s∈l))/\sW w w':=by
 refine Zn func200 ?_;have S:s=(s.toNat:Int):=oa
 refine Qc<|Qb<|Qc<|ZA G O O<|Qa<|x (QD (i:=s.toNat) O (OR sS S) oa)<|ZA hS O (zq I J)<|Qb<|Qj ⟨[_],La,O,O1.Z _ _⟩
theorem Qi4 {b:Nat}{e:Ed}(I:QK ↑w b 301 [sL G n n])(hS:QK ↑w G 4 ((flg n l).map Value.bool))(J:0<=e.2.2)(S:e.2.2<(n:Int)):
  QT sV 201 [sT (Qp e),sP b] w λr w'=>r=.bool (decide (e.2.2∈l))/\sW w w':=by
 refine Zn func201 ?_;have T:e.2.2=(e.2.2.toNat:Int):=oa
 refine Qc<|Zd (Qp e) λV Y E ha U=>Qb<|Qc<|ZA (I.I E) O O<|Qr O U O O<|x (QD (i:=e.2.2.toNat) O (OR sS T) oa)<|ZA (hS.I E) O (zq J S)<|Qb<|Qj ⟨[_],La,O,E⟩
instance ayJk1:Ay sV 300 2 47 1:=⟨oc,oc⟩
def ptR (a:QF)(n from0:Nat)(tg wi:LI):LI×Bool:=pth (λs=>decide (s∈tg)) (λe=>decide (e.2.2∈wi)) a.ed n from0
theorem Qdx (st:List Ed):∀(f k:Nat),(wrd st f k).length<=f
 | 0,_=>by simp[wrd]
 | f+1,k=>by
  rw[wrd];split
  ·have:=Qdx st f (gE st k).2.1.toNat;simp only[oQ];omega
  simp
theorem QaY (wt:Int->Bool)(pm:Ed->Bool)(es:List Ed):∀(f i:Nat) (st:List Ed),(jE wt pm es f i st).1.length<=f+i
 | 0,_,_=>by simp[jE]
 | f+1,i,st=>by
  rw[jE];split
  ·split
   ·have:=Qdx st (i+1) i;simp only[List.length_reverse];omega
   have:=QaY wt pm es f (i+1) ((QS es (gE st i).1).foldl (Ke pm i) st);omega
  simp
theorem QjR (a:QF)(n:Nat)(tg wi:LI):(ptR a n 0 tg wi).1.length<=n+1:=QaY _ _ _ (n+1) 0 _
def phP (N n:Nat)(tg wi:LI)(i:Nat)(v:OY)(w:OX):Prop :=
 if i=2 then ∃b,v=sL b n n/\N<=b/\QK ↑w b 4 ((flg n wi).map Value.bool)
 else if i=5 then ∃b,v=sL b n n/\N<=b/\QK ↑w b 4 ((flg n tg).map Value.bool)
 else ∃b,v=sP b/\N<=b/\QK ↑w b 301 [nS]
theorem QjX {tg wi:LI}(i:Nat)(v:OY)(w w':OX)(h:phP N n tg wi i v w)(J:sW w w'):phP N n tg wi i v w':=by
 unfold phP at *;split
 ·rename_i e;rw[OQ e]at h;obtain⟨b,E,G,I⟩:=h;exact⟨b,E,G,I.I J⟩
 rename_i e;rw[OP e]at h;split
 ·rename_i e2;rw[OQ e2]at h;obtain⟨b,E,G,I⟩:=h;exact⟨b,E,G,I.I J⟩
 rename_i e2;rw[OP e2]at h;obtain⟨b,E,G,I⟩:=h;exact⟨b,E,G,I.I J⟩
structure PhZ where
 bi:Nat
 bt:Nat
 b15:Nat
 b16:Nat
theorem Qly {vi:OY}{from0:Nat}{tg wi:LI}(h:Zr [] ↑w va vm ve a)(hck:XK a=0)(hn:a.st=(n:Int))(hf:from0<n)(ht:Qt [] ↑w vt tg)(hi:Qt [] ↑w vi wi)
  (h6:Jn a.st none tg=0) (h7:Jn a.st none wi=0) (hM:(from0:Int)∈wi):
  QT sV 127 [.agg #[va,sS a.st,vm,ve],sS from0,vt,vi] w λr w'=>sW w w'/\∃v,r=.tuple #[v,.bool (ptR a n from0 tg wi).2,sS 0]/\Qh 3 ↑w w' v (ptR a n from0 tg wi).1:=by
 have J:=(ZF a).1 hck;have hz:=J.st1;refine Zn func127 ?_;refine Qc<|Zd [va,sS a.st,vm,ve] λb4 w1 h8 hZ h9=>x Qd<|x Qd<|Qb<|Qe<|Qc<|QY h9 O O<|Qw<|(YV (h.I h8)).Y ?_;rintro r2 w2 ⟨rfl,hA⟩;refine Qb<|Ql<|ZI O O<|xe<|Za rfl (λhC=>OS hck hC) (λhC=>?_);refine Qf ?_;have hD:=h8.D hA;have h3:=h9.I hA;have hN:¬(from0:Int)≥a.st:=oa
 refine Qe<|Ql<|xb (Yw O O) (λhE=>OS hE oa) (λhE=>?_);refine Qa<|Qa<|Qr O h3 O O<|x (Yd O O)<|QA O<|xe<|Za rfl (λhF=>OS hF hN) (λhF=>?_);refine Qf<|Qe<|Ql<|Qa<|x (QB ⟨ht.cells,hi.cells,Z⟩)<|Qa<|xe<|QW (α:=Nat) [(8,10),(13,14),(33,42)] (λz=>[(33,sS z)]) (λz w'=>z<=2/\sW w2 w') (λz=>2 - z) 0 La ⟨oa,O1.Z _ _⟩ ?_;rintro k g w4 ⟨hk,ha⟩;refine Zi rfl O (λhG=>?_) (λhG=>?_)
 ·refine Qu ?_;have hg:=hD.D ha;have hH:=h.I hg;have ga:=hg.size;have h4:=h3.I ha;have hO:=((YS a.st tg none).1 h6).1;have hP:=((YS a.st wi none).1 h7).1;refine Qe<|KJ (α:=PhZ) (sW w4) [oz 0,oz 1,oz 3,oz 4] (λ_=>[]) [2,5,6,7] [oA 8,oA 9] [(15,16),(45,45),(48,48)] (phP ↑w4 n tg wi)
   (λz=>[(45,.slice (some ⟨z.bi,0,none⟩) n n),(48,.slice (some ⟨z.bt,0,none⟩) n n),(15,.pointer (some ⟨z.b15,0,none⟩)),(16,.pointer (some ⟨z.b16,0,none⟩))])
   (λz w'=>QK ↑w' z.bi 4 ((flg n wi).map Value.bool)/\QK ↑w' z.bt 4 ((flg n tg).map Value.bool)/\QK ↑w' z.b15 301 [nS]/\QK ↑w' z.b16 301 [nS]/\(z.b15≠z.b16/\z.bi≠z.b15/\z.bi≠z.b16/\z.bt≠z.b15/\z.bt≠z.b16)/\↑w4<=z.b15/\↑w4<=z.b16)
   mixed oh oc (O1.C _ _) (λ_ _ h1 h2=>h1.D h2) QjX ?_ ?_
  ·rintro g w' ⟨⟨bi,e1,_,hq⟩,⟨bt,e2,_,hr⟩,⟨b15,e3,U,hs⟩,⟨b16,e4,hh,hw⟩,_⟩ hj;refine⟨⟨bi,bt,b15,b16⟩,⟨e1,e2,e3,e4,Z⟩,hq,hr,hs,hw,?_,U,hh⟩;have d1:=hj 6 od 7 od og;have d2:=hj 2 od 6 od og;have d3:=hj 2 od 7 od og;have d4:=hj 5 od 6 od og;have d5:=hj 5 od 7 od og;rw[e3,e4]at d1;rw[e1,e3]at d2;rw[e1,e4]at d3;rw[e2,e3]at d4;rw[e2,e4]at d5;simp only[ow,oF,forall_eq]at d1 d2 d3 d4 d5;exact⟨d1,d2,d3,d4,d5⟩
  refine pq (λ_ E=>Zj (h4.I E) O O)<|p Qy<|pq (λ_ E=>Zj (h4.I E) O O)<|p Qy<|pe ⟨⟨?_,?_,?_,?_,Z⟩,?_⟩
  ·intro g w' E _;refine xg<|(Qbp ((hi.I hg).I E) hn hz hP).Y ?_;rintro r5 w5 ⟨I,b,rfl,hb,G⟩;exact⟨I,⟨b,O,Lx E.size hb,G⟩,λc S=>by rw[Lb.1 (show c∈[b] from S)];exact⟨hb,G.lt⟩⟩
  ·intro g w' E _;refine xg<|(Qbp ((ht.I hg).I E) hn hz hO).Y ?_;rintro r5 w5 ⟨I,b,rfl,hb,G⟩;exact⟨I,⟨b,O,Lx E.size hb,G⟩,λc S=>by rw[Lb.1 (show c∈[b] from S)];exact⟨hb,G.lt⟩⟩
  ·intro g w' E _;exact YK (us:=[nS]) O λb w5 I hb G=>⟨I,⟨b,O,Lx E.size hb,G⟩,λc S=>by rw[Lb.1 (show c∈[b] from S)];exact⟨hb,G.lt⟩⟩
  ·intro g w' E _;exact YK (us:=[nS]) O λb w5 I hb G=>⟨I,⟨b,O,Lx E.size hb,G⟩,λc S=>by rw[Lb.1 (show c∈[b] from S)];exact⟨hb,G.lt⟩⟩
  rintro⟨bi,bt,b15,b16⟩ g w5 h5 ⟨hq,hr,hs,hw,hQ,U,hh⟩;simp only[]at hq hr hs hw hQ U hh;refine pk<|Qv (u:=sL bi n n) hs O O od rfl λw6 V hR=>⟨h5.O V U,?_⟩;refine pk<|Qv (u:=sL bt n n) (hw.J V (by simp;omega)) O O od rfl λw7 hm hS=>⟨(h5.O V U).O hm hh,pe ?_⟩;have hy:sW w4 w7:=(h5.O V U).O hm hh;have hI:=hR.J hm (by simp;omega);have hJ:=(hq.J V (by simp;omega)).J hm (by simp;omega);have hT:=(hr.J V (by simp;omega)).J hm (by simp;omega);have gb:=hy.size;have hU:((flg n wi).map Value.bool)[0+from0*1]?=some (.bool true):=by
   have e1:=zq (n:=n) (l:=wi) (x:=(from0:Int)) oa oa;rw[OT hM]at e1;exact e1
  refine Qe<|Qc<|ZA hI O O<|Qa<|x (QD (i:=from0) O O hf)<|ZA hJ O hU<|x (Zh O)<|xe<|Zz O<|Qf<|Qc<|QY (h4.I hy) O O<|Qw<|(Qa6 (hH.I hy) hn hz (λe T=>⟨(J.ed e T).1,(J.ed e T).2.1⟩)).Y ?_;rintro r8 w8 ⟨Y,bF,rfl,gc,hV⟩;have hK:=hy.D Y;have ge:=Y.size;refine Qa<|x (Zl (l:=[]) (l':=[_]))<|x (Zl (l:=[]) (l':=[_]))<|Qo<|xg <|
   (QjZ (wt:=λs=>decide (s∈tg)) (pm:=λe=>decide (e.2.2∈wi)) (cw:=[sP b16]) (cp:=[sP b15]) (gw:=200) (gp:=201) (hH.I hK) hn oa (λe T=>oo (J.ed e T).2.2.2) J.eds hV hf
    (λs w' h0 h1 hp=>Qi5 ((hS.I Y).I hp) ((hT.I Y).I hp) h0 h1) (λe w' T hp=>Qi4 ((hI.I Y).I hp) ((hJ.I Y).I hp) (oo (J.ed e T).2.2.2) (oo (J.ed e T).2.2.2))).Y ?_
  rintro r9 w9 ⟨hW,v,rfl,hv⟩;refine Qa<|QL O O<|QL O O<|x Qd<|Qb<|Ql<|Qa<|x Qd<|x Qd<|Qb<|Qj ⟨[_,_,_],ox,hg.D (hK.D hW),v,O,Q8 hv oa⟩
 refine Qf ?_;have hX:k<2:=by have gg:(k:Int)<2:=hG;omega
 have hY:∃u l,[vt,vi][k]?=some u/\Qt [] ↑w u l/\Jn a.st none l=0:=by
  rcases k with _|k
  ·exact⟨vt,tg,O,ht,h6⟩
  have:k=0:=oa
  subst this;exact⟨vi,wi,O,hi,h7⟩
 refine Exists.elim hY λu hu=>Exists.elim hu λl hl=>?_;refine Qe<|Qn<|Qc<|x (QaX (i:=k) (cs:=[vt,vi]) O O hX hl.1)<|Qb<|Qc<|QY (h3.I ha) O O<|Qa<|Qw<|(zL (va:=va) (vm:=vm) (ve:=ve) (a:=a) ((hl.2.1.I hD).I ha)).Y ?_;rintro r5 w5 ⟨rfl,I⟩;refine Qb<|Ql<|ZI O O<|xe<|Za rfl (λhL=>OS hl.2.2 hL) (λhL=>?_);refine Qf<|Qs<|QC O O<|Qa<|xe ?_;exact⟨k+1,oa,La,oa,ha.D I⟩
theorem QjP [hm:Mp P t kt et (sS 0)][hk:jk P kt Yg]{x:OZ}{b:Nat}{s:QF}{q v:Int}(h:ZP Yg ↑w b (Kl [] s.ed))
  (E:s.ed.Pairwise λx y=>x.1<y.1\/(x.1=y.1/\x.2.1<y.2.1)) (hx:ev f x=.map (some b)) (G:ev f y=Yg (q,v)):
  (execOp (ev f) ⟨d,.lookup t x y true,ty,pS,af,gd⟩).run P w=.ok (.value (.tuple #[sS ((O9 s.ed q v).getD 0),.bool (decide ((O9 s.ed q v).isSome=true))])) w:=by
 rw[Kx h hx G,UC s.ed [] q v E];cases O9 s.ed q v <;> rfl
theorem Qc4 {n:Int}(E:∀x∈l,0<=x/\x<n)(G:YN l):Jn n none l=0:=(YS n l none).2 ⟨E,G,λy I=>by cases I⟩
structure Vs where
 x:Int
 y:Int
 b:Int
 v:Int
def Vs.ky (p:Vs):Int×Int:=(p.x,p.y)
def yN (a b:QF)(i:Nat)(p:Vs)(v:Int):Vs:=⟨O8 a.ed p.x v,O8 b.ed p.y v,(i:Int),v⟩
def zb (a:QF)(kd x:Int):Bool:=decide (0<=x) && (decide (kd=1) || decide (x∈a.mr))
def lgC (a b:QF)(kd:Int)(p:Vs):Bool:=!(zb a kd p.x == zb b kd p.y)
def lgA (a b:QF)(i:Nat)(p:Vs)(V:List Vs)(v:Int):List Vs:=if(yN a b i p v).ky≠(-1,-1)/\(yN a b i p v).ky∉V.map Vs.ky then V++[yN a b i p v]else V
def vs0:Vs:=⟨-1,-1,-1,0⟩
def gV (V:List Vs)(k:Nat):Vs:=V.getD k vs0
def lgW (V:List Vs):Nat->Nat->LI
 | 0,_=>[]
 | f+1,k=>if 0<=(gV V k).b then(gV V k).v::lgW V f (gV V k).b.toNat else[]
def lgL (a b:QF)(kd:Int)(al:LI):Nat->Nat->List Vs->Option (LI)
 | 0,_,_=>none
 | f+1,i,V=>if i<V.length then(if lgC a b kd (gV V i)=true then some (lgW V (i+1) i).reverse else lgL a b kd al f (i+1) (al.foldl (lgA a b i (gV V i)) V))else none
def fst (a:QF):Int:=if a.st=0 then -1 else 0
def lgq (a b:QF)(kd:Int):Option (LI):=lgL a b kd (mrg (· || ·) a.al b.al) ((a.st.toNat+1)*(b.st.toNat+1)+1) 0 [⟨fst a,fst b,-1,0⟩]
def lgE (a b:QF)(kd:Int):Int:=if XK a≠0 then XK a else if XK b≠0 then XK b else if kd≠1/\kd≠2 then 11 else 0
def cdA (c:Yl):QF:=jo (tgA c) [] (unc c.ev)
def ccA (c:Yl):QF:=Kq [tgA c,cdA c]
def own (c:Yl)(k:Bool):QF:=if k=true then ccA c else tgA c
abbrev Zg (p:Int×Int):LV:=[sS p.1,sS p.2]
theorem XH (p:Int×Int):(Zg p).length=2:=rfl
abbrev P2s (L:LN)(H:xw)(v:OY)(l:xq):Prop:=Zs L H v l.length 2 (l.flatMap Zg)
abbrev Zv (e:KX):LV:=[.string e.nm,.bool e.co,.bool e.ob,.bool e.fo,sS e.fl]
theorem Qad (e:KX):(Zv e).length=5:=rfl
abbrev z7 (s:ByteArray):Prop:=s.size<=9223372036854775807
structure UN (L:LN)(H:xw)(v:OY)(l:List KX):Prop where
 arr:Zs L H v l.length 5 (l.flatMap Zv)
 nm:∀e∈l,z7 e.nm
theorem UN.I {L:LN}{w w':OX}{v:OY}{l:List KX}(h:UN L ↑w v l)(E:sW w w'):UN L ↑w' v l:=⟨h.arr.I E,h.nm⟩
theorem UN.st {L:LN}{w w':OX}{v:OY}{l:List KX}(h:UN L ↑w v l)(E:O1 L w w'):UN L ↑w' v l:=⟨h.arr.st E,h.nm⟩
theorem UN.up {L L':LN}{H:xw}{v:OY}{l:List KX}(h:UN L H v l)(E:∀b∈L',b∈L\/H.size<=b):UN L' H v l:=⟨h.arr.up E,h.nm⟩
structure IV where
 nm:ByteArray
 p:AV
def IV.it (q:IV):Kp:=⟨q.nm,q.p.a⟩
abbrev Zm (q:IV):LV:=[.string q.nm,q.p.va,sS q.p.a.st,q.p.vm,q.p.ve]
theorem Uw (q:IV):(Zm q).length=5:=rfl
structure KM (L:LN)(H:xw)(v:OY)(qs:List IV):Prop where
 arr:Zs L H v qs.length 5 (qs.flatMap Zm)
 each:∀q∈qs,Zr L H q.p.va q.p.vm q.p.ve q.p.a
 nm:∀q∈qs,z7 q.nm
structure XV where
 nm:ByteArray
 v:OY
 ls:xq
def XV.x (q:XV):Exc:=⟨q.nm,q.ls⟩
abbrev ZY (q:XV):LV:=[.string q.nm,q.v]
theorem qA (q:XV):(ZY q).length=2:=rfl
structure yi (L:LN)(H:xw)(v:OY)(qs:List XV):Prop where
 arr:Zs L H v qs.length 2 (qs.flatMap ZY)
 each:∀q∈qs,P2s L H q.v q.ls
 nm:∀q∈qs,z7 q.nm
structure KV where
 nm:ByteArray
 v:OY
 ts:xq
 bd:Int
def KV.k (q:KV):xG:=⟨q.nm,q.ts,q.bd⟩
abbrev Yb (q:KV):LV:=[.string q.nm,q.v,sS q.bd]
theorem zg (q:KV):(Yb q).length=3:=rfl
structure zY (L:LN)(H:xw)(v:OY)(qs:List KV):Prop where
 arr:Zs L H v qs.length 3 (qs.flatMap Yb)
 each:∀q∈qs,P2s L H q.v q.ts
 nm:∀q∈qs,z7 q.nm
theorem KM.I {L:LN}{w w':OX}{v:OY}{qs:List IV}(h:KM L ↑w v qs)(E:sW w w'):KM L ↑w' v qs:=⟨h.arr.I E,λq G=>(h.each q G).I E,h.nm⟩
theorem KM.st {L:LN}{w w':OX}{v:OY}{qs:List IV}(h:KM L ↑w v qs)(E:O1 L w w'):KM L ↑w' v qs:=⟨h.arr.st E,λq G=>(h.each q G).st E,h.nm⟩
theorem KM.up {L L':LN}{H:xw}{v:OY}{qs:List IV}(h:KM L H v qs)(E:∀b∈L',b∈L\/H.size<=b):KM L' H v qs:=⟨h.arr.up E,λq G=>(h.each q G).up E,h.nm⟩
theorem yi.I {L:LN}{w w':OX}{v:OY}{qs:List XV}(h:yi L ↑w v qs)(E:sW w w'):yi L ↑w' v qs:=⟨h.arr.I E,λq G=>(h.each q G).I E,h.nm⟩
theorem yi.st {L:LN}{w w':OX}{v:OY}{qs:List XV}(h:yi L ↑w v qs)(E:O1 L w w'):yi L ↑w' v qs:=⟨h.arr.st E,λq G=>(h.each q G).st E,h.nm⟩
theorem yi.up {L L':LN}{H:xw}{v:OY}{qs:List XV}(h:yi L H v qs)(E:∀b∈L',b∈L\/H.size<=b):yi L' H v qs:=⟨h.arr.up E,λq G=>(h.each q G).up E,h.nm⟩
theorem zY.I {L:LN}{w w':OX}{v:OY}{qs:List KV}(h:zY L ↑w v qs)(E:sW w w'):zY L ↑w' v qs:=⟨h.arr.I E,λq G=>(h.each q G).I E,h.nm⟩
theorem zY.st {L:LN}{w w':OX}{v:OY}{qs:List KV}(h:zY L ↑w v qs)(E:O1 L w w'):zY L ↑w' v qs:=⟨h.arr.st E,λq G=>(h.each q G).st E,h.nm⟩
theorem zY.up {L L':LN}{H:xw}{v:OY}{qs:List KV}(h:zY L H v qs)(E:∀b∈L',b∈L\/H.size<=b):zY L' H v qs:=⟨h.arr.up E,λq G=>(h.each q G).up E,h.nm⟩
structure CL where
 ve:OY
 vc:OY
 vr:OY
 vx:OY
 vk:OY
 ev:List KX
 co:List IV
 rq:List IV
 ex:List XV
 cs:List KV
def CL.V (c:CL):Yl:=⟨c.ev,c.co.map (·.it),c.rq.map (·.it),c.ex.map (·.x),c.cs.map (·.k)⟩
abbrev CL.cells (c:CL):LV:=[c.ve,c.vc,c.vr,c.vx,c.vk]
abbrev CL.val (c:CL):OY:=.agg #[c.ve,c.vc,c.vr,c.vx,c.vk]
structure ZV (L:LN)(H:xw)(c:CL):Prop where
 ev:UN L H c.ve c.ev
 co:KM L H c.vc c.co
 rq:KM L H c.vr c.rq
 ex:yi L H c.vx c.ex
 cs:zY L H c.vk c.cs
theorem ZV.I {L:LN}{w w':OX}{c:CL}(h:ZV L ↑w c)(E:sW w w'):ZV L ↑w' c:=⟨h.ev.I E,h.co.I E,h.rq.I E,h.ex.I E,h.cs.I E⟩
theorem ZV.st {L:LN}{w w':OX}{c:CL}(h:ZV L ↑w c)(E:O1 L w w'):ZV L ↑w' c:=⟨h.ev.st E,h.co.st E,h.rq.st E,h.ex.st E,h.cs.st E⟩
theorem ZV.up {L L':LN}{H:xw}{c:CL}(h:ZV L H c)(E:∀b∈L',b∈L\/H.size<=b):ZV L' H c:=⟨h.ev.up E,h.co.up E,h.rq.up E,h.ex.up E,h.cs.up E⟩
theorem ZV.ones {H:xw}{c:CL}(h:ZV L H c):ZH c.cells:=⟨h.ev.arr.one,h.co.arr.one,h.rq.arr.one,h.ex.arr.one,h.cs.arr.one,Z⟩
def ym (N:Nat)(H:xw)(v:OY)(k:Yl):Prop:=∃c:CL,v=c.val/\c.V=k/\∀L:LN,(∀b∈L,b<N)->ZV L H c
theorem ym.Y {H:xw}{v:OY}{k:Yl}(h:ym N H v k)(E:M<=N):ym M H v k:=let⟨c,G,I,J⟩:=h;⟨c,G,I,λL S=>J L (λb hb=>LP (S b hb) E)⟩
theorem UM (s:ByteArray)(ha:z7 s)(w:OX):QT sV 172 [.string s] w λr w'=>r=.bool (Xn s)/\w'=w:=by
 unfold z7 at ha;refine Zn func172 ?_;refine Qc<|Qb<|Qe<|Ql<|x (Qcw O)<|Qa<|xe<|QW (α:=Nat) [(2,5),(8,46)] (λz=>[(8,sS z)]) (λz w'=>w'=w/\z<=s.size/\(oN z (s.size - z)).all (nmQ s)=(oN 0 s.size).all (nmQ s)) (λz=>s.size - z) 0 La ⟨O,Ln _,by rw[OK]⟩ ?_;rintro k g w1 ⟨rfl,hk,E⟩;refine Zi rfl O (λG=>?_) (λG=>?_)
 ·refine Qu ?_;have he:s.size<=k:=by have hf:¬(k:Int)<(s.size:Int):=G;omega
  rw[QjM he]at E;have I:Xn s=decide (0<s.size/\s.size<=32):=by unfold Xn;rw[<-E];simp
  rw[I];refine QV (α:=Bool) [(2,2),(47,54)] (λz=>[(2,.bool z)]) (λz w'=>w'=w1/\z=decide (0<s.size/\s.size<=32)) oh ?_ ?_
  ·refine Qs<|Qa<|x (Qcw O)<|xb (Z2 O O) (λhg=>?_) (λhg=>?_)
   ·refine Qa<|Qa<|x (Qcw O)<|x (Ja O O)<|QA O<|Qb<|⟨_,La,O,by first|exact bT oa|exact bF oa|exact bD oa⟩
   refine Qa<|Zy<|QA O<|Qb<|⟨_,La,O,by first|exact bT oa|exact bF oa|exact bD oa⟩
  rintro z g w2 ⟨rfl,rfl⟩;exact Qj ⟨[_],La,O,O⟩
 have J:k<s.size:=by have hf:(k:Int)<(s.size:Int):=G;omega
 rw[QgA J,Mz]at E;refine Qf<|Qe<|Qn<|Ql<|Qb<|Ql<|Qa<|x (QgM (i:=k) O O J)<|Qb ?_;have S:nmQ s k=decide (nmP k (chr s k)):=rfl;refine Zf (chr s k) λc T=>?_;rw[T]at S;refine QV (α:=Bool) [(5,5),(14,31)] (λz=>[(5,.bool z)]) (λz w'=>w'=w1/\z=decide ((97<=c/\c<=122)\/(65<=c/\c<=90)\/c=95)) oh ?_ ?_
 ·rw[<-T];refine Qs<|Qa<|xb (Yd O O) (λhh=>?_) (λhh=>?_)
  ·refine Qa<|Qa<|xb (Ja O O) (λhj=>?_) (λhj=>?_)
   ·refine QA O<|Qa<|Zy<|Zy<|QA O<|Qa<|YD<|x (Ul O) <|
     Qb<|⟨_,La,O,by first|exact bT oa|exact bF oa|exact bD oa⟩
   refine QA O<|Qa<|Qa<|xb (Yd O O) (λU=>?_) (λU=>?_)
   ·refine Qa<|Qa<|xb (Ja O O) (λV=>?_) (λV=>?_)
    ·refine QA O<|QA O<|Qa<|YD<|QA O<|Qb<|⟨_,La,O,by first|exact bT oa|exact bF oa|exact bD oa⟩
    refine QA O<|QA O<|Qa<|Qa<|x (Q6 O O)<|QA O<|Qb<|⟨_,La,O,by first|exact bT oa|exact bF oa|exact bD oa⟩
   refine Qa<|YD<|QA O<|QA O<|Qa<|Qa<|x (Q6 O O)<|QA O<|x Qd <|
    xe ?_
   exact⟨_,La,O,by first|exact bT oa|exact bF oa|exact bD oa⟩
  refine Qa<|YD<|QA O<|Qa<|Qa<|xb (Yd O O) (λU=>?_) (λU=>?_)
  ·refine Qa<|Qa<|xb (Ja O O) (λV=>?_) (λV=>?_)
   ·refine QA O<|QA O<|Qa<|YD<|QA O<|Qb<|⟨_,La,O,by first|exact bT oa|exact bF oa|exact bD oa⟩
   refine QA O<|QA O<|Qa<|Qa<|x (Q6 O O)<|QA O<|Qb<|⟨_,La,O,by first|exact bT oa|exact bF oa|exact bD oa⟩
  refine Qa<|YD<|QA O<|QA O<|Qa<|Qa<|x (Q6 O O)<|QA O<|x Qd <|
   xe ?_
  exact⟨_,La,O,by first|exact bT oa|exact bF oa|exact bD oa⟩
 rintro z g w4 ⟨rfl,rfl⟩;refine QV (α:=Bool) [(32,45)] (λz=>[(45,.bool z)]) (λz w'=>w'=w4/\z=decide (¬nmP k c)) oh ?_ ?_
 ·unfold nmP;rw[<-T];refine Qs<|Qa<|xb (qR O) (λhl=>?_) (λhl=>?_)
  ·refine Qa<|Qa<|xb (Q6 O O) (λhm=>?_) (λhm=>?_)
   ·refine Qa<|YD<|QA O<|Qa<|YD<|QA O<|QA O<|xe ?_;exact⟨_,La,O,by first|exact bT oa|exact bF oa|exact bD oa⟩
   refine Qa<|Qa<|xb (Yw O O) (λhn=>?_) (λhn=>?_)
   ·refine QA O<|Qa<|YD<|QA O<|QA O<|xe ?_;exact⟨_,La,O,by first|exact bT oa|exact bF oa|exact bD oa⟩
   refine QA O<|Qa<|Qa<|x (Z2 O O)<|QA O<|QA O<|xe ?_;exact⟨_,La,O,by first|exact bT oa|exact bF oa|exact bD oa⟩
  refine Qa<|Zy<|Zy<|Zy<|J0<|QA O<|xe ?_;exact⟨_,La,O,by first|exact bT oa|exact bF oa|exact bD oa⟩
 rintro z g w5 ⟨rfl,rfl⟩;refine Za rfl (λY=>?_) (λY=>?_)
 ·refine Qc<|Qb ?_;have I:Xn s=false:=by
   unfold Xn;rw[<-E,S,OV Y];rfl
  exact Qj ⟨[_],La,by rw[I];rfl,O⟩
 refine Qf ?_;have ho:nmP k c:=Lr.1 Y;refine Qs<|QC O O<|Qa<|xe ?_;rw[S,OT ho,Ns]at E;exact⟨k+1,oa,La,O,J,E⟩
def nmM (l:List ByteArray):List (ByteArray×OY):=l.map λs=>(s,.bool true)
theorem Qkf (l:List ByteArray)(s:ByteArray):O6 (nmM l) s=if s∈l then some (.bool true)else none:=by
 induction l with
 | nil=>rfl
 | cons a l ih =>
  show(if a=s then some (Value.bool true)else O6 (nmM l) s)=_
  rw[ih];by_cases h:a=s
  ·subst h;simp
  have:s≠a:=λe=>h e.symm;simp[h,this]
theorem Qd3 {l:List ByteArray}{s:ByteArray}(h:s∉l):O7 (nmM l) s (.bool true)=nmM (l++[s]):=by
 induction l with
 | nil=>rfl
 | cons a l ih =>
  have E:a≠s:=λe=>h (by subst e;exact Lo);show(if a=s then(a,Value.bool true)::nmM l else(a,Value.bool true)::O7 (nmM l) s (.bool true))=_
  rw[OP E,ih (λG=>h (Lm _ G))];rfl
theorem QaW [hm:Mp P t kt et (.bool false)][hk:jk P kt Xj]{x:OZ}{b:Nat}{l:List ByteArray}{s:ByteArray}(h:ZP Xj ↑w b (nmM l))(hx:ev f x=.map (some b))(E:ev f y=.string s):
  (execOp (ev f) ⟨d,.lookup t x y false,ty,pS,af,gd⟩).run P w=.ok (.value (.bool (decide (s∈l)))) w:=by
 rw[X1 h hx E,Qkf];by_cases G:s∈l <;> simp[G]
theorem Qc6 {s:List ByteArray}{l:List KX}{k:Nat}(h:k<l.length):UV s (l.drop k)=if XM s (l[k]'h)≠0 then XM s (l[k]'h)else UV (s++[(l[k]'h).nm]) (l.drop (k+1)):=by
 rw[QX h];rfl
theorem zw {v:OY}{l:List KX}(h:UN L ↑w v l):QT sV 110 [v] w λr w'=>r=sS (Xr l)/\sW w w':=by
 have h3:=h.arr.le;refine Zn func110 ?_;refine Qc<|Qb<|Qe<|Ql<|QG h.arr O<|x (Z2 O O)<|xe<|Za rfl (λh8=>?_) (λh8=>?_)
 ·refine Qc<|Qb<|Qj ⟨[_],La,by unfold Xr;rw[OQ (by have h9:(32:Int)<(l.length:Int):=h8;omega)];rfl,O1.Z _ _⟩
 have hck:Xr l=UV [] l:=by unfold Xr;rw[OP (by have h9:¬(32:Int)<(l.length:Int):=h8;omega)]
 rw[hck];refine Qf<|Qc<|Qo<|ZU Xj λb9 w1 hj hp hq=>Qb<|Qe<|Ql<|QG (h.arr.I hj) O<|Qa<|xe<|QW (α:=Nat×List ByteArray) [(2,2),(5,5),(12,50)] (λz=>[(12,sS z.1)]) (λz w'=>z.1<=l.length/\sW w w'/\ZP Xj ↑w' b9 (nmM z.2)/\UV z.2 (l.drop z.1)=UV [] l) (λz=>l.length - z.1) (0,[]) La
  ⟨Ln _,hj,hq,O⟩ ?_
 rintro⟨k,sn⟩ g w2 ⟨hk,J,hr,G⟩;refine Zi rfl O (λhc=>?_) (λhc=>?_)
 ·refine Qu ?_;have hs:l.length<=k:=by have ht:¬(k:Int)<(l.length:Int):=hc;omega
  rw[Ls hs]at G;refine Qc<|Qb<|Qj ⟨[_],La,by rw[<-G];rfl,J⟩
 have V:k<l.length:=by have ht:(k:Int)<(l.length:Int):=hc;omega
 rw[Qc6 V]at G;have hl:=h.nm _ (Lk V);refine Qf<|Qe<|Qn<|Qc<|O4 Qad (h.arr.I J) O O V λh4 hm=>?_;refine Zf (l[k]'V) λe he=>?_;rw[he]at hm G hl;refine x (QE hm O O)<|QP [.string .empty,.bool false,.bool false,.bool false,sS 0] λb5 w3 hu hv I=>Q0 (Zv e) I ⟨O,O,O,O,O,Z⟩ λw4 hw I =>
  xe ?_
 have S:sW w2 w4:=hu.O hw hv;have ho:=hr.I S;refine Qe<|Qn<|Qc<|Qr O I O O<|Qw<|(UM e.nm hl _).Y ?_;rintro r5 w5 ⟨rfl,rfl⟩;refine x (Zh O)<|Qb<|Q9 O (λhf=>?_) (λhf=>?_)
 ·have T:Xn e.nm=false:=by simpa using hf
  have E:XM sn e=7:=by unfold XM;rw[OQ T]
  refine Qc<|Qb<|Qj ⟨[_],La,by rw[<-G,E];rfl,J.D S⟩
 have T:¬Xn e.nm=false:=by simpa using hf
 refine Ql<|Qr O I O O<|x (QaW ho O O)<|Qb<|Za O (λU=>?_) (λU=>?_)
 ·have E:XM sn e=8:=by unfold XM;rw[OP T,OQ U]
  refine Qc<|Qb<|Qj ⟨[_],La,by rw[<-G,E];rfl,J.D S⟩
 refine QV (α:=Bool) [(26,34)] (λz=>[(26,.bool z)]) (λz w'=>w'=w5/\z=decide (e.fl<0\/4<e.fl)) oh ?_ ?_
 ·refine Qs<|Qr O I O O<|xb (Yw O O) (λhy=>?_) (λhy=>?_)
  ·refine Qa<|Zy<|QA O<|Qb<|⟨_,La,O,by first|exact bT oa|exact bF oa|exact bD oa⟩
  refine Qa<|Qr O I O O<|x (Z2 O O)<|QA O<|Qb<|⟨_,La,O,by first|exact bT oa|exact bF oa|exact bD oa⟩
 rintro z g w6 ⟨rfl,rfl⟩;refine Za rfl (λY=>?_) (λY=>?_)
 ·have E:XM sn e=2:=by unfold XM;rw[OP T,OP U,OQ Y]
  refine Qc<|Qb<|Qj ⟨[_],La,by rw[<-G,E];rfl,J.D S⟩
 refine QV (α:=Bool) [(35,46)] (λz=>[(35,.bool z)]) (λz w'=>w'=w6/\z=decide (e.fl≠0/\(e.co || e.ob)=true)) oh ?_ ?_
 ·refine Qs<|Qr O I O O<|xb (Kw O O) (λha=>?_) (λha=>?_)
  ·refine Qa<|Q7 O<|xB (Qk I O O) (λhg=>?_) (λhg=>?_)
   ·refine Qa<|YD<|QA O<|QA O<|Qb<|⟨_,La,O,by rw[hg,OT ⟨ha,od⟩]⟩
   refine Qa<|Qr O I O O<|QA O<|QA O<|Qb<|⟨_,La,O,?_⟩;show e.ob=_;rw[hg];cases e.ob <;> simp[show ¬e.fl=0 from ha]
  refine Qa<|Zy<|Zy<|QA O<|Qb<|⟨_,La,O,bF (λE=>ha E.1)⟩
 rintro z g w7 ⟨rfl,rfl⟩;refine Za rfl (λhh=>?_) (λhh=>?_)
 ·have E:XM sn e=13:=by unfold XM;rw[OP T,OP U,OP Y,OQ hh]
  refine Qc<|Qb<|Qj ⟨[_],La,by rw[<-G,E];rfl,J.D S⟩
 have E:XM sn e=0:=by unfold XM;rw[OP T,OP U,OP Y,OP hh]
 rw[E,OP (λh=>h rfl)]at G;refine Qf<|Qs<|Qa<|Qr O I O O<|Qo<|YF (k:=e.nm) ho O O λw8 hz h0=>xe ?_;refine Qs<|QC O O<|Qa<|xe ?_;have h2:ZP Xj ↑w8 b9 (nmM (sn++[e.nm])):=by rw[<-Qd3 U];exact h0
 exact⟨(k+1,sn++[e.nm]),oe,La,V,(J.D S).O hz hp,h2,G⟩
theorem Qbf {α:Type}(q:α->Bool)(x:α):∀(l:List α) (i:Nat),ixs q i (l++[x])=ixs q i l++if q x=true then[((i+l.length:Nat):Int)]else[]
 | [],i=>by simp[ixs]
 | a::l,i=>by
  simp only[o0,ixs,(Qbf q x l (i+1)),oQ];rw[show i+1+l.length=i+(l.length+1) by omega];split <;> simp
theorem jV {α:Type}(q:α->Bool):∀(l:List α) (i:Nat),(ixs q i l).length<=l.length
 | [],i=>by simp[ixs]
 | a::l,i=>by
  have ih:=jV q l (i+1);unfold ixs;split <;> simp <;> omega
theorem QhH (q:α->Bool){l:List α}{k:Nat}(h:k<l.length):ixs q 0 (l.take (k+1))=ixs q 0 (l.take k)++if q (l[k]'h)=true then[(k:Int)]else[]:=by
 rw[Lh h,Qbf];simp[Nat.min_eq_left (Nat.le_of_lt h)]
theorem QfA [Fu sV g fn]{q:KX->Bool}(hq:∀(e:KX) (w:OX),QT sV g [sT (Zv e)] w λr w'=>r=.bool (q e)/\sW w w'){v:OY}{l:List KX}(h:UN L ↑w v l):
  QT sV 195 [v,.func (.func g) #[] #[]] w λr w'=>sW w w'/\Qh 3 ↑w w' r (ixs q 0 l):=by
 have ht:=h.arr.le;refine Zn func195 ?_;refine Qc<|Qb<|Qc<|Qb<|Qe<|Ql<|QG h.arr O<|Qa<|xe<|QW (α:=Nat×OY) [(5,7),(10,22)] (λz=>[(5,z.2),(10,sS z.1)]) (λz w'=>z.1<=l.length/\sW w w'/\Qh 3 ↑w w' z.2 (ixs q 0 (l.take z.1))) (λz=>l.length - z.1) (0,nS) ov
  ⟨Ln _,O1.Z _ _,QM _ _ _ _⟩ ?_
 rintro⟨k,vo⟩ g w1 ⟨hk,E,J⟩;simp only[]at hk J;refine Zi rfl O (λT=>?_) (λT=>?_)
 ·refine Qu ?_;have hf:l.length<=k:=by have hg:¬(k:Int)<(l.length:Int):=T;omega
  rw[Lq hf]at J;refine Ql<|Qb<|Qj ⟨[_],La,E,J⟩
 have G:k<l.length:=by have hg:(k:Int)<(l.length:Int):=T;omega
 have I:=QhH q G;have hu:=jV q (l.take k) 0;have hv:(l.take k).length=k:=by simp;omega
 refine Qf<|Qe<|Qn<|Ql<|O4 Qad (h.arr.I E) O O G λhw hc=>?_;refine Zf (l[k]'G) λe he=>?_;rw[he]at hc I;refine x (QE hc O O)<|QP [.string .empty,.bool false,.bool false,.bool false,sS 0] λb7 w2 hh hj U=>x Qd <|
  Q0 (Zv e) U ⟨O,O,O,O,O,Z⟩ λw3 hl U=>xe ?_
 have hm:sW w1 w3:=hh.O hl hj;refine Ql<|QY U O O<|Qo<|xc (first:=[]) (capt:=[]) O<|(hq e w3).Y ?_;rintro r4 w4 ⟨rfl,hn⟩;have S:=hm.D hn;have V:=Qm J S;have hy:=(E.D S).size;refine xe<|Q9 rfl (λY=>?_) (λY=>?_)
 ·rw[OQ Y]at I;refine Qs<|Qa<|Qa<|Qo<|Q5 [[sS k]] λhz w5 ha h0 ho=>?_;have hp:=Qm V ha;have h1:=ha.size;refine Qo<|Q2 (news:=[sS k]) (L:=[]) hp O O O (ho.at od) om oa oa λv6 w6 hr hs h2 =>
   Qb<|Qs<|QC O O<|Qa<|xe ?_
  refine⟨(k+1,v6),oe,ov,G,((E.D S).D ha).S hs (λb hb=>.inr ((Qi V) b hb).1),?_⟩;simp only[];rw[I];exact Qh.snoc hr
 rw[OP (by rw[Y];decide),LH]at I;refine Qf<|Qs<|QC O O<|Qa<|xe ?_;exact⟨(k+1,vo),oe,ov,G,E.D S,by simp only[];rw[I];exact V⟩
theorem Qdi (e:KX)(w:OX):QT sV 190 [sT (Zv e)] w λr w'=>r=.bool (!e.co)/\sW w w':=by
 refine Zn func190 ?_;refine Qc<|Zd (Zv e) λI J E S G=>Qb<|Qc<|Qr O G O O<|x (Zh O)<|Qb<|Qj ⟨[_],La,O,E⟩
theorem jh {v:OY}{l:List KX}(h:UN L ↑w v l):QT sV 123 [v,sS 2] w λr w'=>sW w w' /\
  ∃vo,r=.tuple #[vo,sS (Xr l)]/\Qh 3 ↑w w' vo (if Xr l=0 then unc l else[]):=by
 refine Zn func123 ?_;refine Qc<|x Qd<|Qb<|Qe<|Ql<|Qw<|(zw h).Y ?_;rintro r1 T ⟨rfl,J⟩;refine Qb<|Ql<|ZI O O<|xe<|Za rfl (λG=>?_) (λG=>?_)
 ·refine Ql<|x Qd<|Qb<|Qj ⟨[_,_],ov,J,_,O,by rw[OP G];exact QM _ _ _ _⟩
 have S:Xr l=0:=Lr.1 G;refine Qf<|Qc<|Qo<|ZU Xm λb15 w2 U E V=>Qo<|Yn (k:=1) V O O λw3 Y ha=>Qo<|Yn (k:=2) ha O O λw4 hc he =>
  Qo<|Yn (k:=3) he O O λw5 hf hg=>Qo<|Yn (k:=4) hg O O λw6 hh hj=>Qo<|Yn (k:=5) hj O O λw7 hk hl=>Qo<|Yn (k:=6) hl O O λw8 hm hn =>
  Qa<|Qb ?_
 have ho:sW T w8:=(((((U.O Y E).O hc E).O hf E).O hh E).O hk E).O hm E;refine Ql<|Qa<|x (Un (k:=(2:Int)) hn O O O)<|Qa<|QL O O<|QL O O<|x Qd<|Qb<|Qe<|Ql<|x (Zh O)<|xe<|Zz rfl<|Qf ?_;have I:=J.D ho;refine Ql<|Qa<|Qw<|(QfA Qdi (h.I I)).Y ?_;rintro r9 w9 ⟨hp,hq⟩;refine x Qd<|Qb<|Qj ⟨[_,_],ov,I.D hp,_,by rw[S];rfl,?_⟩;rw[OQ S];exact Q8 hq I.size
theorem Qbi (n:Int)(w:OX):QT sV 242 [sS n] w λr w'=>r=.bool (grt n)/\w'=w:=by
 refine Zn func242 ?_;refine Qc<|Qb<|QV (α:=Bool) [(2,8)] (λz=>[(2,.bool z)]) (λz w'=>w'=w/\z=grt n) oh ?_ ?_
 ·refine Qs<|Qa<|xb (Yw O O) (λE=>?_) (λE=>?_)
  ·refine Qa<|YD<|QA O<|Qb<|⟨_,La,O,by unfold grt;rw[OT E];rfl⟩
  refine Qa<|Qa<|x (Z2 O O)<|QA O<|Qb<|⟨_,La,O,by unfold grt;rw[OV E];rfl⟩
 rintro z g G ⟨rfl,rfl⟩;exact Qj ⟨[_],La,O,O⟩
theorem Qc5 {sz:LI}{ls:xq}{k:Nat}(h:k<ls.length):XD sz (pv (ls.map (·.1)) k) (ls.drop k)=if(ls[k]'h).1<0\/(sz.length:Int)<=(ls[k]'h).1 then 2 else if zd (pv (ls.map (·.1)) k) (ls[k]'h).1=true then 5 else if(ls[k]'h).2<0\/O2 sz (ls[k]'h).1.toNat<=(ls[k]'h).2 then 2 else XD sz (pv (ls.map (·.1)) (k+1)) (ls.drop (k+1)):=by
 rw[QX h,J3 (ou h),Na];rfl
theorem V3 {sz:LI}{ls:xq}{nm:ByteArray}(hS:Qt [] ↑w vs sz)(S:P2s [] ↑w vl ls):
  QT sV 177 [.agg #[vs,vx,vk],.agg #[.string nm,vl]] w λr w'=>r=sS (Km sz ls)/\sW w w':=by
 have hI:=S.le;refine Zn func177 ?_;refine Qc<|Zd [vs,vx,vk] λb2 w1 h1 hJ Y=>Zd [.string nm,vl] λb3 w2 hs hK ha=>Qb ?_;have G:=h1.D hs
 replace Y:=Y.I hs;refine Qe<|Qc<|Qr O ha O O<|QG (S.I G) O<|x (Q6 O O)<|xe<|Za rfl (λhf=>?_) (λhf=>?_)
 ·refine Qc<|Qb<|Qj ⟨[_],La,by unfold Km;rw[OQ (by have h2:(ls.length:Int)=0:=hf;omega)];rfl,G⟩
 have h3:ls.length≠0:=by have h2:¬(ls.length:Int)=0:=hf;omega
 have h4:Km sz ls=XD sz none ls:=by unfold Km;rw[OP h3]
 rw[h4];refine Qf<|Qe<|Qc<|Qr O ha O O<|QG (S.I G) O<|Qa<|xe<|QW (α:=Nat) [(4,6),(14,61)] (λz=>[(14,sS z)]) (λz w'=>z<=ls.length/\sW w2 w'/\XD sz (pv (ls.map (·.1)) z) (ls.drop z)=XD sz none ls) (λz=>ls.length - z) 0 La
  ⟨Ln _,O1.Z _ _,O⟩ ?_
 rintro k g w3 ⟨hk,T,hck⟩;have hg:=G.D T;have ht:=Y.I T;have hu:=S.I hg;have hv:=hS.I hg;refine Zi rfl O (λhh=>?_) (λhh=>?_)
 ·refine Qu ?_;have h5:ls.length<=k:=by have h6:¬(k:Int)<(ls.length:Int):=hh;omega
  rw[Ls h5]at hck;refine Qc<|Qb<|Qj ⟨[_],La,by rw[<-hck];rfl,hg⟩
 have U:k<ls.length:=by have h6:(k:Int)<(ls.length:Int):=hh;omega
 rw[Qc5 U]at hck;refine Qf<|Qe<|Qn<|Ql<|O4 XH hu O O U λhL hw=>?_;refine Zf (ls[k]'U) λe he=>?_;rw[he]at hw hck;refine x (QE hw O O)<|QP [sS 0,sS 0] λb6 w4 h7 h8 J=>x Qd<|Q0 (Zg e) J ov λw5 h9 J=>xe ?_;have I:sW w3 w5:=h7.O h9 h8;have hy:=T.D I;refine Qn<|QV (α:=Bool) [(19,30)] (λz=>[(19,.bool z)]) (λz w'=>w'=w5/\z=decide (e.1<0\/(sz.length:Int)<=e.1)) oh ?_ ?_
 ·refine Qs<|Qr O J O O<|xb (Yw O O) (λhA=>?_) (λhA=>?_)
  ·refine Qa<|Zy<|Zy<|QA O<|Qb<|⟨_,La,O,by first|exact bT oa|exact bF oa|exact bD oa⟩
  refine Qa<|Qr O J O O<|Qr O (ht.I I) O O<|QG (hv.I I) O<|x (Yd O O) <|
   QA rfl<|Qb<|⟨_,La,O,by first|exact bT oa|exact bF oa|exact bD oa⟩
 rintro z g w6 ⟨rfl,rfl⟩;refine Za rfl (λhj=>?_) (λhj=>?_)
 ·rw[OQ hj]at hck;refine Qc<|Qb<|Qj ⟨[_],La,by rw[<-hck];rfl,G.D hy⟩
 rw[OP hj]at hck;have hB:e.1=((e.1.toNat:Nat):Int):=oa
 have hC:e.1.toNat<sz.length:=oa
 refine QV (α:=Bool) [(31,45)] (λz=>[(31,.bool z)]) (λz w'=>sW w6 w'/\z=zd (pv (ls.map (·.1)) k) e.1) oh ?_ ?_
 ·refine ZJ [] (Y4 0 15 [])<|p Qy<|pb (λ_=>Z2 O O) (λhm=>?_) (λhm=>?_)
  ·have hn:k≠0:=by have hD:(0:Int)<(k:Int):=hm;omega
   have hk1:((k:Int) - 1)=((k - 1:Nat):Int):=oa
   have ho:k - 1<ls.length:=oa
   refine p Qy<|p (QH O)<|pq (λ_ E=>Qk (J.I E) O O)<|p (QH O)<|pq (λ_ E=>Qk (((ha.I T).I I).I E) O O) <|
    p Qy<|p (λ_=>X9 O O ⟨oa,oa⟩)<|Lg.pig (g:=Zg) (i:=k - 1) O XH (hu.I I) O (OR sS hk1) ho λhM hE=>p (λ_=>ZN O) <|
    pq (λ_ E=>Qq ((hE.fld 0 _ O).I E) O)<|p (λ_=>Ja O O)<|p (YI O)<|p ZK<|pe ?_
   refine⟨_,La,O1.C _ _,?_⟩;have:pv (ls.map (·.1)) k=some (ls[k - 1]'ho).1:=by simp[pv,hn,ho]
   rw[this];rfl
  have hn:k=0:=by have hD:¬(0:Int)<(k:Int):=hm;omega
  refine p Qy<|ps<|ps<|ps<|ps<|ps<|ps<|ps<|ps<|ps<|ps<|p (YI O)<|p ZK<|pe ?_;exact⟨false,La,O1.C _ _,by simp[pv,hn,zd]⟩
 rintro z g w7 ⟨V,rfl⟩;have hz:=hy.D V;refine Q9 rfl (λhp=>?_) (λhp=>?_)
 ·rw[OQ hp]at hck;refine Qc<|Qb<|Qj ⟨[_],La,by rw[<-hck];rfl,G.D hz⟩
 rw[OP (by simp[hp])]at hck;have hq:=J.I V;refine QV (α:=Bool) [(46,60)] (λz=>[(46,.bool z)]) (λz w'=>sW w7 w'/\z=decide (e.2<0\/O2 sz e.1.toNat<=e.2)) oh ?_ ?_
 ·refine ZJ [] (Y4 0 15 [])<|p (QH O)<|pq (λ_ E=>Qk (hq.I E) O O)<|pb (λ_=>Yw O O) (λhF=>?_) (λhF=>?_)
  ·refine p Qy<|ps<|ps<|ps<|ps<|ps<|ps<|ps<|ps<|ps<|p (YI O)<|p ZK<|pe ?_;exact⟨_,La,O1.C _ _,by first|exact bT oa|exact bF oa|exact bD oa⟩
  refine p Qy<|p (QH O)<|pq (λ_ E=>Qk (hq.I E) O O)<|p (QH O)<|pq (λ_ E=>Qk (((ht.I I).I V).I E) O O) <|
   p (QH rfl)<|pq (λ_ E=>Qk (hq.I E) O O)<|pic (i:=e.1.toNat) O ((hv.I I).I V) O (OR sS hB) hC λhN hG=>pq (λ_ E=>Qq (hG.I E) O) <|
   p (λ_=>Yd O O)<|p (YI O)<|p ZK<|pe ?_
  exact⟨_,La,O1.C _ _,by first|exact bT oa|exact bF oa|exact bD oa⟩
 rintro z g w8 ⟨hH,rfl⟩;have h0:=hz.D hH;refine Za rfl (λhr=>?_) (λhr=>?_)
 ·rw[OQ hr]at hck;refine Qc<|Qb<|Qj ⟨[_],La,by rw[<-hck];rfl,G.D h0⟩
 rw[OP hr]at hck;refine Qf<|Qs<|QC O O<|Qa<|xe ?_;exact⟨k+1,oa,La,U,h0,hck⟩
theorem Qc3 {sz:LI}{ls:xq}{k:Nat}(h:k<ls.length):JA sz (pv (ls.map (·.1)) k) (ls.drop k)=if(ls[k]'h).1<0\/(sz.length:Int)<=(ls[k]'h).1 then 2 else if zd (pv (ls.map (·.1)) k) (ls[k]'h).1=true then 5 else if(ls[k]'h).2=0\/grt (ls[k]'h).2=true then 2 else JA sz (pv (ls.map (·.1)) (k+1)) (ls.drop (k+1)):=by
 rw[QX h,J3 (ou h),Na];rfl
theorem Vl {sz:LI}{ls:xq}{nm:ByteArray}{bd:Int}(hS:Qt [] ↑w vs sz)(S:P2s [] ↑w vl ls):
  QT sV 179 [.agg #[vs,vx,vk],.agg #[.string nm,vl,sS bd]] w λr w'=>r=sS (Xk sz ⟨nm,ls,bd⟩)/\sW w w':=by
 have hH:=S.le;refine Zn func179 ?_;refine Qc<|Zd [vs,vx,vk] λb2 w1 h3 hI Y=>Zd [.string nm,vl,sS bd] λb3 w2 ht hJ ha=>Qb ?_;have E:=h3.D ht
 replace Y:=Y.I ht;refine Qe<|Qc<|Qr O ha O O<|QG (S.I E) O<|x (Q6 O O)<|xe<|Za rfl (λhf=>?_) (λhf=>?_)
 ·refine Qc<|Qb<|Qj ⟨[_],La,by unfold Xk;rw[OQ (by have h4:(ls.length:Int)=0:=hf;show ls.length=0;omega)];rfl,E⟩
 have h5:ls.length≠0:=by have h4:¬(ls.length:Int)=0:=hf;omega
 have h6:Xk sz ⟨nm,ls,bd⟩=if JA sz none ls≠0 then JA sz none ls else if grt bd=true then 2 else 0:=by unfold Xk;rw[OP h5]
 rw[h6];refine Qf<|Qe<|Qc<|Qr O ha O O<|QG (S.I E) O<|Qa<|xe<|QW (α:=Nat) [(4,6),(14,55)] (λz=>[(14,sS z)]) (λz w'=>z<=ls.length/\sW w2 w'/\JA sz (pv (ls.map (·.1)) z) (ls.drop z)=JA sz none ls) (λz=>ls.length - z) 0 La
  ⟨Ln _,O1.Z _ _,O⟩ ?_
 rintro k g w3 ⟨hk,T,hck⟩;have U:=E.D T;have hu:=ha.I T;have hv:=S.I U;refine Zi rfl O (λhh=>?_) (λhh=>?_)
 ·refine Qu ?_;have h7:ls.length<=k:=by have h8:¬(k:Int)<(ls.length:Int):=hh;omega
  rw[Ls h7]at hck;have h9:JA sz none ls=0:=hck.symm;rw[h9,OP (λh=>h rfl)];refine Qe<|Qc<|Qr O hu O O<|Qw<|(Qbi bd _).Y ?_;rintro r4 w4 ⟨rfl,rfl⟩;refine xe<|Q9 O (λhj=>?_) (λhj=>?_)
  ·rw[OQ hj];refine Qc<|Qb<|Qj ⟨[_],La,O,U⟩
  rw[OP (by simp[hj])];refine Qf<|Qc<|Qb<|Qj ⟨[_],La,O,U⟩
 have V:k<ls.length:=by have h8:(k:Int)<(ls.length:Int):=hh;omega
 rw[Qc3 V]at hck;refine Qf<|Qe<|Qn<|Ql<|O4 XH hv O O V λhK hw=>?_;refine Zf (ls[k]'V) λe he=>?_;rw[he]at hw hck;refine x (QE hw O O)<|QP [sS 0,sS 0] λb6 w4 hA hB G=>x Qd<|Q0 (Zg e) G ov λw5 hC G=>xe ?_;have I:sW w3 w5:=hA.O hC hB;have hy:=T.D I;refine Qn<|QV (α:=Bool) [(19,30)] (λz=>[(19,.bool z)]) (λz w'=>w'=w5/\z=decide (e.1<0\/(sz.length:Int)<=e.1)) oh ?_ ?_
 ·refine Qs<|Qr O G O O<|xb (Yw O O) (λhD=>?_) (λhD=>?_)
  ·refine Qa<|Zy<|Zy<|QA O<|Qb<|⟨_,La,O,by first|exact bT oa|exact bF oa|exact bD oa⟩
  refine Qa<|Qr O G O O<|Qr O ((Y.I T).I I) O O<|QG ((hS.I U).I I) O<|x (Yd O O) <|
   QA rfl<|Qb<|⟨_,La,O,by first|exact bT oa|exact bF oa|exact bD oa⟩
 rintro z g w6 ⟨rfl,rfl⟩;refine Za rfl (λhm=>?_) (λhm=>?_)
 ·rw[OQ hm]at hck;refine Qc<|Qb<|Qj ⟨[_],La,by rw[<-hck,OQ og];rfl,E.D hy⟩
 rw[OP hm]at hck;refine QV (α:=Bool) [(31,45)] (λz=>[(31,.bool z)]) (λz w'=>sW w6 w'/\z=zd (pv (ls.map (·.1)) k) e.1) oh ?_ ?_
 ·refine ZJ [] (Y4 0 15 [])<|p Qy<|pb (λ_=>Z2 O O) (λhn=>?_) (λhn=>?_)
  ·have ho:k≠0:=by have hE:(0:Int)<(k:Int):=hn;omega
   have hk1:((k:Int) - 1)=((k - 1:Nat):Int):=oa
   have hp:k - 1<ls.length:=oa
   refine p Qy<|p (QH O)<|pq (λ_ J=>Qk (G.I J) O O)<|p (QH O)<|pq (λ_ J=>Qk ((hu.I I).I J) O O) <|
    p Qy<|p (λ_=>X9 O O ⟨oa,oa⟩)<|Lg.pig (g:=Zg) (i:=k - 1) O XH (hv.I I) O (OR sS hk1) hp λhL hF=>p (λ_=>ZN O) <|
    pq (λ_ J=>Qq ((hF.fld 0 _ O).I J) O)<|p (λ_=>Ja O O)<|p (YI O)<|p ZK<|pe ?_
   refine⟨_,La,O1.C _ _,?_⟩;have:pv (ls.map (·.1)) k=some (ls[k - 1]'hp).1:=by simp[pv,ho,hp]
   rw[this];rfl
  have ho:k=0:=by have hE:¬(0:Int)<(k:Int):=hn;omega
  refine p Qy<|ps<|ps<|ps<|ps<|ps<|ps<|ps<|ps<|ps<|ps<|p (YI O)<|p ZK<|pe ?_;exact⟨false,La,O1.C _ _,by simp[pv,ho,zd]⟩
 rintro z g w7 ⟨hz,rfl⟩;have h0:=hy.D hz;refine Q9 rfl (λhq=>?_) (λhq=>?_)
 ·rw[OQ hq]at hck;refine Qc<|Qb<|Qj ⟨[_],La,by rw[<-hck,OQ og];rfl,E.D h0⟩
 rw[OP (by simp[hq])]at hck;have h1:=G.I hz;refine QV (α:=Bool) [(46,54)] (λz=>[(46,.bool z)]) (λz w'=>sW w7 w'/\z=decide (e.2=0\/grt e.2=true)) oh ?_ ?_
 ·refine Qs<|Qr O h1 O O<|xb (Q6 O O) (λhr=>?_) (λhr=>?_)
  ·refine Qa<|Zy<|QA O<|Qb<|⟨_,La,O1.Z _ _,bT (.inl hr)⟩
  refine Qa<|Qr O h1 O O<|Qw<|(Qbi e.2 _).Y ?_;rintro r9 w9 ⟨rfl,rfl⟩;refine QA O<|Qb<|⟨grt e.2,La,O1.Z _ _,?_⟩;cases hg:grt e.2 with
  | true=>exact bT (.inr O)
  | false=>exact bF (λh=>by rcases h with h|h;exact hr h;cases h)
 rintro z g w8 ⟨hG,rfl⟩;have h2:=h0.D hG;refine Za rfl (λhs=>?_) (λhs=>?_)
 ·rw[OQ hs]at hck;refine Qc<|Qb<|Qj ⟨[_],La,by rw[<-hck,OQ og];rfl,E.D h2⟩
 rw[OP hs]at hck;refine Qf<|Qs<|QC O O<|Qa<|xe ?_;exact⟨k+1,oa,La,V,h2,hck⟩
open Go.RowKit
def Qcg:Fr->LN->LV->Fr
 | f,p::ps,v::vs=>Qcg (upd f p v) ps vs
 | f,_,_=>f
theorem Uj {n:Nat}{ds:LN}:∀(ps:LN) (vs:LV) (a:Act) (f:Fr),Y3 n ds a f->(∀p∈ps,p<n) ->
  Y3 n ds { tmps:=(ps.zip vs).foldl (λt (x:Nat×OY)=>t.setIfInBounds x.1 x.2) a.tmps,defers:=a.defers } (Qcg f ps vs)
 | [],_,a,f,h,_=>by cases h;exact⟨by assumption,by assumption,by assumption⟩
 | p::ps,[],a,f,h,_=>by cases h;exact⟨by assumption,by assumption,by assumption⟩
 | p::ps,v::vs,a,f,h,E=>by
  exact Uj ps vs _ _ (h.put (dst:=some p) (λd e=>by cases e;exact E p Lo) v) (λq G=>E q (Lm _ G))
def rdE {α:Type}(B:Nat)(L:LN)(I:List α->OX->Prop)(X:Exit->List α->OX->Prop)(xs:List α)(W:OX):Exit->LN->Fr->OX->Prop
 | .normal,_,_,W'=>Xy B L W W'/\I xs W'
 | .ret,_,_,W'=>Xy B L W W'/\X .ret xs W'
 | .exit i,_,_,W'=>Xy B L W W'/\X (.exit i) xs W'
 | _,_,_,_=>False
theorem Qjb {Q:Exit->LN->Fr->OX->Prop}{g:OZ}{ps:LN}{assign body:Code}(L:LN)(Y:1<=m)
  {gf:Nat}  [hF:Fu P gf fn]  (hg:ev f g=.func (.func gf) #[] capt.toArray) {encs:α->LV} {S Sp:List α->Prop}  (hp:∀p∈ps,p<n) (hm:∀x,(encs x).length=ps.length)
  (hn:SeqStopsK (fen none) (m - 1) P gf capt.toArray (λx=>(encs x).toArray) (Lw ↑w L) S Sp N w)
  (I:List α->OX->Prop) (hI:∀s,Z7 ↑w (I s)) (X:Exit->List α->OX->Prop) (hX:∀e s,Z7 ↑w (X e s)) (h0:I [] w) (A:Fr->α->Fr->OX->Prop) (hA:∀x E,Z7 ↑w (A f x E))
  (he:∀l pre x W,I pre W->WG (some l) (m - 1 - 1) P n assign (Qci (λhc E W'=>hc=[]/\Xy ↑w L W W'/\I pre W'/\A f x E W') (λ_ _ _ _=>False)) [] (Qcg f ps (encs x)) W)
  (hf:∀l pre x E W,I pre W->A f x E W->pre.length<N->WG (some l) (m - 1 - 1) P n body (rdE ↑w L I X (pre++[x]) W) [] E W)
  (hq:∀D xs W,↑w<=D->S xs->I xs W->W.heap[D]?=some (.deferred (some []))->Q .normal (D::ds) f W)
  (hh:∀D e pre W,↑w<=D->Sp pre->X e pre W->W.heap[D]?=some (.deferred (some []))->(e=.ret\/∃i,e=.exit i)->Q e (D::ds) f W):
  WG none m P n (.rangeFunc g ps.toArray assign body) Q ds f w:=by
 unfold WG at he hf ⊢;intro a T;have eg:∀args w,(callFunc gf args).run P w=.ok (.enter gf args) w:=by
  intro args w;have Y:¬fn.name = "runtime.NumGoroutine" := by simpa using hF.nm
  have U:¬fn.body=none:=by have:=hF.b;intro e;rw[e]at this;cases this
  simp[callFunc,hF.f,Y,U]
 have keep:∀{W W':OX},Xy ↑w L W W'->KeepsFrom ↑w W W':=λh=>⟨h.lw.size,λk o _ hk ho=>h.other k o hk ho⟩;refine wpIn_rangeFunc_ownH (F:=fen none) O Y (gf:=gf) (lb:=capt.toArray) (by rw[T.eval];exact hg) Z eg hn (λh k=>h.D k)
  (λW l o o' hl ho _ _=>⟨O,O,O,od,λk hk _=>World.putObj_heap_other oa⟩) (Below.refl _ _) (λx=>by simp[hm x]) I
  (λc pre W=>match c with| .ret=>X .ret pre W| .exit i=>X (.exit i) pre W|_=>False) (Z7.own hI) (λc=>Z7.own λs=>?_) h0
  (λx V W=>∃E,Y3 n [] V E/\A f x E W) (λx V=>Z7.own λ_=>Z7.ex λE=>Z7.and (Z7.pure _) (hA x E)) ?_ ?_ ?_ ?_
 ·cases c <;> first|exact hX _ s|exact Z7.pure _
 ·intro l pre x W K hi hK;have hr:Y3 n [] { tmps:=(ps.toArray.zip (encs x).toArray).foldl (λt (p,v)=>t.setIfInBounds p v) a.tmps,defers:=[] } (Qcg f ps (encs x)):=by
   have U:Y3 n [] { a with defers:=[] } f:=⟨T.size,O,T.get⟩
   have J:=Uj ps (encs x) _ _ U hp;have e:(ps.toArray.zip (encs x).toArray).foldl (λt (p,v)=>t.setIfInBounds p v) a.tmps=(ps.zip (encs x)).foldl (λt (x:Nat×OY)=>t.setIfInBounds x.1 x.2) a.tmps:=od
   rw[e];exact J
  refine wpIn_mono (he l pre x W hi _ hr) ?_;rintro e V W' ⟨hc,E,U,_,J⟩;cases e with
  | normal=>obtain⟨rfl,h4,G,h6⟩:=J;exact hK V W' (keep h4) h4.lw G ⟨E,U,h6⟩
  | exit id=>exact J.elim
  | goto l=>exact J.elim
  | ret=>exact J.elim
  | panic ch=>exact J.elim
  | outgrown=>exact J.elim
 ·rintro l pre x V W _ _ hi ⟨E,U,J⟩ hs;refine wpIn_mono (hf l pre x E W hi J hs V U) ?_;rintro e ht W' ⟨hc,hu,h4,_,G⟩;cases e with
  | normal=>exact⟨keep G.1,G.1.lw,G.2⟩
  | exit id=>exact⟨keep G.1,G.2⟩
  | goto l=>exact G.elim
  | ret=>exact⟨keep G.1,G.2⟩
  | panic ch=>exact G.elim
  | outgrown=>exact G.elim
 ·intro D xs W hD hS hi hd;exact⟨D::ds,f,⟨T.size,by rw[show coll (D::ds)={ target:=.collected D,args:=#[] }::coll ds from rfl,T.defers],T.get⟩,λ_ _=>rfl,hq D xs W hD hS hi hd⟩
 intro D c pre W hD hS hx hd;have hj:Y3 n (D::ds) { a with defers:={ target:=.collected D,args:=#[] }::a.defers } f:=⟨T.size,by rw[show coll (D::ds)={ target:=.collected D,args:=#[] }::coll ds from rfl,T.defers],T.get⟩
 cases c with
 | ret=>exact wpIn_ret ⟨_,f,hj,λ_ _=>O,hh D .ret pre W hD hS hx hd (.inl O)⟩
 | exit i=>exact wpIn_exit ⟨_,f,hj,λ_ _=>O,hh D (.exit i) pre W hD hS hx hd (.inr ⟨i,O⟩)⟩
 | _=>exact hx.elim
theorem Qh2 {α:Type}(g:α->LV)(sz:Nat)(E:∀x,(g x).length=sz):∀(l:List α) (k:Nat),(l.flatMap g).take (k*sz)=(l.take k).flatMap g
 | [],k=>od
 | e::l,0=>od
 | e::l,k+1=>by
  simp only[oW,List.take_succ_cons,Ok,OI];rw[MT,Nv,E,show sz+k*sz - sz=k*sz by omega,Qh2 g sz E l k,Lq (by rw[E];omega)]
theorem Qd5 {gf:Nat}[Fu sV gf fn]{nms:List ByteArray}{s:ByteArray}(hl:z7 s)
  (ho:∀(w':OX) (L:LN),sW w w'->(∀b∈L,↑w<=b)->SeqStopsK (fen none) 9 sV gf capt.toArray (λx:{ x:ByteArray // x∈nms }=>[Value.string x.1].toArray) (Lw ↑w' L) (λys=>ys.map (·.1)=nms) (λ_=>True) N w'):
  QT sV 176 [.string s,.func (.func gf) #[] capt.toArray] w λr w'=>r=sS (UF nms s)/\sW w w':=by
 refine QT.of_G 10 func176 O ntmps176 results176 od ?_;refine QQ<|Qx oh oh<|Zd [.string s] λb2 w1 hp ht hh=>QP [sS 0] λJ w2 hj hu hf=>xe ?_;have Y:=hp.D hj;have hv:=hf.lt;have hk:=hh.I hj;have hw:=hh.lt;refine QQ<|QQ<|Qx oh oh<|ZA hk O O<|Kr<|(UM s hl _).Y ?_;rintro r3 w3 ⟨rfl,rfl⟩;refine x (Zh O)<|xe<|Kg rfl (λh8=>?_) (λh8=>?_)
 ·have hn:Xn s=false:=by simpa using h8
  have hr:UF nms s=7:=by unfold UF;rw[OQ hn]
  refine QQ<|Qx oh oh<|Qo<|Qv (j:=0) (u:=sS 7) hf O O og O λw4 U ha=>xe ?_;refine JE ⟨λ_ h=>(by cases h),Ml,[sS 7],λW' S=>⟨⟨⟨_,rfl,Y6 (At.one ((ha.I S).at (L:=[]) od))⟩,Z⟩,by rw[hr];rfl,(Y.O U oa).D S⟩⟩
 have hn:¬Xn s=false:=by simpa using h8
 refine Z4<|QQ<|QQ<|Qx oh oh<|Qa<|xe<|ZL<|Qjb (α:={ x:ByteArray // x∈nms }) (ps:=[10]) [J] oa (capt:=capt) O (encs:=λx=>[.string x.1]) od (λ_=>rfl)
  (ho w3 [J] Y (λb hb=>by simp at hb;omega))
  (λpre W=>O1 [J] w3 W/\QK ↑W b2 9 [.string s]/\QK ↑W J 55 [sS 0]/\∀x∈pre,x.1≠s)
  (λpre=>(Z7.J (Lp _)).and (Z7.blk.and (Z7.blk.and (Z7.pure _))))
  (λe pre W=>e=.ret/\O1 [J] w3 W/\QK ↑W J 55 [sS 8]/\s∈nms)
  (λe pre=>(Z7.pure _).and ((Z7.J (Lp _)).and (Z7.blk.and (Z7.pure _))))
  ⟨O1.Z _ _,hk,hf,λx hx=>by cases hx⟩
  (λf x f' W=>f'=upd (Qcg f [10] [.string x.1]) 5 (.string x.1)) (λx f'=>Z7.pure _) ?_ ?_ ?_ ?_
 ·rintro l pre x W ⟨G,h2,I,V⟩;refine Qx oh oh<|Lg.Qb<|⟨O,Xy.refl _ _ _,⟨G,h2,I,V⟩,O⟩
 ·rintro l pre x f' W ⟨G,h2,I,V⟩ rfl _;refine ZL<|QQ<|Qx oh oh<|Lg.Qa<|Lg.x (Qk h2 O O)<|Lg.x (jA O O)<|xe<|QlA O (λhg=>?_) (λhg=>?_)
  ·refine QQ<|Qx oh oh<|Qo<|Qv (j:=0) (u:=sS 8) I O O og O λw4 U ha=>xe ?_;refine JE ?_;exact⟨Xy.blk U G.size I (.inl od),rfl,G.Q U,ha,by rw[<-hg];exact x.2⟩
  refine Z4<|⟨Xy.refl _ _ _,G,h2,I,λy T=>?_⟩;rcases Le.1 T with T|T
  ·exact V y T
  simp only[oF]at T;subst T;exact hg
 ·rintro D xs W hD hq ⟨G,h2,I,V⟩ hc;have hr:UF nms s=0:=by
   unfold UF;rw[OP hn,OP];intro hm;rw[<-hq]at hm;obtain⟨y,T,e⟩:=Lz.1 hm;exact V y T e
  refine QQ<|Qx oh oh<|Qo<|Qv (j:=0) (u:=sS 0) I O O og O λw4 U ha=>xe ?_;have he:D≠J:=oa
  have hs:w4.heap[D]?=some (.deferred (some [])):=by rw[U.block D (LJ.1 hc).1 (ou he)];exact hc
  refine JE ⟨λE hE=>by simp only[oF]at hE;subst hE;exact hs,od,[sS 0],λW' S=>?_⟩;refine⟨⟨⟨_,O,Y6 (At.one ((ha.J S (ou he.symm)).at (L:=[]) od))⟩,Z⟩,by rw[hr];rfl,?_⟩;exact((Y.S G (λb hb=>.inr (by simp at hb;omega))).O U oa).S S (λb hb=>.inr (by simp at hb;have:=Y.size;omega))
 rintro D e pre W hD _ ⟨rfl,G,I,V⟩ hc _;have hr:UF nms s=8:=by unfold UF;rw[OP hn,OQ V]
 have he:D≠J:=oa
 refine⟨λE hE=>by simp only[oF]at hE;subst hE;exact hc,od,[sS 8],λW' S=>?_⟩;refine⟨⟨⟨_,O,Y6 (At.one ((I.J S (ou he.symm)).at (L:=[]) od))⟩,Z⟩,by rw[hr];rfl,?_⟩;exact(Y.S G (λb hb=>.inr (by simp at hb;omega))).S S (λb hb=>.inr (by simp at hb;have:=Y.size;omega))
theorem X5.pre3 {o1 o2 o3:Oper}{l2:xz}(h:XL P ops (λf w=>X5 P m ops K l2 f w) [o1,o2,o3] f w):X5 P m ops K (o1::o2::o3::l2) f w:=X5.pre [o1,o2,o3] f w h
theorem Qif {I S:Nat}{qs:List XV}{nms:List ByteArray}(hs:QK ↑w I 163 [vs,vx,vk])(ht:QK ↑w S 3 [sS i])(hX:yi L ↑w vx qs)(hi:i<=qs.length)(hn:nms=(qs.take i).map (·.nm)):
  SeqStopsK (fen none) m sV 175 #[sP I,sP S] (λx:{ x:ByteArray // x∈nms }=>[Value.string x.1].toArray) (Lw ↑w L)
   (λys=>ys.map (·.1)=nms) (λ_=>True) (nms.length+1) w:=by
 intro l J Jx W hu hJ hv hY h0;have hf:sW w W:=O1.of_below hu;have ab:∀{ys:List { x:ByteArray // x∈nms }} {W1 W2:OX},J ys W1->sW W1 W2->J ys W2:=λ{ys W1 W2} hj T=>hJ ys W1 W2 none hj ⟨T.os,T.tape,T.output,T.size,λk U _=>T.block k U od⟩ (λr e=>by cases e);have h8:=hX.arr.le;have h9:nms.length=i:=by rw[hn];simp;omega
 have key:QT sV 175 [.func (.yield l) #[] #[],sP I,sP S] W (λ_ W'=>(∃ys,ys.map (·.1)=nms/\J ys W')\/(∃pre,True/\Jx pre W')):=by
  refine QT.of_G m func175 O ntmps175 results175 od ?_;refine QQ<|Qx oh oh<|Qr O (hs.I hf) O O<|ZA (ht.I hf) O O<|Ql3 hX.arr O O hi λv9 hm=>QG hm O<|Qa<|xe ?_;have hw:(qs.take i).length=i:=by simp;omega
  have hS:Zs L ↑w v9 (qs.take i).length 2 ((qs.take i).flatMap ZY):=by
   rw[hw,<-Qh2 ZY 2 qA];exact hm
  refine ZL<|Kf (α:=Nat×List { x:ByteArray // x∈nms }) [(5,5),(11,20)] (λz=>[(11,sS z.1)]) (λz ds W'=>ds=[]/\z.1<=i/\O1 L w W'/\z.2.map (·.1)=nms.take z.1/\J z.2 W') (λz=>i - z.1) oh (0,[]) La
   ⟨O,Ln _,hf.any,O,h0⟩ ?_
  rintro⟨k,ys⟩ g ds w1 ⟨rfl,U,ho,V,hg⟩;simp only[]at U V hg;refine QQ<|Qx oh oh<|ZX O O<|xe<|QQ<|V9 O (λhp=>?_) (λhp=>?_)
  ·refine Jl ?_;rw[Lq oa]at V;exact⟨λ_ h=>(by cases h),Ml,[],λW' E=>⟨Z,.inl ⟨ys,V,ab hg E⟩⟩⟩
  refine Z4 ?_;have hy:k<i:=by have hh:(k:Int)<(i:Int):=hp;omega
  have ha:k<(qs.take i).length:=oa
  have hc:k<nms.length:=oa
  have hl:nms.take (k+1)=nms.take k++[nms[k]'hc]:=Lh hc;have hA:ys.length=k:=by have:=OR oY V;rw[Lj,LA]at this;omega
  have hz:nms[k]'hc=((qs.take i)[k]'ha).nm:=by subst hn;simp
  have Y:=Lk hc;rw[hz]at hl Y;refine QQ<|ZL<|QQ<|Qx oh oh<|O4 qA (i:=k) (hS.st ho) O O ha λhB hh=>?_;refine Zf ((qs.take i)[k]'ha) λq hq=>?_;rw[hq]at hh hl Y;refine x (QE hh O O)<|QP [.string .empty,nS] λb5 w2 h2 h3 h4=>Q0 (ZY q) h4 ⟨O,((hX.each q (L3 (by rw[<-hq];exact Lk ha))).one),Z⟩ λw3 h5 h6=>xe ?_;have hr:sW w1 w3:=h2.O h5 h3;refine QQ<|JZ oh ?_;refine X5.pre3 ?_;refine Qa<|Qr O h6 O O<|xe<|xy (l:=l) O (hY ys ⟨q.nm,Y⟩ w3 (ab hg hr) oa) λen W3 h7=>Or.elim h7 (λG=>⟨.bool true,G.1,?_⟩) (λG=>⟨.bool false,G.1,?_⟩)
  ·refine X5.of_XL<|x (Zh O)<|xe<|JF O<|Z4 ?_;refine Qx oh oh<|QC O O<|Qa<|xe ?_;exact⟨(k+1,ys++[⟨q.nm,Y⟩]),oe,La,O,hy,(ho.D hr).lw G.2.2,by rw[hl,Lv,V];rfl,G.2.1⟩
  refine X5.of_XL<|x (Zh O)<|xe<|z0 O ?_;refine JE ⟨λ_ h=>(by cases h),Ml,[],λW' E=>⟨Z,.inr ⟨ys++[⟨q.nm,Y⟩],Z,?_⟩⟩⟩;exact hv _ W3 W' none G.2 ⟨E.os,E.tape,E.output,E.size,λk U _=>E.block k U od⟩ (λr e=>by cases e)
 refine(callsIn_wide (n:=m)).2 ?_;have ea:(#[.func (.yield l) #[] #[]]++[sP I,sP S].toArray:Array OY)=#[.func (.yield l) #[] #[],sP I,sP S]:=od
 rw[ea];unfold QT at key;refine Calls.mono key λe w' he=>?_;cases e with
 | returned v=>exact⟨⟨v,O⟩,he⟩
 | panicked c=>exact he.elim
 | outgrown=>exact he.elim
theorem QiA {I S:Nat}{qs:List KV}{nms:List ByteArray}(hs:QK ↑w I 163 [vs,vx,vk])(ht:QK ↑w S 3 [sS i])(hX:zY L ↑w vk qs)(hi:i<=qs.length)(hn:nms=(qs.take i).map (·.nm)):
  SeqStopsK (fen none) m sV 178 #[sP I,sP S] (λx:{ x:ByteArray // x∈nms }=>[Value.string x.1].toArray) (Lw ↑w L)
   (λys=>ys.map (·.1)=nms) (λ_=>True) (nms.length+1) w:=by
 intro l J Jx W hu hJ hv hY h0;have hf:sW w W:=O1.of_below hu;have ab:∀{ys:List { x:ByteArray // x∈nms }} {W1 W2:OX},J ys W1->sW W1 W2->J ys W2:=λ{ys W1 W2} hj T=>hJ ys W1 W2 none hj ⟨T.os,T.tape,T.output,T.size,λk U _=>T.block k U od⟩ (λr e=>by cases e);have h8:=hX.arr.le;have h9:nms.length=i:=by rw[hn];simp;omega
 have key:QT sV 178 [.func (.yield l) #[] #[],sP I,sP S] W (λ_ W'=>(∃ys,ys.map (·.1)=nms/\J ys W')\/(∃pre,True/\Jx pre W')):=by
  refine QT.of_G m func178 O ntmps178 results178 od ?_;refine QQ<|Qx oh oh<|Qr O (hs.I hf) O O<|ZA (ht.I hf) O O<|Ql3 hX.arr O O hi λv9 hm=>QG hm O<|Qa<|xe ?_;have hw:(qs.take i).length=i:=by simp;omega
  have hS:Zs L ↑w v9 (qs.take i).length 3 ((qs.take i).flatMap Yb):=by
   rw[hw,<-Qh2 Yb 3 zg];exact hm
  refine ZL<|Kf (α:=Nat×List { x:ByteArray // x∈nms }) [(5,5),(11,20)] (λz=>[(11,sS z.1)]) (λz ds W'=>ds=[]/\z.1<=i/\O1 L w W'/\z.2.map (·.1)=nms.take z.1/\J z.2 W') (λz=>i - z.1) oh (0,[]) La
   ⟨O,Ln _,hf.any,O,h0⟩ ?_
  rintro⟨k,ys⟩ g ds w1 ⟨rfl,U,ho,V,hg⟩;simp only[]at U V hg;refine QQ<|Qx oh oh<|ZX O O<|xe<|QQ<|V9 O (λhp=>?_) (λhp=>?_)
  ·refine Jl ?_;rw[Lq oa]at V;exact⟨λ_ h=>(by cases h),Ml,[],λW' E=>⟨Z,.inl ⟨ys,V,ab hg E⟩⟩⟩
  refine Z4 ?_;have hy:k<i:=by have hh:(k:Int)<(i:Int):=hp;omega
  have ha:k<(qs.take i).length:=oa
  have hc:k<nms.length:=oa
  have hl:nms.take (k+1)=nms.take k++[nms[k]'hc]:=Lh hc;have hA:ys.length=k:=by have:=OR oY V;rw[Lj,LA]at this;omega
  have hz:nms[k]'hc=((qs.take i)[k]'ha).nm:=by subst hn;simp
  have Y:=Lk hc;rw[hz]at hl Y;refine QQ<|ZL<|QQ<|Qx oh oh<|O4 zg (i:=k) (hS.st ho) O O ha λhB hh=>?_;refine Zf ((qs.take i)[k]'ha) λq hq=>?_;rw[hq]at hh hl Y;refine x (QE hh O O)<|QP [.string .empty,nS,sS 0] λb5 w2 h2 h3 h4=>Q0 (Yb q) h4 ⟨O,((hX.each q (L3 (by rw[<-hq];exact Lk ha))).one),O,Z⟩ λw3 h5 h6=>xe ?_;have hr:sW w1 w3:=h2.O h5 h3;refine QQ<|JZ oh ?_;refine X5.pre3 ?_;refine Qa<|Qr O h6 O O<|xe<|xy (l:=l) O (hY ys ⟨q.nm,Y⟩ w3 (ab hg hr) oa) λen W3 h7=>Or.elim h7 (λG=>⟨.bool true,G.1,?_⟩) (λG=>⟨.bool false,G.1,?_⟩)
  ·refine X5.of_XL<|x (Zh O)<|xe<|JF O<|Z4 ?_;refine Qx oh oh<|QC O O<|Qa<|xe ?_;exact⟨(k+1,ys++[⟨q.nm,Y⟩]),oe,La,O,hy,(ho.D hr).lw G.2.2,by rw[hl,Lv,V];rfl,G.2.1⟩
  refine X5.of_XL<|x (Zh O)<|xe<|z0 O ?_;refine JE ⟨λ_ h=>(by cases h),Ml,[],λW' E=>⟨Z,.inr ⟨ys++[⟨q.nm,Y⟩],Z,?_⟩⟩⟩;exact hv _ W3 W' none G.2 ⟨E.os,E.tape,E.output,E.size,λk U _=>E.block k U od⟩ (λr e=>by cases e)
 refine(callsIn_wide (n:=m)).2 ?_;have ea:(#[.func (.yield l) #[] #[]]++[sP I,sP S].toArray:Array OY)=#[.func (.yield l) #[] #[],sP I,sP S]:=od
 rw[ea];unfold QT at key;refine Calls.mono key λe w' he=>?_;cases e with
 | returned v=>exact⟨⟨v,O⟩,he⟩
 | panicked c=>exact he.elim
 | outgrown=>exact he.elim
theorem zv {sz:LI}{qx:List XV}{ks:List KV}(hS:Qt [] ↑w vs sz)(hX:yi [] ↑w vx qx)(hK:zY [] ↑w vk ks):
  QT sV 112 [.agg #[vs,vx,vk]] w λr w'=>r=sS (Y8 sz (qx.map (·.x)) (ks.map (·.k)))/\sW w w':=by
 have hY:=hS.le;have hZ:=hX.arr.le;have ga:=hK.arr.le;refine Zn func112 ?_;refine Qc<|Zd [vs,vx,vk] λb1 w1 G gb U=>Qb<|Qe<|Qc<|Qr O U O O<|QG (hS.I G) O<|x (Z2 O O)<|xe<|Za rfl (λh1=>?_) (λh1=>?_)
 ·refine Qc<|Qb<|Qj ⟨[_],La,by unfold Y8;rw[OQ (by have hJ:(8:Int)<(sz.length:Int):=h1;omega)];rfl,G⟩
 have hz:¬8<sz.length:=by have hJ:¬(8:Int)<(sz.length:Int):=h1;omega
 refine Qf<|Qe<|Qc<|Qr O U O O<|QG (hS.I G) O<|Qa<|xe<|QW (α:=Nat) [(2,2),(4,4),(22,32)] (λz=>[(22,sS z)]) (λz w'=>z<=sz.length/\w'=w1/\(sz.drop z).any K6=sz.any K6) (λz=>sz.length - z) 0 La
  ⟨Ln _,O,O⟩ ?_
 rintro k g w2 ⟨hk,rfl,ha⟩;refine Zi rfl O (λh2=>?_) (λh2=>?_)
 ·refine Qu ?_;have hl:sz.length<=k:=by have h0:¬(k:Int)<(sz.length:Int):=h2;omega
  rw[Ls hl]at ha;have h3:¬sz.any K6=true:=by rw[<-ha];decide
  refine Qe<|QV (α:=Bool) [(33,42)] (λz=>[(42,.bool z)]) (λz w'=>w'=w2/\z=decide (32<qx.length\/32<ks.length)) oh ?_ ?_
  ·refine Qs<|Qr O U O O<|QG (hX.I G).arr O<|xb (Z2 O O) (λhM=>?_) (λhM=>?_)
   ·refine Qa<|Zy<|J0<|QA O<|xe ?_;exact⟨_,La,O,by first|exact bT oa|exact bF oa|exact bD oa⟩
   refine Qa<|Qr O U O O<|QG (hK.I G).arr O<|x (Z2 O O)<|QA O<|xe ?_;exact⟨_,La,O,by first|exact bT oa|exact bF oa|exact bD oa⟩
  rintro z g V ⟨rfl,rfl⟩;refine Za O (λh4=>?_) (λh4=>?_)
  ·refine Qc<|Qb<|Qj ⟨[_],La,by unfold Y8;rw[OP hz,OP h3,OQ (ou h4)];rfl,G⟩
  have hG:¬(32<(qx.map (·.x)).length\/32<(ks.map (·.k)).length):=by simpa using h4
  have hH:YT sz [] (qx.map (·.x))≠0->Y8 sz (qx.map (·.x)) (ks.map (·.k))=YT sz [] (qx.map (·.x)):=λh=>by
   unfold Y8;rw[OP hz,OP h3,OP hG,OQ h]
  have hN:YT sz [] (qx.map (·.x))=0->Y8 sz (qx.map (·.x)) (ks.map (·.k))=Xg sz [] (ks.map (·.k)):=λh=>by
   unfold Y8;rw[OP hz,OP h3,OP hG,OP (by rw[h];exact λh=>h O)]
  refine Qf<|Qe<|Qc<|Qr O (U.I (O1.Z [] V)) O O<|QG ((hX.I G).I (O1.Z [] V)).arr O<|Qa<|xe<|QW (α:=Nat) [(2,2),(5,9),(46,65)] (λz=>[(46,sS z)]) (λz w'=>z<=qx.length/\sW V w'/\YT sz ((qx.take z).map (·.nm)) ((qx.drop z).map (·.x))=YT sz [] (qx.map (·.x))) (λz=>qx.length - z) 0 La
   ⟨Ln _,(O1.Z [] V),O⟩ ?_
  rintro k g wA ⟨hk,I,hck⟩;refine Zi O O (λhc=>?_) (λhc=>?_)
  ·refine Qu ?_;have hl:qx.length<=k:=by have h5:¬(k:Int)<(qx.length:Int):=hc;omega
   rw[Ls hl]at hck;have hO:YT sz [] (qx.map (·.x))=0:=hck.symm;have h6:=hN hO;refine Qe<|Qc<|Qr O (U.I I) O O<|QG ((hK.I G).I I).arr O<|Qa<|xe<|QW (α:=Nat) [(2,2),(10,14),(69,88)] (λz=>[(69,sS z)]) (λz w'=>z<=ks.length/\sW V w'/\Xg sz ((ks.take z).map (·.nm)) ((ks.drop z).map (·.k))=Xg sz [] (ks.map (·.k))) (λz=>ks.length - z) 0 La
    ⟨Ln _,I,O⟩ ?_
   rintro k g wA ⟨hk,I,hck⟩;refine Zi O O (λhc=>?_) (λhc=>?_)
   ·refine Qu ?_;have hl:ks.length<=k:=by have h5:¬(k:Int)<(ks.length:Int):=hc;omega
    rw[Ls hl]at hck;have hP:Xg sz [] (ks.map (·.k))=0:=hck.symm;refine Qc<|Qb<|Qj ⟨[_],La,by rw[h6,hP];rfl,G.D I⟩
   have E:k<ks.length:=by have h5:(k:Int)<(ks.length:Int):=hc;omega
   have hm:(ks.take (k+1)).map (·.nm)=(ks.take k).map (·.nm)++[(ks[k]'E).nm]:=by rw[Lh E,Lv];rfl
   rw[QX E,LU]at hck;have he:=Lk E;have J:=(hK.I G).I I;have hQ:=U.I I;refine Qf<|Qe<|Qn<|Ql<|O4 zg J.arr O O E λaA hA=>?_;refine Zf (ks[k]'E) λq hq=>?_;rw[hq]at hA hck hm he;have ho:=J.each q he;refine x (QE hA O O)<|QP [sS 0] λb5 V hp h7 hf=>QP [.string .empty,nS,sS 0] λb6 w4 hr hR h8 =>
    Qo<|Qv (j:=0) (u:=sS k) (hf.I hr) O O og O λw5 hs h9=>Q0 (Yb q) (h8.J hs (by have:=hf.lt;simp;omega)) ⟨O,ho.one,O,Z⟩ λw6 ht hu=>xe ?_
   have hT:b5<b6:=by have:=hf.lt;omega
   have hg:sW wA w6:=((hp.D hr).O hs h7).O ht (oo hp.size);have hB:QK ↑w6 b5 3 [sS k]:=h9.J ht (by simp;omega);have hv:=hQ.I hg;have hU:=J.I hg;refine Qc<|x Zl<|Qb<|Qe<|Qc<|Qr O hu O O<|Qa<|Qw<|(Qd5 (nms:=(ks.take k).map (·.nm)) (capt:=[sP b1,sP b5]) (J.nm q he) (λw' L hh hL=>QiA (hv.I hh) (hB.I hh) ((hU.up (λb hb=>.inr (hL b hb))).I hh) hk O)).Y ?_;rintro r7 w7 ⟨rfl,hj⟩;refine Qb ?_;have S:=hg.D hj;refine Ql<|ZI O O<|xe<|Za O (λY=>?_) (λY=>?_)
   ·have e1:Xg sz [] (ks.map (·.k))=UF ((ks.take k).map (·.nm)) q.nm:=by rw[<-hck];exact OQ Y
    refine Ql<|Qb<|Qj ⟨[_],La,by rw[h6,e1];rfl,G.D (I.D S)⟩
   have hw:(if Xk sz q.k≠0 then Xk sz q.k else Xg sz ((ks.take k).map (·.nm)++[q.nm]) ((ks.drop (k+1)).map (·.k)))=Xg sz [] (ks.map (·.k)):=by rw[<-hck];exact(OP Y).symm
   refine Qf ?_;have hV:=hv.I hj;have hW:=hu.I hj;refine Qc<|QY hV O O<|QY hW O O<|Qw<|(Vl (((hS.I G).I I).I S) (ho.I S)).Y ?_;rintro r8 w8 ⟨rfl,hC⟩;refine Qb ?_;have hy:=S.D hC;refine Ql<|ZI O O<|xe<|Za O (λT=>?_) (λT=>?_)
   ·have e1:Xg sz [] (ks.map (·.k))=Xk sz q.k:=by rw[<-hw];exact OQ T
    have hI:Xk sz q.k≠0:=T;refine Ql<|Qb<|Qj ⟨[_],La,by rw[h6,e1];rfl,G.D (I.D hy)⟩
   have hD:Xg sz ((ks.take k).map (·.nm)++[q.nm]) ((ks.drop (k+1)).map (·.k))=Xg sz [] (ks.map (·.k)):=by rw[<-hw];exact(OP T).symm
   refine Qf<|Qs<|QC O O<|Qa<|xe ?_;exact⟨k+1,oa,La,E,I.D hy,by rw[hm];exact hD⟩
  have E:k<qx.length:=by have h5:(k:Int)<(qx.length:Int):=hc;omega
  have hm:(qx.take (k+1)).map (·.nm)=(qx.take k).map (·.nm)++[(qx[k]'E).nm]:=by rw[Lh E,Lv];rfl
  rw[QX E,LU]at hck;have he:=Lk E;have J:=(hX.I G).I I;refine Qf<|Qe<|Qn<|Ql<|O4 qA J.arr O O E λaA hA=>?_;refine Zf (qx[k]'E) λq hq=>?_;rw[hq]at hA hck hm he;have ho:=J.each q he;refine x (QE hA O O)<|QP [sS 0] λb5 V hp h7 hf=>QP [.string .empty,nS] λb6 w4 hr hR h8 =>
   Qo<|Qv (j:=0) (u:=sS k) (hf.I hr) O O og O λw5 hs h9=>Q0 (ZY q) (h8.J hs (by have:=hf.lt;simp;omega)) ⟨O,ho.one,Z⟩ λw6 ht hu=>xe ?_
  have hT:b5<b6:=by have:=hf.lt;omega
  have hg:sW wA w6:=((hp.D hr).O hs h7).O ht (oo hp.size);have hB:QK ↑w6 b5 3 [sS k]:=h9.J ht (by simp;omega);have hv:=(U.I I).I hg;refine Qc<|x Zl<|Qb<|Qe<|Qc<|Qr O hu O O<|Qa<|Qw<|(Qd5 (nms:=(qx.take k).map (·.nm)) (capt:=[sP b1,sP b5]) (J.nm q he) (λw' L hh hL=>Qif (hv.I hh) (hB.I hh) (((J.I hg).up (λb hb=>.inr (hL b hb))).I hh) hk O)).Y ?_;rintro r7 w7 ⟨rfl,hj⟩;refine Qb ?_;have S:=hg.D hj;refine Ql<|ZI O O<|xe<|Za O (λY=>?_) (λY=>?_)
  ·have e1:YT sz [] (qx.map (·.x))=UF ((qx.take k).map (·.nm)) q.nm:=by rw[<-hck];exact OQ Y
   refine Ql<|Qb<|Qj ⟨[_],La,by rw[hH (by rw[e1];exact Y),e1];rfl,G.D (I.D S)⟩
  have hw:(if Km sz q.ls≠0 then Km sz q.ls else YT sz ((qx.take k).map (·.nm)++[q.nm]) ((qx.drop (k+1)).map (·.x)))=YT sz [] (qx.map (·.x)):=by rw[<-hck];exact(OP Y).symm
  refine Qf<|Qc<|QY (hv.I hj) O O<|QY (hu.I hj) O O<|Qw<|(V3 (((hS.I G).I I).I S) (ho.I S)).Y ?_;rintro r8 w8 ⟨rfl,hC⟩;refine Qb ?_;have hy:=S.D hC;refine Ql<|ZI O O<|xe<|Za O (λT=>?_) (λT=>?_)
  ·have e1:YT sz [] (qx.map (·.x))=Km sz q.ls:=by rw[<-hw];exact OQ T
   have hI:Km sz q.ls≠0:=T;refine Ql<|Qb<|Qj ⟨[_],La,by rw[hH (by rw[e1];exact hI),e1];rfl,G.D (I.D hy)⟩
  have hD:YT sz ((qx.take k).map (·.nm)++[q.nm]) ((qx.drop (k+1)).map (·.x))=YT sz [] (qx.map (·.x)):=by rw[<-hw];exact(OP T).symm
  refine Qf<|Qs<|QC O O<|Qa<|xe ?_;exact⟨k+1,oa,La,E,I.D hy,by rw[hm];exact hD⟩
 have E:k<sz.length:=by have h0:(k:Int)<(sz.length:Int):=h2;omega
 rw[QX E,List.any_cons]at ha;refine Qf<|Qe<|Qn<|Qc<|xii (hS.I G) O O E λgc h0=>?_;refine Zf (sz[k]'E) λn hn=>?_;rw[hn]at h0 ha;refine x (Qq h0 O)<|Qb<|QV (α:=Bool) [(26,31)] (λz=>[(31,.bool z)]) (λz w'=>w'=w2/\z=K6 n) oh ?_ ?_
 ·refine Qs<|Qa<|xb (Yw O O) (λhE=>?_) (λhE=>?_)
  ·refine Qa<|YD<|QA O<|xe ?_;exact⟨_,La,O,by unfold K6;rw[OT hE];rfl⟩
  refine Qa<|Qa<|x (Z2 O O)<|QA O<|xe ?_;exact⟨_,La,O,by unfold K6;rw[OV hE];rfl⟩
 rintro z g V ⟨rfl,rfl⟩;refine Q9 rfl (λhF=>?_) (λhF=>?_)
 ·refine Qc<|Qb<|Qj ⟨[_],La,by unfold Y8;rw[OP hz,OQ (by rw[<-ha,hF];rfl)];rfl,G⟩
 rw[hF,Bool.false_or]at ha;refine Qf<|Qs<|QC O O<|Qa<|xe ?_;exact⟨k+1,oa,La,E,O,ha⟩
theorem QcT {α:Type}(q:α->Bool):∀(l:List α) (i:Nat),fix q i l=-1\/((i:Int)<=fix q i l/\fix q i l<(i:Int)+l.length)
 | [],i=>.inl O
 | a::l,i=>by
  rw[Yq];split
  ·right;simp only[oQ];omega
  rcases QcT q l (i+1)with h|h
  ·exact .inl h
  right;simp only[oQ];omega
theorem zr {α:Type}(q:α->Bool)(m:List α):∀(l:List α) (i:Nat),fix q i (l++m)=if 0<=fix q i l then fix q i l else fix q (i+l.length) m
 | [],i=>by
  show fix q i m=if(0:Int)<=-1 then(-1)else fix q i m
  rw[OP og]
 | a::l,i=>by
  rw[Mo,Yq,Yq];by_cases h:q a=true
  ·rw[OQ h,OQ h,OQ oa]
  rw[OP h,OP h,zr q m l (i+1),LL];rw[show i+1+l.length=i+(l.length+1) by omega]
theorem yX {α:Type}(q:α->Bool)(d:Nat):∀(l:List α) (i:Nat),fix q (i+d) l=if 0<=fix q i l then fix q i l+d else -1
 | [],i=>rfl
 | a::l,i=>by
  rw[Yq,Yq];by_cases h:q a=true
  ·rw[OQ h,OQ h,OQ oa];omega
  rw[OP h,OP h,show i+d+1=(i+1)+d by omega,yX q d l (i+1)]
theorem KS {α β:Type}(q:β->Bool)(g:α->β):∀(l:List α) (i:Nat),fix q i (l.map g)=fix (λa=>q (g a)) i l
 | [],i=>rfl
 | a::l,i=>by rw[LU,Yq,Yq,KS q g l (i+1)]
theorem Qm0 [Fu sV gp fn]{q:(Int×Int)->Bool}{v:OY}{l:xq}(h:Zs L ↑w v l.length 2 (l.flatMap Zg))
  (G:∀e∈l,∀(E:OX),sW w E->QT sV gp ([sT (Zg e)]++cap) E λr w'=>r=.bool (q e)/\sW E w'):
  QT sV 299 [v,.func (.func gp) #[] cap.toArray] w λr w'=>r=sS (fix q 0 l)/\sW w w' :=
 ixG ⟨_,O,func299⟩ XH (ldA XH) h G
theorem Qnt [Fu sV gp fn]{q:(Int×Int)->Bool}{v:OY}{l:xq}(h:Zs L ↑w v l.length 2 (l.flatMap Zg))
  (G:∀e∈l,∀(E:OX),sW w E->QT sV gp ([sT (Zg e)]++cap) E λr w'=>r=.bool (q e)/\sW E w'):
  QT sV 269 [v,.func (.func gp) #[] cap.toArray] w λr w'=>r=.bool (l.any q)/\sW w w':=by
 refine Zn func269 ?_;refine Qc<|Qb<|Ql<|Qa<|Kr<|(Qm0 h G).Y ?_;rintro J E ⟨rfl,I⟩;refine x (Yd O O)<|Qb<|Qj ⟨[_],La,OR Value.bool (VY q l 0),I⟩
theorem zH (sz:LI):∀(ls:xq) (pr:Option Int),XD sz pr ls=0->(∀p∈ls,0<=p.1/\p.1<(sz.length:Int))/\YN (ls.map (·.1))/\∀y,pr=some y->∀p∈ls,y<p.1
 | [],pr,_=>⟨λp E=>(by cases E),List.Pairwise.nil,λy _ p E=>(by cases E)⟩
 | l::ls,pr,h=>by
  unfold XD at h;split at h
  ·cases h
  rename_i V;split at h
  ·cases h
  rename_i I;split at h
  ·cases h
  obtain⟨J,S,T⟩:=zH sz ls (some l.1) h;have G:=T l.1 O;refine⟨λp E=>?_,L2.2 ⟨λx hx=>?_,S⟩,λy U p E=>?_⟩
  ·rcases Ll.1 E with rfl|E
   ·omega
   exact J p E
  ·obtain⟨p,E,rfl⟩:=Lz.1 hx;exact G p E
  subst U;have Y:¬l.1<=y:=λe=>I (OT e);rcases Ll.1 E with rfl|E
  ·omega
  have:=G p E;omega
theorem zF (sz:LI):∀(ls:xq) (pr:Option Int),JA sz pr ls=0->(∀p∈ls,0<=p.1/\p.1<(sz.length:Int)/\-65536<=p.2/\p.2<=65536)/\YN (ls.map (·.1))/\∀y,pr=some y->∀p∈ls,y<p.1
 | [],pr,_=>⟨λp E=>(by cases E),List.Pairwise.nil,λy _ p E=>(by cases E)⟩
 | l::ls,pr,h=>by
  unfold JA at h;split at h
  ·cases h
  rename_i h1;split at h
  ·cases h
  rename_i J;split at h
  ·cases h
  rename_i S;obtain⟨T,U,V⟩:=zF sz ls (some l.1) h;have G:=V l.1 O;have I:grt l.2=false:=by cases Y:grt l.2 with|true=>exact OS (.inr Y) S|false=>rfl
  unfold grt at I;simp only[oZ,decide_eq_false_iff_not]at I;refine⟨λp E=>?_,L2.2 ⟨λx hx=>?_,U⟩,λy hy p E=>?_⟩
  ·rcases Ll.1 E with rfl|E
   ·omega
   exact T p E
  ·obtain⟨p,E,rfl⟩:=Lz.1 hx;exact G p E
  subst hy;have h8:¬l.1<=y:=λe=>J (OT e);rcases Ll.1 E with rfl|E
  ·omega
  have:=G p E;omega
theorem UU (sz:LI):∀(l:List Exc) (sn:List ByteArray),YT sz sn l=0->∀x∈l,Km sz x.ls=0
 | [],_,_,x,hx=>by cases hx
 | a::l,sn,h,x,hx=>by
  unfold YT at h;split at h
  ·rename_i E;exact OS h E
  split at h
  ·rename_i E;exact OS h E
  rename_i E;rcases Ll.1 hx with rfl|hx
  ·exact Lr.1 E
  exact UU sz l _ h x hx
theorem UW (sz:LI):∀(l:List xG) (sn:List ByteArray),Xg sz sn l=0->∀x∈l,Xk sz x=0
 | [],_,_,x,hx=>by cases hx
 | a::l,sn,h,x,hx=>by
  unfold Xg at h;split at h
  ·rename_i E;exact OS h E
  split at h
  ·rename_i E;exact OS h E
  rename_i E;rcases Ll.1 hx with rfl|hx
  ·exact Lr.1 E
  exact UW sz l _ h x hx
structure Qqj (sz:LI)(ex:List Exc)(cs:List xG):Prop where
 s8:sz.length<=8
 s:∀n∈sz,1<=n/\n<=4096
 xl:ex.length<=32
 kl:cs.length<=32
 x:∀e∈ex,∀p∈e.ls,0<=p.1/\p.1<(sz.length:Int)
 k:∀e∈cs,(∀p∈e.ts,0<=p.1/\p.1<(sz.length:Int)/\-65536<=p.2/\p.2<=65536)/\e.ts.length<=8
theorem QbM {sz:LI}{ex:List Exc}{cs:List xG}(h:Y8 sz ex cs=0):Qqj sz ex cs:=by
 unfold Y8 at h;split at h
 ·cases h
 rename_i Y;split at h
 ·cases h
 rename_i T;split at h
 ·cases h
 rename_i ha;split at h
 ·rename_i hx;exact OS h hx
 rename_i hx;refine⟨oa,λn U=>?_,oa,oa,λe I p G=>?_,λe I=>?_⟩
 ·have E:K6 n=false:=by
   cases hb:K6 n with
   | false=>rfl
   | true=>exact OS (List.any_eq_true.2 ⟨n,U,hb⟩) T
  unfold K6 at E;simp only[oZ,decide_eq_false_iff_not]at E;omega
 ·have E:=UU sz ex [] (Lr.1 hx) e I;unfold Km at E;split at E
  ·cases E
  exact(zH sz e.ls none E).1 p G
 have E:=UW sz cs [] h e I;unfold Xk at E;split at E
 ·cases E
 split at E
 ·rename_i J;exact OS E J
 rename_i J;obtain⟨S,V,_⟩:=zF sz e.ts none (Lr.1 J);refine⟨S,?_⟩;have:=xD sz.length (e.ts.map (·.1)) (List.Pairwise.imp (λ{a b} (h:a<b)=>(by omega:a≠b)) V) (λx hx=>by
  obtain⟨p,G,rfl⟩:=Lz.1 hx;exact⟨(S p G).1,(S p G).2.1⟩)
 rw[Lj]at this;omega
def Qlw (sz t:LI):Prop:=t.length=sz.length/\∀i,i<t.length->0<=O2 t i/\O2 t i<O2 sz i
theorem QeN (t:LI)(p:Int×Int)(l:xq)(s:Int):(l++[p]).foldl (λs p=>s+p.2*t.getD p.1.toNat 0) s=l.foldl (λs p=>s+p.2*t.getD p.1.toNat 0) s+p.2*O2 t p.1.toNat:=by
 rw[Mg];rfl
theorem Qga {nm:ByteArray}{ts:xq}{bd:Int}{t:LI}(Y:P2s [] ↑w vl ts)(ht:Qt [] ↑w vt t)
  (hm:∀p∈ts,0<=p.1/\p.1<(t.length:Int)/\-65536<=p.2/\p.2<=65536) (h8:ts.length<=8) (hn:∀i,i<t.length->0<=O2 t i/\O2 t i<=4096):
  QT sV 272 [.agg #[.string nm,vl,sS bd],vt] w λr w'=>r=sS (Qoe t ⟨nm,ts,bd⟩)/\sW w w':=by
 refine Zn func272 ?_;refine Qc<|Zd [.string nm,vl,sS bd] λb2 w1 ha hy ho=>Qb<|Qc<|Qb<|Qe<|Qc<|Qr O ho O O<|QG (Y.I ha) O<|Qa<|xe<|QW (α:=Nat×Int) [(5,5),(7,7),(11,25)] (λz=>[(5,sS z.2),(11,sS z.1)]) (λz w'=>z.1<=ts.length/\sW w w'/\z.2=(ts.take z.1).foldl (λs p=>s+p.2*t.getD p.1.toNat 0) 0/\-(268435456*(z.1:Int))<=z.2/\z.2<=268435456*(z.1:Int)) (λz=>ts.length - z.1) (0,0) ov
  ⟨Ln _,ha,O,oe,oe⟩ ?_
 rintro⟨k,s⟩ g w2 ⟨hk,S,T,hz,h0⟩;refine Zi rfl O (λU=>?_) (λU=>?_)
 ·refine Qu ?_;have hp:ts.length<=k:=by have I:¬(k:Int)<(ts.length:Int):=U;omega
  rw[Lq hp]at T;refine Ql<|Qb<|Qj ⟨[_],La,by rw[T];rfl,S⟩
 have E:k<ts.length:=by have I:(k:Int)<(ts.length:Int):=U;omega
 have V:=hm _ (Lk E);have hf:ts.take (k+1)=ts.take k++[ts[k]'E]:=Lh E;refine Qf<|Qe<|Qn<|Qc<|O4 XH (Y.I S) O O E λh3 I=>?_;refine Zf (ts[k]'E) λe he=>?_;rw[he]at I V hf;refine x (QE I O O)<|QP [sS 0,sS 0] λb7 w3 hq hr J=>Q0 (Zg e) J ov λw4 hs J=>xe ?_;have hu:sW w2 w4:=hq.O hs hr;have hg:=S.D hu;have hv:e.1=((e.1.toNat:Nat):Int):=oa
 have hh:e.1.toNat<t.length:=oa
 have hj:=hn _ hh;have h4:-268435456<=e.2*O2 t e.1.toNat/\e.2*O2 t e.1.toNat<=268435456:=by
  have h1:(-65536)*O2 t e.1.toNat<=e.2*O2 t e.1.toNat:=Int.mul_le_mul_of_nonneg_right V.2.2.1 hj.1;have h2:e.2*O2 t e.1.toNat<=65536*O2 t e.1.toNat:=Int.mul_le_mul_of_nonneg_right V.2.2.2 hj.1;omega
 refine Zf (e.2*O2 t e.1.toNat) λpr h5=>?_;refine ZJ [] (Y4 0 11 [])<|p Qy<|p (QH O)<|pq (λ_ G=>Qk (J.I G) O O)<|p Qy<|p (QH O) <|
  pq (λ_ G=>Qk (J.I G) O O)<|pic (i:=e.1.toNat) O (ht.I hg) O (OR sS hv) hh λh6 hw=>pq (λ_ G=>Qq (hw.I G) O) <|
  p (λ_=>QgJ O O ⟨oa,oa⟩)<|p (λ_=>YE O O ⟨oa,oa⟩)<|p ZK<|pe ?_
 refine Qs<|QC O O<|Qa<|xe<|⟨(k+1,s+e.2*O2 t e.1.toNat),oe,ov,E,hg.D (O1.C _ _),?_,oe,oe⟩;simp only[];rw[hf,QeN,<-T]
theorem Qie {bt:Nat}{t:LI}(J:QK ↑w bt 47 [vt])(S:Qt [] ↑w vt t)(e:Int×Int)(Y:0<=e.1/\e.1<(t.length:Int)):
  QT sV 270 ([sT (Zg e)]++[sP bt]) w λr w'=>r=.bool (!decide (t.getD e.1.toNat 0=e.2))/\sW w w':=by
 refine Zn func270 ?_;refine Qc<|Zd (Zg e) λb2 w1 G ha I=>Qb ?_;have T:e.1=((e.1.toNat:Nat):Int):=oa
 have U:e.1.toNat<t.length:=oa
 refine Qe<|ZJ [] (Y4 0 9 [])<|pq (λ_ E=>Qk ((J.I G).I E) O O)<|p (QH O)<|pq (λ_ E=>Qk (I.I E) O O)<|pic (i:=e.1.toNat) O (S.I G) O (OR sS T) U λa7 V =>
  pq (λ_ E=>Qq (V.I E) O)<|p (QH O)<|pq (λ_ E=>Qk (I.I E) O O)<|p (λ_=>Kw O O) <|
  p ZK<|pe ?_
 refine Qj ⟨[_],La,?_,G.D (O1.C _ _)⟩;show Value.bool (decide (¬O2 t e.1.toNat=e.2))=_;unfold O2;simp
theorem Qf8 (t:LI)(x:Exc):(!(x.ls.any λl=>!decide (t.getD l.1.toNat 0=l.2)))=Vb t x:=by
 unfold Vb;induction x.ls with
 | nil=>rfl
 | cons a l ih=>rw[List.any_cons,Mz,<-ih];cases decide (t.getD a.1.toNat 0=a.2) <;> simp
theorem QkZ {b:Nat}{q:XV}{t:LI}(J:QK ↑w b 186 (ZY q))(S:P2s [] ↑w q.v q.ls)(I:Qt [] ↑w vt t)(T:∀p∈q.ls,0<=p.1/\p.1<(t.length:Int)):
  QT sV 268 ([vt]++[sP b]) w λr w'=>r=.bool (Vb t q.x)/\sW w w':=by
 refine Zn func268 ?_;refine Qc<|Qo<|UR (us:=[vt]) I.cells λU w1 E ha V=>Qb<|Qc<|Qr O (J.I E) O O<|x Zl<|Qw<|(Qnt (q:=λl=>!decide (t.getD l.1.toNat 0=l.2)) (cap:=[sP U]) (S.I E) (λe Y w2 G=>Qie (V.I G) ((I.I E).I G) e (T e Y))).Y ?_;rintro r2 w2 ⟨rfl,G⟩;refine x (Zh O)<|Qb<|Qj ⟨[_],La,OR Value.bool (Qf8 t q.x),E.D G⟩
theorem QkY {b:Nat}{q:KV}{t:LI}(G:QK ↑w b 191 (Yb q))(J:P2s [] ↑w q.v q.ts)(S:Qt [] ↑w vt t)
  (T:∀p∈q.ts,0<=p.1/\p.1<(t.length:Int)/\-65536<=p.2/\p.2<=65536) (U:q.ts.length<=8) (V:∀i,i<t.length->0<=O2 t i/\O2 t i<=4096):
  QT sV 271 ([vt]++[sP b]) w λr w'=>r=.bool (Ue t q.k)/\sW w w':=by
 refine Zn func271 ?_;refine Qc<|Qb ?_;have hd:sW w { w with drawn:=w.drawn+1 }:=O1.C _ _
 refine Qe<|Vq (sW { w with drawn:=w.drawn+1 }) [oz 0,oz 1,oz 3,oz 4,oA 2,oz 5,oz 6] mixed oh oc (O1.Z _ _) ?_
 refine pq (λ_ E=>Zj ((G.I hd).I E) O O)<|p Qy<|p (QH O)<|pq (λ_ E=>Qk ((G.I hd).I E) O O)<|pk<|xg<|(Qga (J.I hd) (S.I hd) T U V).Y ?_;rintro Y w1 ⟨rfl,I⟩;refine⟨I,?_⟩;refine p (λ_=>Z2 O O)<|p ZK<|pe ?_;exact Qj ⟨[_],La,O,hd.D I⟩
end Go.Lg
