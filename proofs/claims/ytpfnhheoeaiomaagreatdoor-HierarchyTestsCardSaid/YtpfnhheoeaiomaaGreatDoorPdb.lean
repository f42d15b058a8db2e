/- Merged out of 47 texts. -/
import Derived.Test.YtpfnhheoeaiomaaGreatDoorPda
import Derived.Laws.Strings
import Derived.RangeFuncNested
import Derived.RangeFuncLeaves
import Derived.RangeFuncCalls
import Derived.OrdersIn
import Derived.TacticsIn
set_option maxHeartbeats 40000000
set_option maxRecDepth 100000
set_option linter.all false
open Go Go.Lg
open Go.Value renaming int->oB
open Go.IntKind renaming i64->oC
open _root_.List renaming mem_singleton->oF,replicate->oG,not_mem_nil->oH,range->oJ,mem_cons->oK,length_singleton->oL,length_append->oM,range'->oN,getD->oO,length_cons->oQ,getElem?_toArray->oR,map_cons->oS,flatMap_cons->oT,getElem?_eq_getElem->oU,mem_append->oV,length->oW,cons_append->oZ,getElem?_append_left->Oa,all_cons->Ob,headD_cons->Oc,size_toArray->Od,append_assoc->Of,tail_cons->Og,all_eq_true->Oh,append_nil->Ol,getElem_cons_zero->Om,singleton_append->Oo,mem_filter->Ot,mem_map->Ow,mem_range'_1->Ox,range'_succ->Oy,pairwise_cons->OA,filter_cons->OF,map_nil->OG,take_length->OH
open _root_.Bool renaming and_eq_true->oI,or_eq_false_iff->oY,not_eq_true'->Oe,false_eq_true->Oi
open _root_.Array renaming replicate->oP
open _root_.Nat renaming zero_add->oX,add_mul->On,one_mul->OJ,sub_zero->OL,pow_succ->OM,mul_one->OO,beq->OP
open _root_.Option renaming map_some->OC
open Go renaming World->OZ,Value->O0,Operand->O1,Program->O2
open Go.Proofs Go.Proofs.Tryz
open Go.Proofs.Tryz renaming prog->sV
variable {w w' W':OZ}{L L' ds ns:LN}{n t i sz base T N j E m g id B kt ty G lo hi et gp:Nat}{a:QD}{l o u un al ul li out rs:LI}{cs us cap capt:LV}{α β:Type}{y:O1}{va ve vm z vt vl vs vk v' vx vr vo:O0}{f:Fr}{P:O2}{aa:List QD}{fn:Func}{s:Int}{es ed:List Ed}{K:xw}{d:xD}{pS:String}{af:xA}{gd:xp}{k':IntKind}{at_:Array Nat}{ops:xC}{q:Prop}
namespace Go.Lg
class Ay (P:O2)(t:Nat)(m e sz:outParam Nat):Prop where
 u:P.underlying t=some (.array m e)
 i:(P.info? e).map (·.size)=some sz
theorem ZR {x:O1}{e:Nat}[h:Ay P t m e sz]{b o:Nat}{k:IntKind}(hx:ev f x=.pointer (some ⟨b,o,none⟩))(G:ev f y=.int k i)(I:i<m):
  (execOp (ev f) ⟨d,.indexAddr t x y,ty,pS,af,gd⟩).run P w=.ok (.value (.pointer (some ⟨b,o+i*sz,none⟩))) w:=by
 have hi:=h.i;cases E:P.info? e with
 | none=>simp[E]at hi
 | some ii =>
  simp[E]at hi;simp[execOp,hx,G,Instr.indexAt,asIntOf,run_underlying h.u,Instr.sureAddr,sizeOf,typeInfo,E,hi,XK];intro J;omega
theorem Qmo {a b:Nat}(E:a<256):inK .u8 ((a &&& b:Nat):Int):=by
 have:a &&& b<=a:=Nat.and_le_left;exact⟨oa,oa⟩
theorem UD {x:O1}{a b:Nat}(hx:ev f x=.int .u8 a)(I:ev f y=.int .u8 b)(E:a<256)(hb:b<256):
  (execOp (ev f) ⟨d,.binOp .and t x y G,ty,pS,af,gd⟩).run P w=.ok (.value (.int .u8 ((a &&& b:Nat):Int))) w:=by
 refine JU hx I ?_;simp only[binOp,Op.intBits,BitVec.ofInt_natCast,ne_eq,not_true_eq_false,if_false,Sem.run_pure];rw[BitVec.toNat_and,BitVec.toNat_ofNat,BitVec.toNat_ofNat,NG (show a<2 ^ IntKind.u8.bits from E),NG (show b<2 ^ IntKind.u8.bits from hb),Xz (Qmo E)]
theorem jV (m i:Nat):((m:Int) / 2 ^ i)=((m / 2 ^ i:Nat):Int):=by rw[Int.natCast_ediv,Int.natCast_pow];rfl
inductive Pt where
 | pl (l:xq)
 | fk (pre:xq) (i j:Nat) (t1 t2:Pt)
def Pt.len:Pt->Nat
 | .pl l=>l.length
 | .fk pre _ _ t1 _=>pre.length+(1+t1.len)
def X1 (all:Array Oper):xq->Array Bool->Bool
 | [],_=>true
 | (k,q)::pl,ls=>q && (Region.ready .any all ls).contains k && Region.free .any all ls k && X1 all pl (ls.setIfInBounds k true)
def ZN:xq->Array Bool->Array Bool
 | [],ls=>ls
 | (k,_)::pl,ls=>ZN pl (ls.setIfInBounds k true)
def Qhw (all:Array Oper):Pt->Array Bool->Bool
 | .pl l,ls=>Y8 all l ls
 | .fk pre i j t1 t2,ls=>X1 all pre ls && Region.ready .any all (ZN pre ls) == [i,j] && t1.len == t2.len && Qhw all t1 ((ZN pre ls).setIfInBounds i true) && Qhw all t2 ((ZN pre ls).setIfInBounds j true)
def XT (P:O2)(all:xC)(C:xx)(K:xw):Pt->Fr->OZ->Prop
 | .pl l=>XP P all C K l
 | .fk pre i j t1 t2=>XP P all C (λf w=>(Z1 all f (QR all i)=true/\XO P (QR all i) f w λE w'=>C w'/\XT P all C K t1 E w') /\
   (Z1 all f (QR all j)=true/\XO P (QR all j) f w λE w'=>C w'/\XT P all C K t2 E w')) pre
section
variable {all:xC}{C:xx}{B:xw}
theorem YD:∀(pl:xq) (ls:Array Bool),(ZN pl ls).size=ls.size
 | [],_=>rfl
 | (k,q)::pl,ls=>by rw[ZN,YD];simp
theorem Yz {m:Nat}(S:Region.noSelect all.toArray=true):∀(pl:xq) (ls:Array Bool) (f:Fr) (w:OZ),C w->X1 all.toArray pl ls=true ->
  (∀f,B f w->XA P all C K m (ZN pl ls) f w)->XP P all C B pl f w->XA P all C K (pl.length+m) ls f w
 | [],ls,f,w,hC,T,G,h=>by
  simp only[XP]at h;rw[List.length_nil,LS];exact G f h
 | (I,q)::pl,ls,f,w,hC,T,G,h=>by
  simp only[X1,oI]at T;obtain⟨⟨⟨rfl,hr⟩,hf⟩,Y⟩:=T;simp only[XP]at h;have U:I∈Region.ready .any all.toArray ls:=by simpa using hr
  have e:(oW ((I,true)::pl))+m=(pl.length+m)+1:=by simp;omega
  rw[e];cases E:all[I]? with
  | none =>
   exfalso;obtain⟨_,o,he,_⟩:=mem_ready.1 U;simp[E]at he
  | some o =>
   rw[ZF E]at h;have ha:∀(j:Nat) (o:Oper) cs b,all[j]?=some o->o.op≠.select cs b:=λj o cs b V=>Region.noSelect_spec S j o cs b (ou V);have hc:=λj oj V=>Region.free_spec (ops:=all.toArray) (md:=.any) (i:=I) (oi:=o) (listed:=ls) (ou E) hf j oj (ou V);cases J:Z1 all f o with
   | false =>
    rw[J]at h;exact J5 (v:=undef) (D:=λw=>yv o=true->C w) E (λ_ h=>h) ha _ ls f w (λ_=>hC) hc U (.inr ⟨J,O⟩) (Yz S pl _ _ _ hC Y G h)
   | true =>
    rw[J]at h;simp only[cond_true]at h;obtain⟨v,hv,hx⟩:=h;exact J5 (v:=v) (D:=λw=>yv o=true->C w) E (λ_ h=>h) ha _ ls f w (λ_=>hC) hc U (.inl ⟨J,hv⟩) (Yz S pl _ _ _ hC Y G hx)
theorem VB (E:Region.noSelect all.toArray=true):∀(t:Pt) (ls:Array Bool) (f:Fr) (w:OZ),ls.size=all.length->C w->Qhw all.toArray t ls=true->XT P all C K t f w->XA P all C K t.len ls f w
 | .pl l,ls,f,w,I,hC,G,h=>Ym E l ls f w I (.inl hC) G h
 | .fk pre i j t1 t2,ls,f,w,I,hC,G,h=>by
  simp only[Qhw,oI,beq_iff_eq]at G;obtain⟨⟨⟨⟨hq,J⟩,hl⟩,h1⟩,h2⟩:=G;rw[Pt.len];refine Yz (B:=λf w=>(Z1 all f (QR all i)=true/\XO P (QR all i) f w λS w'=>C w'/\XT P all C K t1 S w') /\
   (Z1 all f (QR all j)=true/\XO P (QR all j) f w λS w'=>C w'/\XT P all C K t2 S w')) E pre ls f w hC hq (λf T=>?_) h
  have U:∀k,((ZN pre ls).setIfInBounds k true).size=all.length:=λk=>by simp[YD,I]
  rw[MS 1];refine JH (λh0=>(by rw[h0]at J;cases J)) ?_;rw[J];intro k V o Y;simp only[oK,oH,or_false]at V;rcases V with rfl|rfl
  ·have:=T.1;rw[ZF Y]at this;rw[this.1,cond_true];exact this.2.S λv w' hx=>⟨.inr (.inr hx.1),VB E t1 _ _ _ (U _) hx.1 h1 hx.2⟩
  have:=T.2;rw[ZF Y]at this;rw[this.1,cond_true,hl];exact this.2.S λv w' hx=>⟨.inr (.inr hx.1),VB E t2 _ _ _ (U _) hx.1 h2 hx.2⟩
end
theorem Yw.lt_of {a:Int}(h:Yw (a::l)){x:Int}(hx:x∈l):a<x:=(L4.1 h).1 x hx
theorem Yw.tail {a:Int}(h:Yw (a::l)):Yw l:=(L4.1 h).2
theorem Qlf (keep:Bool->Bool->Bool):∀(n:Nat) (a b:LI),a.length+b.length<=n->Yw a->Yw b->∀x,x∈mrg keep a b↔(x∈a\/x∈b)/\keep (decide (x∈a)) (decide (x∈b))=true:=by
 intro n;induction n with
 | zero =>
  intro a b h _ _ x;have U:a=[]:=Ls oa;have hb:b=[]:=Ls oa;subst U hb;simp[Kh]
 | succ n ih =>
  intro a b I ia ib x;cases a with
  | nil =>
   cases b with
   | nil=>simp[Kh]
   | cons y b =>
    rw[J0 keep od];have:=ih [] b (by simp at I ⊢;omega) ia ib.tail x;have G:y∉b:=λh=>oo (ib.lt_of h)
    simp only[X3,tl,hx,cond_true,cond_false,Og,Oc,oV];rw[this];by_cases e:x=y
    ·subst e;cases E:keep false true <;> simp[E,G]
    cases keep false true <;> simp[e]
  | cons u a =>
   cases b with
   | nil =>
    rw[J0 keep od];have:=ih a [] (by simp at I ⊢;omega) ia.tail ib x;have G:u∉a:=λh=>oo (ia.lt_of h)
    simp only[X3,tl,hx,cond_true,cond_false,Og,Oc,oV];rw[this];by_cases e:x=u
    ·subst e;cases E:keep true false <;> simp[E,G]
    cases keep true false <;> simp[e]
   | cons y b =>
    rw[J0 keep od];have T:u∉a:=λh=>oo (ia.lt_of h)
    have G:y∉b:=λh=>oo (ib.lt_of h)
    rcases Int.lt_trichotomy u y with J|J|J
    ·have S:u∉y::b:=λh=>by
      rcases Ln.1 h with h|h
      ·omega
      have:=ib.lt_of h;omega
     have:=ih a (y::b) (by simp at I ⊢;omega) ia.tail ib x;have e1:decide (u<=y)=true:=OV oa;have e2:decide (y<=u)=false:=OX oa;simp only[X3,tl,hx,e1,e2,cond_true,cond_false,Og,Oc,oV];rw[this];by_cases e:x=u
     ·subst e;cases E:keep true false <;> simp[E,T,S]
     cases keep true false <;> simp[e]
    ·subst J;have:=ih a b (by simp at I ⊢;omega) ia.tail ib.tail x;have e1:decide (u<=u)=true:=OV oa;simp only[X3,tl,hx,e1,cond_true,Og,Oc,oV];rw[this];by_cases e:x=u
     ·subst e;cases E:keep true true <;> simp[E,T,G]
     cases keep true true <;> simp[e]
    have S:y∉u::a:=λh=>by
     rcases Ln.1 h with h|h
     ·omega
     have:=ia.lt_of h;omega
    have:=ih (u::a) b (by simp at I ⊢;omega) ia ib.tail x;have e1:decide (u<=y)=false:=OX oa;have e2:decide (y<=u)=true:=OV oa;simp only[X3,tl,hx,e1,e2,cond_true,cond_false,Og,Oc,oV];rw[this];by_cases e:x=y
    ·subst e;cases E:keep false true <;> simp[E,G,S]
    cases keep false true <;> simp[e]
theorem qG {keep:Bool->Bool->Bool}{a b:LI}(ia:Yw a)(ib:Yw b)(x:Int):x∈mrg keep a b↔(x∈a\/x∈b)/\keep (decide (x∈a)) (decide (x∈b))=true :=
 Qlf keep _ a b (Lp _) ia ib x
def setK (m k:Nat):LI:=((oN 0 k).filter λi=>decide (((m / 2 ^ i) &&& 1)=1)).map λi:Nat=>(i:Int)
theorem yR (m k:Nat):setK m (k+1)=if(m / 2 ^ k) &&& 1=1 then setK m k++[(k:Int)]else setK m k:=by
 unfold setK;rw[Mo,LR,Lv,LS];by_cases h:(m / 2 ^ k) &&& 1=1
 ·rw[OS h,L7,OS (OV h)];rfl
 rw[OR h,L7,OR (by rw[OX h];simp),MY,Nm,LF]
theorem VK (m:Nat):∀k,(setK m k).length<=k
 | 0=>by simp[setK]
 | k+1=>by
  have:=VK m k;rw[yR];split
  ·simp;omega
  omega
theorem Qbm (m k:Nat):Yw (setK m k):=by
 unfold setK Yw;rw[L8];refine List.Pairwise.sublist MT ?_;exact(Nk (s:=0) (n:=k)).imp (λh=>oa)
instance ayCx1:Ay sV 183 4 5 1:=⟨oc,oc⟩
theorem qg {e bys:Nat}[h:Sl P t e sz bys z]{v:O0}(E:w.ownsRow base e sz v n cs):
  (Builtin.append_ #[t,t] ty #[v,nS]).run P w=.ok v w:=by
 obtain⟨i,hi,_,I,_⟩:=Sl.info h;rcases E.2 with⟨rfl,rfl⟩|⟨g,cap,cur,rfl,J,S,G,T,U,V⟩
 ·simp[Builtin.append_,run_underlying h.u,sizeOf,typeInfo,hi,Builtin.lenOf,Builtin.firstCells]
 simp[Builtin.append_,run_underlying h.u,sizeOf,typeInfo,hi,Builtin.lenOf,Builtin.firstCells,G,storeCells]
theorem Qah {e bys:Nat}[h:Sl P t e sz bys z]{s:O1}{v:O0}(E:w.ownsRow base e sz v n cs)(G:ev f s=v)
  {I:O0}  {news:LV}  (hA:Zs L ↑w I m sz news) (J:ev f y=I) (S:∀u∈news,u.oneCell'=true)
  (hb:n+m<=1099511627776) (T:base<=↑w)
  (hK:∀v' w',w'.ownsRow base e sz v' (n+m) (cs++news)->O3 (ob v) w w'->(∀b∈ob v',b∈ob v\/↑w<=b)->K (QN f d v') w') (U:bys<=128:=by decide):
  XO P ⟨d,.call ⟨.builtin .append,#[s,y],#[t,t]⟩,ty,pS,af,gd⟩ f w K:=by
 rcases hA.2.2 with⟨e1,e2⟩|⟨a,c,e1,_,e3⟩
 ·subst e2;have V:news=[]:=Ls (by have:=hA.1;simpa using this);subst V;have Y:(execOp (ev f) ⟨d,.call ⟨.builtin .append,#[s,y],#[t,t]⟩,ty,pS,af,gd⟩).run P w=.ok (.value v) w:=by
   simp[execOp,resolve,invoke,builtin,G,J,e1,qg (ty:=ty) E]
  exact xv Y (hK v w (ou E) (O3.Y _ _) (λb hb=>.inl hb))
 exact QZ E G (J.D e1) hA.1 e3 S hb T hK U
theorem QeM {v:O0}(h:Qu L ↑w v l)(x:Int):
  QS sV 274 [v,sS x] w λr w'=>r=.bool (decide (x∈l))/\w'=w:=by
 have U:=h.le;refine Zl func274 ?_;refine Qc<|Lg.Qb<|Qe<|Qc<|Lg.Qb<|QX (α:=Nat) [(4,17)] (λk=>[(5,sS k)]) (λk w'=>w'=w/\k<=l.length/\(x∈l↔x∈l.drop k)) (λk=>l.length - k) 0 La ⟨O,Lo _,od⟩ ?_;rintro k g w' ⟨rfl,V,G⟩;refine Qe<|Qc<|Lg.Qa<|Lg.Qa<|Lg.x (YR h O)<|Lg.ZP O O<|xe<|Zn rfl (λS=>?_) (λS=>?_)
 ·refine Qt<|Qc<|Lg.Qb<|Qk ⟨[.bool false],La,?_,O⟩;rw[Lr oa]at G;simp[tup,G]
 have J:k<l.length:=oa
 have hd:=QY J;refine Qf<|Qe<|Qn<|Qc<|Lg.Qa<|Lg.Qa<|xii h O O J λY T=>Lg.x (Qq T O)<|Lg.Qa<|Lg.x (Zd O O)<|xe<|Zh rfl (λI=>?_) (λI=>?_)
 ·refine Qc<|Lg.Qb<|Qk ⟨[.bool true],La,?_,O⟩;have:x∈l:=by rw[G,hd,I];exact Ll
  simp[tup,this]
 refine Qf<|Qr<|Lg.Qa<|Lg.QB O O<|Lg.Qb<|⟨k+1,oa,La,O,oa,?_⟩;rw[G,hd,Ln];exact⟨λh=>h.resolve_left (λe=>I e.symm),.inr⟩
theorem Qbc (h:Uq L ↑w ve a.ed)(s e:Int)(st:Int):
  QS sV 275 [.agg #[va,sS st,vm,ve],sS s,sS e] w λr w'=>r=sS (xd a.ed s e)/\sW w w':=by
 have hg:=h.le;refine Zl func275 ?_;refine Qc<|Zc [va,sS st,vm,ve] λb3 V S hh G=>Lg.Qb ?_
 replace h:=h.I S;refine Qe<|Qc<|Lg.Qb<|QX (α:=Nat) [(6,38)] (λk=>[(7,sS k)]) (λk w'=>w'=V/\k<=a.ed.length/\xd (a.ed.drop k) s e=xd a.ed s e) (λk=>a.ed.length - k) 0 La ⟨O,Lo _,O⟩ ?_;rintro k g Y ⟨rfl,hk,I⟩;refine Qe<|Qc<|Lg.Qa<|Lg.Q7 O<|Lg.x (Qj G O O)<|Lg.x (YR h O)<|Lg.ZP O O<|xe<|Zn rfl (λha=>?_) (λha=>?_)
 ·refine Qt<|Qc<|Lg.Qb<|Qk ⟨[sS (-1)],La,?_,S⟩;rw[Lr oa]at I;rw[<-I];rfl
 have J:k<a.ed.length:=oa
 have hd:=QY J;refine Qf<|Qe<|Qn<|QW (α:=Bool) [(15,32)] (λz=>[(32,.bool z)]) (λz w'=>w'=Y/\z=decide (a.ed[k].1=s/\a.ed[k].2.1=e)) oh ?_ ?_
 ·refine Qr<|Lg.Q7 O<|Lg.x (Qj G O O)<|Lg.Qa<|xie h O O J λhj hc=>Lg.x (ZE O)<|Lg.x (Qq (hc.fld 0 _ O) O) <|
   Lg.Qa<|xb (Zd O O) (λT=>?_) (λT=>?_)
  ·refine Lg.Qa<|Lg.Q7 O<|Lg.x (Qj G O O)<|Lg.Qa<|xie h O O J λhm he=>Lg.x (ZE O)<|Lg.x (Qq (he.fld 1 _ O) O) <|
    Lg.Qa<|Lg.x (Zd O O)<|Lg.Qz O<|xe ?_
   exact⟨_,La,O,by simp[T]⟩
  refine Lg.Qa<|Zw<|Zw<|YG<|Lg.Qz O<|xe ?_;exact⟨_,La,O,by simp[T]⟩
 rintro z g w3 ⟨rfl,rfl⟩;refine Zh rfl (λU=>?_) (λU=>?_)
 ·refine Qc<|Lg.Q7 O<|Lg.x (Qj G O O)<|Lg.Qa<|xie h O O J λho hf=>Lg.x (ZE O)<|Lg.x (Qq (hf.fld 2 _ O) O) <|
   Lg.Qb<|Qk ⟨[sS a.ed[k].2.2],La,?_,S⟩
  rw[<-I,hd,xd,OS U];rfl
 refine Qf<|Qr<|Lg.Qa<|Lg.QB O O<|Lg.Qb<|⟨k+1,oa,La,O,oa,?_⟩;rw[<-I,hd,xd,OR U]
def zz (l:LI)(n:Int):Int:=if n∈l then(l.idxOf n:Int) else -1
theorem Qix {n:Int}{k:Nat}(h:n∉l.take k)(G:k<l.length)(I:O4 l k=n):zz l n=k:=by
 have J:n∈l:=by rw[<-I,<-Zu G];exact Lk G
 unfold zz;rw[OS J];have S:l=l.take k++l.drop k:=(MB k l).symm;have:l.idxOf n=k:=by
  rw[S,Mc,OR h,L6 G,List.idxOf_cons,show l[k]=n by rw[Zu G];exact I];simp;omega
 rw[this]
theorem QfZ {v:O0}(h:Qu L ↑w v l)(n:Int):
  QS sV 276 [v,sS n] w λr w'=>r=sS (zz l n)/\w'=w:=by
 have U:=h.le;refine Zl func276 ?_;refine Qc<|Qb<|Qe<|Qc<|Qb<|QX (α:=Nat) [(4,18)] (λz=>[(5,sS z)]) (λz w'=>w'=w/\z<=l.length/\n∉l.take z) (λz=>l.length - z) 0 La ⟨O,Lo _,od⟩ ?_;rintro k g V ⟨rfl,Y,I⟩;refine Qe<|Ql<|Qa<|QG h O<|ZP O O<|xe<|Zn rfl (λS=>?_) (λS=>?_)
 ·refine Qt<|Qc<|Qb ?_;rw[Lq oa]at I;exact Qk ⟨[sS (-1)],La,by unfold zz;rw[OR I];rfl,O⟩
 have G:k<l.length:=oa
 refine Qf<|Qe<|Qn<|Ql<|Qa<|xic (i:=k) h O O G λha T=>x (Qq T O)<|Qa<|x (Zd O O)<|xe<|Zh rfl (λJ=>?_) (λJ=>?_)
 ·refine Ql<|Qb<|Qk ⟨[sS k],La,by rw[Qix I G J];rfl,O⟩
 refine Qf<|Qr<|Qa<|QB O O<|Qb<|⟨k+1,oa,La,O,G,?_⟩;rw[Lh G,Zu G];simp only[oV,oF,not_or];exact⟨I,λe=>J e.symm⟩
theorem UP {v:O0}(h:Qu L ↑w v l)(hl:l.length<=1000000):
  QS sV 235 [v] w λr w'=>sW w w'/\∃va,r=.agg #[va,sS 0,nS,nS]/\Qh 3 ↑w w' va l:=by
 refine Zl func235 ?_;refine Qc<|QT [nS,sS 0,nS,nS] λb2 G U he V=>xe ?_;have hf:=U.size;have hg:=V.lt;refine Qc<|Qo<|Qdc λb3 w2 I hh hj=>Qa<|?_;have Y:=U.D I;have hq:=I.size;have J:w2.ownsRow ↑G 3 1 (sL b3 0 0) 0 []:=hj.own (n:=0) (sz:=1) O oa hh;refine Qo<|Qah J O (h.I Y) O (VW l) oa oa λva S hk ha hr=>?_;have T:Qh 3 ↑G S va l:=by
  have:S.ownsRow ↑G 3 1 va (0+l.length) ([]++l.map (.int .i64)):=hk;rw[LS,Mr]at this;exact this
 have hA:=Qh.ints (L:=[]) T oa od;have hm:=(V.I I).J ha (QJ J hg);have hn:sW w S:=Y.O ha (λb hb=>.inr (oo (Qi J b hb).1));refine x (QC ⟨hA.cells,Z⟩)<|Q5 [va,sS 0,nS,nS] hm ⟨hA.one,O,O,O,Z⟩ λw4 hc ho=>xe ?_;have hp:=Qg T hc (λb hb=>by have:=(Qi T b hb).1;simp;omega);exact Qk ⟨[.agg #[va,sS 0,nS,nS]],⟨JN ho,Z⟩,hn.Q hc he,va,O,Q9 hp hf⟩
theorem xG:∀(n:Nat) (l:LI),l.Nodup->(∀x∈l,0<=x/\x<n)->l.length<=n
 | 0,l,_,h=>by
  cases l with
  | nil=>simp
  | cons a l=>have:=h a Ll;omega
 | n+1,l,hd,h=>by
  by_cases G:(n:Int)∈l
  ·have J:=xG n (l.erase (n:Int)) (hd.erase _) (λx hx=>by
    have I:=(List.Nodup.mem_erase_iff hd).1 hx;have S:=h x I.2;have T:x≠(n:Int):=I.1;omega)
   rw[List.length_erase_of_mem G]at J;omega
  have:=xG n l hd (λx hx=>by
   have S:=h x hx;have T:x≠(n:Int):=λe=>G (by rw[<-e];exact hx);omega)
  omega
def VG (a:QD)(s:Int)(out:LI)(v:Int):LI:=if 0<=xd a.ed s v/\xd a.ed s v∉out then out++[xd a.ed s v]else out
def fdR (a:QD)(out:LI)(s:Int):LI:=a.al.foldl (VG a s) out
def js (a:QD):Nat->Nat->LI->LI
 | 0,_,out=>out
 | f+1,i,out=>if i<out.length then js a f (i+1) (fdR a out (O4 out i)) else out
def fd0 (a:QD):LI:=if 0<a.st then[0]else[]
def xo (a:QD):LI:=js a a.st.toNat 0 (fd0 a)
structure qu (a:QD)(out:LI):Prop where
 b:∀x∈out,0<=x/\x<a.st
 d:out.Nodup
theorem qu.len (h:qu a out)(G:0<=a.st):out.length<=a.st.toNat:=xG _ _ h.d (λx hx=>oo (h.b x hx))
theorem Qai {v:Int}(h:0<=xd es s v):(s,v,xd es s v)∈es:=by
 induction es with
 | nil=>simp[xd]at h
 | cons e es ih =>
  rw[xd]at h ⊢;split at h
  ·rename_i G;rw[OS G];obtain⟨p,q,r⟩:=e;obtain⟨I,J⟩:=G;subst I J;exact Ll
  rename_i G;rw[OR G];exact Lj _ (ih h)
theorem Qi0 (J:Q8 a)(h:qu a out)(s v:Int):qu a (VG a s out v):=by
 unfold VG;split
 ·rename_i G;have S:=J.ed _ (Qai G.1);refine⟨λx hx=>?_,?_⟩
  ·rcases Le.1 hx with hx|hx
   ·exact h.b x hx
   simp only[oF]at hx;subst hx;exact⟨G.1,S.2.2.2.2⟩
  rw[Md];refine⟨h.d,od,λx hx y I=>?_⟩;simp only[oF]at I;subst I;exact λe=>G.2 (by rw[<-e];exact hx)
 exact h
theorem QlR {v:Int}:∀x∈out,x∈VG a s out v:=λx hx=>by unfold VG;split;exact LM _ hx;exact hx
theorem Qob {v:Int}(h:0<=xd a.ed s v):xd a.ed s v∈VG a s out v:=by
 unfold VG;by_cases G:xd a.ed s v∈out
 ·rw[OR (λe=>e.2 G)];exact G
 rw[OS ⟨h,G⟩];simp
theorem QiY {a:QD}(G:Q8 a)(s:Int):∀(vs:LI) (out:LI),qu a out->qu a (vs.foldl (VG a s) out)
 | [],_,h=>h
 | v::vs,_,h=>QiY G s vs _ (Qi0 G h s v)
theorem QaB {a:QD}{s:Int}:∀(vs:LI) (out:LI),∀x∈out,x∈vs.foldl (VG a s) out
 | [],_,_,hx=>hx
 | _::vs,_,x,hx=>QaB vs _ x (QlR x hx)
theorem QiZ {a:QD}{s:Int}:∀(vs:LI) (out:LI),∀v∈vs,0<=xd a.ed s v->xd a.ed s v∈vs.foldl (VG a s) out
 | v::vs,out,u,G,h=>by
  rcases Ln.1 G with rfl|G
  ·exact QaB vs _ _ (Qob h)
  exact QiZ vs _ u G h
theorem QeQ {a:QD}{s:Int}:∀(vs:LI) (out:LI),∃r,vs.foldl (VG a s) out=out++r
 | [],out=>⟨[],od⟩
 | v::vs,out=>by
  obtain⟨r,G⟩:=QeQ (a:=a) (s:=s) vs (VG a s out v);rw[LO,G];unfold VG;split
  ·exact⟨[xd a.ed s v]++r,od⟩
  exact⟨r,O⟩
theorem z9 {r:LI}(h:i<l.length):O4 (l++r) i=O4 l i:=by
 rw[<-Zu h,<-Zu (by simp;omega),Mq h]
def Cl (a:QD)(out:LI)(i:Nat):Prop:=∀j,j<i->j<out.length->∀v∈a.al,0<=xd a.ed (O4 out j) v->xd a.ed (O4 out j) v∈out
theorem Cl.next (h:Cl a out i)(hi:i<out.length):Cl a (fdR a out (O4 out i)) (i+1):=by
 intro j U V v I G;obtain⟨r,T⟩:=QeQ (a:=a) (s:=O4 out i) a.al out;have J:fdR a out (O4 out i)=out++r:=T;have S:j<out.length:=oa
 rw[J,z9 S]at G ⊢;by_cases e:j=i
 ·subst e;have:=QiZ a.al out v I G;rw[<-J];exact this
 exact LM _ (h j oa S v I G)
theorem QiX {a:QD}(I:Q8 a):∀(f i:Nat) (out:LI),qu a out->Cl a out i->i+f=a.st.toNat->qu a (js a f i out)/\Cl a (js a f i out) (js a f i out).length
 | 0,i,out,h,G,T=>by
  have:=h.len I.st0;exact⟨h,λj S J=>G j (by rw[js]at S;omega) J⟩
 | f+1,i,out,h,G,T=>by
  rw[js];split
  ·rename_i hi;exact QiX I f (i+1) _ (QiY I _ _ _ h) (G.next hi) oa
  rename_i hi;exact⟨h,λj S J=>G j oa J⟩
theorem Qi1 (a:QD):qu a (fd0 a):=by
 unfold fd0;split
 ·rename_i h;exact⟨λx hx=>by simp only[oF]at hx;subst hx;exact⟨oa,h⟩,od⟩
 exact⟨od,od⟩
theorem zI (J:Q8 a):qu a (xo a)/\∀s∈xo a,∀v∈a.al,0<=xd a.ed s v->xd a.ed s v∈xo a:=by
 obtain⟨S,T⟩:=QiX J a.st.toNat 0 (fd0 a) (Qi1 a) (λj G=>oa) oa;refine⟨S,λs U v V I=>?_⟩;obtain⟨j,G,rfl⟩:=LP U;have:=T j G G v V;unfold xo at G I ⊢;rw[Zu G]at I ⊢;exact this I
def Kl (a:QD)(fd:LI)(i:Nat)(v:Int):Option Ed:=if 0<=xd a.ed (O4 fd i) v then some ((i:Int),v,zz fd (xd a.ed (O4 fd i) v)) else none
def YZ (a:QD)(fd:LI)(n:Nat):LI:=((oN 0 n).filter λi=>decide (O4 fd i∈a.mr)).map λi:Nat=>(i:Int)
def Xb (a:QD)(fd:LI)(n:Nat):List Ed:=(oN 0 n).flatMap λi=>a.al.filterMap (Kl a fd i)
def Y2 (a:QD):QD:=⟨a.al,(xo a).length,YZ a (xo a) (xo a).length,Xb a (xo a) (xo a).length⟩
theorem X2 {β:Type}{r:Int->Int->Prop}{q:β->β->Prop}{g:Int->Option β}(G:∀x y u v,r x y->g x=some u->g y=some v->q u v):∀{l:LI},l.Pairwise r->(l.filterMap g).Pairwise q
 | [],_=>od
 | x::l,h=>by
  obtain⟨J,I⟩:=L4.1 h;rw[Mi];split
  ·exact X2 G I
  rename_i u S;refine L4.2 ⟨λv T=>?_,X2 G I⟩;obtain⟨y,U,V⟩:=MO.1 T;exact G x y u v (J y U) S V
theorem QaN (I:Q8 a):Q8 (Y2 a)/\(Y2 a).al=a.al/\(Y2 a).st<=a.st:=by
 obtain⟨Y,h2⟩:=zI I;have hl:=Y.len I.st0;have h0:=I.st0;have h4:=I.st1;refine⟨⟨I.al,I.ali,by simp[Y2],by simp only[Y2];omega,λs U=>?_,?_,λe S=>?_,?_⟩,O,by simp only[Y2];omega⟩
 ·simp only[Y2,YZ,Ow,Ot,Ox]at U;obtain⟨i,⟨hi,_⟩,rfl⟩:=U;simp only[Y2];omega
 ·simp only[Y2,YZ];unfold Yw;rw[L8];refine List.Pairwise.sublist MT ?_;exact(Nk (s:=0) (n:=(xo a).length)).imp (λh=>oa)
 ·simp only[Y2,Xb,List.mem_flatMap,List.mem_filterMap,Ox]at S;obtain⟨i,⟨_,hi⟩,v,J,G⟩:=S;unfold Kl at G;split at G
  ·rename_i hn;cases G
   have hi':i<(xo a).length:=oa
   have V:=h2 (O4 (xo a) i) (by rw[<-Zu hi'];exact Lk hi') v J hn;have hx:=Mz V;simp only[Y2];unfold zz;rw[OS V];exact⟨oa,oa,J,oa,oa⟩
  cases G
 simp only[Y2,Xb];have key:∀(is:LN),is.Pairwise (·<·)->(is.flatMap λi=>a.al.filterMap (Kl a (xo a) i)).Pairwise λx y:Ed=>x.1<y.1\/(x.1=y.1/\x.2.1<y.2.1):=by
  intro is;induction is with
  | nil=>intro _;simp
  | cons i is ih =>
   intro hp;obtain⟨p1,p2⟩:=L4.1 hp;rw[LK,Me];have from_i:∀(i:Nat) (e:Ed),e∈a.al.filterMap (Kl a (xo a) i)->e.1=i:=by
    intro i e S;obtain⟨v,_,G⟩:=MO.1 S;unfold Kl at G;split at G
    ·cases G;rfl
    cases G
   refine⟨?_,ih p2,λe S e' ha=>?_⟩
   ·refine X2 (r:=(·<·)) (λx y u v hc T J=>?_) I.ali;unfold Kl at T J;split at T
    ·cases T;split at J
     ·cases J;exact .inr ⟨O,hc⟩
     cases J
    cases T
   obtain⟨j,hj,hg⟩:=Ma.1 ha;have e1:=from_i i e S;have e2:=from_i j e' hg;have:=p1 j hj;left;omega
 exact key _ (Nk (s:=0) (n:=(xo a).length))
theorem Qf2 (h:Zp L ↑w va vm ve a)(ho:Q8 a):
  QS sV 273 [.agg #[va,sS a.st,vm,ve]] w λr w'=>sW w w'/\Qh 3 ↑w w' r (xo a):=by
 have h0:=ho.st0;have h1:=ho.st1;have hW:=ho.al_le;refine Zl func273 ?_;refine Qc<|Zc [va,sS a.st,vm,ve] λb1 U hj hX hw=>Qb<|Qc<|Qb ?_;have hB:=hj.size;refine QW (α:=O0) [(3,3),(7,12)] (λz=>[(3,z)]) (λz w'=>sW U w'/\Qh 3 ↑U w' z (fd0 a)) oh ?_ ?_
 ·refine Qc<|Qs O hw O O<|x (Z5 O O)<|xe<|Zn O (λh9=>?_) (λh9=>?_)
  ·refine Qf ?_;exact⟨nS,La,O3.Y _ _,by unfold fd0;rw[OR h9];exact QL _ _ _ _⟩
  refine Qr<|Qa<|Qo<|Q2 [[sS 0]] λb11 w2 hy hY hC=>?_;have hn:w2.ownsRow ↑U 3 1 (nS) 0 []:=QL _ _ _ _;have hZ:=hy.size;refine Qo<|QZ (news:=[sS 0]) (L:=[]) hn O O O (hC.at od) om oa oa λv3 w3 hD hE ga =>
   Qb<|⟨v3,La,hy.O hE (λb hb=>by simp[ob]at hb),?_⟩
  unfold fd0;rw[OS h9];exact hD
 rintro v0 g4 w4 ⟨hF,hG⟩;refine Zg (xo a) λT hT=>?_;have hH:js a a.st.toNat 0 (fd0 a)=T:=hT;refine Qe<|Qc<|Qb<|QX (α:=Nat×LI×O0) [(3,6),(13,48)] (λz=>[(3,z.2.2),(4,sS z.1)])
  (λz w'=>sW U w'/\Qh 3 ↑U w' z.2.2 z.2.1/\qu a z.2.1/\z.1<=z.2.1.length/\js a (a.st.toNat - z.1) z.1 z.2.1=T) (λz=>a.st.toNat - z.1) (0,fd0 a,v0) ov
  ⟨hF,hG,Qi1 a,Lo _,hH⟩ ?_
 rintro⟨i,out,v⟩ g5 w5 ⟨hm,Y,G,hi,ha⟩;simp only[]at Y G hi ha;have hz:=G.len h0;have h2:=Qh.ints (L:=[]) Y oa od;refine Qe<|Ql<|Qa<|QG h2 O<|ZP O O<|xe<|Zn rfl (λh3=>?_) (λh3=>?_)
 ·have e:out=T:=by
   rw[<-ha];generalize a.st.toNat - i=f;cases f with
   | zero=>rfl
   | succ f=>rw[js,OR oa]
  refine Qt<|Ql<|Qb ?_;rw[e]at Y;exact Qk ⟨[v],La,hj.D hm,by rw[hT];exact Q9 Y hB⟩
 have J:i<out.length:=oa
 have hI:a.st.toNat - i=(a.st.toNat - (i+1))+1:=oa
 rw[hI,js,OS J]at ha;refine Zg (O4 out i) λs S=>?_;rw[S]at ha;refine Zg (fdR a out s) λR hR=>?_;rw[hR]at ha;unfold fdR at hR;refine Qf<|Qe<|Qn<|Qc<|Qb<|QX (α:=Nat×LI×O0) [(3,3),(5,6),(19,48)] (λz=>[(3,z.2.2),(5,sS z.1)])
  (λz w'=>sW U w'/\Qh 3 ↑U w' z.2.2 z.2.1/\qu a z.2.1/\z.1<=a.al.length/\i<z.2.1.length/\O4 z.2.1 i=s/\(a.al.drop z.1).foldl (VG a s) z.2.1=R) (λz=>a.al.length - z.1) (0,out,v) ov
  ⟨hm,Y,G,Lo _,J,S,hR⟩ ?_
 clear hm Y G hi hz h2 J S hR h3;rintro⟨k,out,v⟩ g6 w6 ⟨he,hf,G,hk,J,S,I⟩;simp only[]at hf G hk J S I;have hz:=G.len h0;have h4:=(h.al.I hj).I he;have hp:=hw.I he;have h5:=Qh.ints (L:=[]) hf oa od;refine Qe<|Ql<|Qs O hp O O<|QG h4 O<|ZP O O<|xe<|Zn rfl (λhJ=>?_) (λhJ=>?_)
 ·refine Qt<|Qr<|Qa<|QB O O<|Qb ?_;rw[Lr oa]at I;have hK:out=R:=I;exact⟨(i+1,out,v),oe,ov,he,hf,G,J,by simp only[];rw[hK];exact ha⟩
 have hg:k<a.al.length:=oa
 rw[L6 hg,LO,Zu hg]at I;refine Zg (O4 a.al k) λu hu=>?_;rw[hu]at I;have hL:=(h.ed.I hj).I he;refine Zg (xd a.ed s u) λt ht=>?_;have hM:VG a s out u=if 0<=t/\t∉out then out++[t]else out:=by unfold VG;rw[ht]
 have hq:=Qi0 ho G s u;rw[hM]at I hq;refine Qf<|Qe<|Qn<|Qe<|ZH [] (Y0 0 12 [10])<|pq (λ_ V=>Zb (hp.I V) O O)<|p Qx<|p Qx<|pic (i:=i) O h5 O O J λgb h6=>?_;rw[S]at h6;refine pq (λ_ V=>Qq (h6.I V) O)<|p (QH O)<|pq (λ_ V=>Qj (hp.I V) O O)<|p Qx <|
  pic (i:=k) O h4 O O hg λgc h7=>?_
 rw[hu]at h7;have hsr:=Qbc (va:=va) (vm:=vm) (a:=a) (hL.I (O3.X [] w6)) s u a.st;rw[ht]at hsr;refine pq (λ_ V=>Qq (h7.I V) O)<|pk<|xg<|hsr.S ?_;rintro r7 w7 ⟨rfl,hN⟩;have hh:=(O3.X [] w6).D hN;refine⟨hh,p ZA<|pe ?_⟩;have h8:=Qm hf hh;have hO:=h5.I hh;refine QW (α:=Unit) [(37,44)] (λz=>[(44,.bool (decide (0<=t/\t∉out)))]) (λz w'=>w'=w7) oh ?_ ?_
 ·refine Qr<|Qa<|xb (Yh O O) (λhr=>?_) (λhr=>?_)
  ·refine Qa<|Qa<|Qa<|Qw<|(QeM hO t).S ?_;rintro r8 w8 ⟨rfl,rfl⟩;refine x (Zj O)<|Qz O<|xe<|⟨(),⟨OT Value.bool ?_,Z⟩,O⟩;show(!decide (t∈out))=_;rw[Bool.eq_iff_iff];simp[hr]
  refine Qa<|Zw<|Jr<|Qz O<|xe ?_;exact⟨(),⟨OT Value.bool (OX (λe=>hr e.1)).symm,Z⟩,O⟩
 rintro _ g9 w9 rfl;refine Zn rfl (λhs=>?_) (λhs=>?_)
 ·rw[OR hs]at I;refine Qf<|Qr<|Qa<|QB O O<|Qb<|⟨(k+1,out,v),oe,ov,he.D hh,h8,G,hg,J,S,I⟩
 rw[OS hs]at I hq;have hA:=he.D hh;have ge:=hA.size;refine Qr<|Qa<|Qa<|Qo<|Q2 [[sS t]] λgg gh hv gi hP=>?_;have hQ:=Qm h8 hv;have gj:=hv.size;refine Qo<|QZ (news:=[sS t]) (L:=[]) hQ O O O (hP.at od) om oa oa λhS gk hU hV gl =>
  Qb ?_
 have hge:=Qi hf;refine Qr<|Qa<|QB O O<|Qb<|⟨(k+1,out++[t],hS),oe,ov,(hA.D hv).O hV (λb hb=>.inr (hge b hb).1),Qh.snoc hU,hq,hg,by simp;omega,?_,I⟩;simp only[];rw[z9 J];exact S
structure CrI (w7:OZ)(b4:Nat)(vcl:O0)(n:Int)(vm vd:O0)(M:LI)(E:List Ed)(w:OZ):Prop where
 st:O3 [b4] w7 w
 B:QK ↑w b4 53 [vcl,sS n,vm,vd]
 m:Qh 3 ↑w7 w vm M
 e:Z8 179 ↑w7 w vd E
 dj:Dj vm vd
section
variable {w7 w'':OZ}{b4:Nat}{vcl:O0}{n:Int}{vd:O0}{M:LI}{E:List Ed}
theorem CrI.I (h:CrI w7 b4 vcl n vm vd M E w)(G:sW w w'):CrI w7 b4 vcl n vm vd M E w':=⟨h.st.D G,h.B.I G,Qm h.m G,Qm h.e G,h.dj⟩
theorem CrI.setM (h:CrI w7 b4 vcl n vm vd M E w)(hb:b4<w7.heap.size){G:O0}{M':LI}(S:O3 (ob vm) w w')(T:Qh 3 ↑w7 w' G M')(U:∀b∈ob G,b∈ob vm\/↑w<=b)(I:O3 [b4] w' w'')
  (V:QK ↑w'' b4 53 [vcl,sS n,G,vd]):CrI w7 b4 vcl n G vd M' E w'' :=
 ⟨(h.st.O S (λb hb=>.inr (Qi h.m b hb).1)).V I,V,Qg T I (λb J=>by have:=(Qi T b J).1;simp;omega),
  Qg (Qg h.e S h.dj.symm) I (λb J=>by have:=(Qi h.e b J).1;simp;omega),(h.dj.symm.grow U (QU h.e)).symm⟩
theorem CrI.setE (h:CrI w7 b4 vcl n vm vd M E w)(hb:b4<w7.heap.size){G:O0}{E':List Ed}(S:O3 (ob vd) w w')(T:Z8 179 ↑w7 w' G E')(U:∀b∈ob G,b∈ob vd\/↑w<=b)(I:O3 [b4] w' w'')
  (V:QK ↑w'' b4 53 [vcl,sS n,vm,G]):CrI w7 b4 vcl n vm G M E' w'' :=
 ⟨(h.st.O S (λb hb=>.inr (Qi h.e b hb).1)).V I,V,Qg (Qg h.m S h.dj) I (λb J=>by have:=(Qi h.m b J).1;simp;omega),
  Qg T I (λb J=>by have:=(Qi T b J).1;simp;omega),h.dj.grow U (QU h.m)⟩
end
theorem jw (a:QD)(fd:LI)(k:Nat):YZ a fd (k+1)=if O4 fd k∈a.mr then YZ a fd k++[(k:Int)]else YZ a fd k:=by
 unfold YZ;rw[Mo,LR,Lv,LS];by_cases h:O4 fd k∈a.mr
 ·rw[OS h,L7,OS (OV h)];rfl
 rw[OR h,L7,OR (by rw[OX h];simp),MY,Nm,LF]
theorem Qcm (a:QD)(fd:LI):∀k,(YZ a fd k).length<=k
 | 0=>by simp[YZ]
 | k+1=>by
  have:=Qcm a fd k;rw[jw];split
  ·simp;omega
  omega
theorem Qgf (a:QD)(fd:LI)(k:Nat):Xb a fd (k+1)=Xb a fd k++a.al.filterMap (Kl a fd k):=by
 unfold Xb;rw[Mo,LD,LS];simp
theorem yz (h:Zp L ↑w va vm ve a)(U:Q8 a):
  QS sV 236 [.agg #[va,sS a.st,vm,ve]] w λr w'=>sW w w'/\Y5 ↑w ↑w' r (Y2 a):=by
 have h1:=U.st1;have kt:=U.al_le;have ga:=((zI U).1).len U.st0;refine Zl func236 ?_;refine Zg (xo a) λfd hs=>?_;rw[hs]at ga;have gb:Y2 a=⟨a.al,fd.length,YZ a fd fd.length,Xb a fd fd.length⟩:=by unfold Y2;rw[hs]
 refine Qc<|Zc [va,sS a.st,vm,ve] λb1 w1 gc ku hv=>QT [nS,sS 0,nS,nS] λb2 w2 hw kv hD=>xe ?_;have V:=gc.D hw;have hfr:=Qf2 (h.I V) U;rw[hs]at hfr;refine Qc<|Q3 (hv.I hw) O O<|Qw<|hfr.S ?_;rintro vf w3 ⟨hn,ge⟩;refine Qb ?_;have hE:=V.D hn;have hF:=(hv.I hw).I hn;refine Qc<|Qs O hF O O<|Qw<|(UP (h.al.I hE) oa).S ?_;rintro r4 w4 ⟨hG,vcl,rfl,Y⟩;have hH:=Qh.ints (L:=[]) Y oa od;refine QT [nS,sS 0,nS,nS] λb4 w5 gg gh gi =>
  Q5 [vcl,sS 0,nS,nS] gi ⟨hH.one,O,O,O,Z⟩ λw6 gj hJ=>xe ?_
 have hz:sW w4 w6:=gg.Q gj gh;have ha:=hG.D hz;have hK:=Qh.ints (L:=[]) ge oa od;have kw:=hn.size;have kx:=hG.size;have kz:=hz.size;have k0:=hv.lt;have k4:=hD.lt;have k5:=hJ.lt;refine Ql<|QG hK O<|Q7 O<|Qo<|Qv (u:=sS fd.length) hJ O O od rfl λw7 S gk=>xe ?_;have k6:=S.size;have k9:O3 [b4] w3 w7:=(ha.any (L:=[b4])).V S;have hL:sW w w7:=(hE.D ha).Q S oa;have hM:Qu [b4] ↑w7 vf fd:=((hK.up (L':=[b4]) (λb hb=>.inr (by simp at hb;omega))).I ha).st S;have h0:Zp [b4] ↑w7 va vm ve a:=(h.up (λb hb=>.inr (by simp at hb;omega))).I hL;have gl:Qh 3 ↑w3 w7 vcl a.al:=Qg (Qm Y hz) S (λb hb=>by have:=QU Y b hb;simp;omega);have hN:=(hF.I ha).J S (by simp;omega);have he:b4<w7.heap.size:=oa
 have n1:b1∉[b4]:=by simp;omega
 have n2:b2∉[b4]:=by simp;omega
 refine Qe<|Qc<|Qb<|QX (α:=Nat×O0×O0) [(5,7),(16,69)] (λz=>[(5,sS z.1)])
  (λz w'=>z.1<=fd.length/\CrI w7 b4 vcl fd.length z.2.1 z.2.2 (YZ a fd z.1) (Xb a fd z.1) w'/\(Xb a fd z.1).length<=z.1*32) (λz=>fd.length - z.1) (0,nS,nS) La
  ⟨Lo _,⟨O3.Y _ _,gk,QL _ _ _ _,QL _ _ _ _,Dj.nil' _⟩,Lo _⟩ ?_
 rintro⟨i,v1,v2⟩ g8 w8 ⟨hi,hI,h2⟩;simp only[]at hi hI h2;have gm:=Qcm a fd i;have hO:=hM.st hI.st;refine Qe<|Ql<|Qa<|QG hO O<|ZP O O<|xe<|Zn rfl (λgn=>?_) (λgn=>?_)
 ·have go:i=fd.length:=oa
  rw[go]at hI h2 gm;refine Qt ?_;have gq:=Qh.ints (L:=[]) hI.m oa od;have gr:=Z8.eds (L:=[]) hI.e oa od;refine Qc<|Q3 hI.B O O<|Q5 [vcl,sS fd.length,v1,v2] ((((hD.I hn).I ha).J S (by simp;omega)).J hI.st n2) ⟨hH.one,O,gq.one,gr.one,Z⟩ λw9 hp gs=>xe ?_;refine Qk ⟨[.agg #[vcl,sS fd.length,v1,v2]],⟨JN gs,Z⟩,(hL.Q hI.st oa).Q hp oa,?_⟩;rw[gb];have k1:=Qg (Qg gl hI.st (λb hb=>by have:=QU Y b hb;simp;omega)) hp (λb hb=>by have:=(Qi Y b hb).1;simp;omega);have k2:=Qg hI.m hp (λb hb=>by have:=(Qi hI.m b hb).1;simp;omega);have k3:=Qg hI.e hp (λb hb=>by have:=(Qi hI.e b hb).1;simp;omega);refine⟨vcl,v1,v2,O,λL' h3=>⟨?_,?_,?_⟩⟩
  ·exact Qh.ints k1 (by show a.al.length<=_;omega) (λb hb=>oo (h3 b hb))
  ·exact Qh.ints k2 (by show(YZ a fd fd.length).length<=_;omega) (λb hb=>oo (h3 b hb))
  exact Z8.eds k3 (by show(Xb a fd fd.length).length<=_;omega) (λb hb=>oo (h3 b hb))
 have h4:i<fd.length:=oa
 refine Zg (O4 fd i) λs hq=>?_;have hf:=jw a fd i;rw[hq]at hf;refine Qf<|Qe<|Qn<|QW (α:=O0) [(22,34)] (λz=>[]) (λz w'=>CrI w7 b4 vcl fd.length z v2 (YZ a fd (i+1)) (Xb a fd i) w') oh ?_ ?_
 ·have gt:=h0.st hI.st;have gu:=hN.J hI.st n1;refine Qe<|ZH [] (Y0 0 7 [6])<|p (QH O)<|pq (λ_ G=>Qj (gu.I G) O O)<|p Qx<|p Qx<|pic (i:=i) O hO O O h4 λma hP=>?_;rw[hq]at hP;refine pq (λ_ G=>Qq (hP.I G) O)<|pk<|xg<|(QeM (gt.mr.I (O3.X [] w8)) s).S ?_;rintro mc mf ⟨rfl,rfl⟩;have h5:=hI.I (O3.X [] w8);refine⟨O3.X _ _,pe ?_⟩;refine Zn O (λh6=>?_) (λh6=>?_)
  ·rw[OR h6]at hf;refine Qf ?_;exact⟨v1,Z,by rw[hf];exact h5⟩
  rw[OS h6]at hf;refine Qr<|Qs O h5.B O O<|Qa<|Qo<|Q2 [[sS i]] λmg mh gv mj gx=>?_;have hg:=h5.I gv;refine Qo<|QZ (news:=[sS i]) (L:=[]) hg.m O O O (gx.at od) om oa hg.st.size λhQ gy gz V g0=>?_;have hR:Qh 3 ↑w7 gy hQ (YZ a fd i++[(i:Int)]):=Qh.snoc gz;refine Q7 O<|Qo<|Qv (hg.B.J V (QJ hg.m he)) O O od (Qh.ints (L:=[]) hR (by simp;omega) od).one λmo g2 g3 =>
   xe ?_
  exact⟨hQ,Z,by rw[hf];exact hg.setM he V hR g0 g2 g3⟩
 rintro v3 mq ms g4;refine Zg (Xb a fd (i+1)) λE1 h7=>?_;have hS:=Qgf a fd i;rw[h7]at hS;refine Qc<|Qb<|QX (α:=Nat×List Ed×O0) [(6,7),(35,69)] (λz=>[(6,sS z.1)])
  (λz w'=>z.1<=a.al.length/\CrI w7 b4 vcl fd.length v3 z.2.2 (YZ a fd (i+1)) z.2.1 w'/\z.2.1.length<=i*32+z.1/\z.2.1++(a.al.drop z.1).filterMap (Kl a fd i)=E1) (λz=>a.al.length - z.1) (0,Xb a fd i,v2) La
  ⟨Lo _,g4,h2,hS.symm⟩ ?_
 rintro⟨k,E,vd⟩ mt hT ⟨hk,J,g5,I⟩;simp only[]at hk J g5 I;have h8:=h0.st J.st;have hr:=hN.J J.st n1;have hU:=hM.st J.st;refine Qe<|Ql<|Qs O hr O O<|QG h8.al O<|ZP O O<|xe<|Zn rfl (λg6=>?_) (λg6=>?_)
 ·refine Qt<|Qr<|Qa<|QB O O<|Qb ?_;rw[Lr oa,List.filterMap_nil,LF]at I;refine⟨(i+1,v3,vd),oe,La,h4,?_,?_⟩
  ·simp only[];rw[h7,<-I];exact J
  simp only[];rw[h7,<-I];omega
 have T:k<a.al.length:=oa
 refine Zg (O4 a.al k) λu hu=>?_;rw[L6 T,Zu T,hu,Mi]at I;refine Zg (xd a.ed s u) λt ht=>?_;have g7:Kl a fd i u=if 0<=t then some ((i:Int),u,zz fd t) else none:=by unfold Kl;rw[hq,ht]
 rw[g7]at I;have hsr:=Qbc (va:=va) (vm:=vm) (a:=a) (h8.ed.I (O3.X [] hT)) s u a.st;rw[ht]at hsr;refine Qf<|Qe<|Qn<|Qe<|ZH [] (Y0 0 12 [10])<|pq (λ_ G=>Zb (hr.I G) O O)<|p Qx<|p Qx<|pic (i:=i) O hU O O h4 λmu hV=>?_;rw[hq]at hV;refine pq (λ_ G=>Qq (hV.I G) O)<|p (QH O)<|pq (λ_ G=>Qj (hr.I G) O O)<|p Qx <|
  pic (i:=k) O h8.al O O T λmv hW=>?_
 rw[hu]at hW;refine pq (λ_ G=>Qq (hW.I G) O)<|pk<|xg<|hsr.S ?_;rintro mw h9 ⟨rfl,g9⟩;have hh:=(O3.X [] hT).D g9;refine⟨hh,p ZA<|pe ?_⟩;have hj:=J.I hh;have ka:=hr.I hh;have kb:=hU.I hh;refine Ql<|x (Yh O O)<|xe<|Zn rfl (λhA=>?_) (λhA=>?_)
 ·rw[OR hA]at I;refine Qf<|Qr<|Qa<|QB O O<|Qb<|⟨(k+1,E,vd),oe,La,T,hj,oe,I⟩
 rw[OS hA]at I;have kc:=Qi J.e;have ke:Qu (b4::ob vd) ↑h9 va a.al:=(((h0.al.up (L':=b4::ob vd) (λb hb=>by
  rcases Ln.1 hb with rfl|hb
  ·exact .inl od
  exact .inr (kc b hb).1)).J J.st od).I hh)
 have kf:=QJ hj.e he;have kg:b1∉ob vd:=QJ hj.e oa;refine ZH (ob vd) (Y0 0 16 [10,12,13,15])<|p (QH O)<|pq (λ_ G=>Qj (hj.B.J G kf) O O)<|p Qx<|p (QH O)<|pq (λ_ G=>Qj (ka.J G kg) O O) <|
  p Qx<|pic (i:=k) O ke O O T λmy hX=>?_
 rw[hu]at hX;refine pq (λ_ G=>Qq (hX.J G (λb hb=>Lj _ hb)) O)<|p Qx<|p Qx <|
  pk<|xg<|(QfZ (kb.I (O3.X [] h9)) t).S ?_
 rintro mz m0 ⟨rfl,rfl⟩;refine⟨O3.X _ _,p (λ_=>QC ⟨O,O,O,Z⟩)<|pk<|Q2 [Qp ((i:Int),u,zz fd t)] λm1 m2 kh m3 ki=>?_⟩;have hB:=(O3.X [] h9).D kh;have hm:=hj.I hB;refine⟨hB.any,?_⟩;refine pk<|QZ (news:=Qp ((i:Int),u,zz fd t)) (L:=[]) hm.e O O O (ki.at od) (λy hy=>by simp only[Qp,oK,oH,or_false]at hy;rcases hy with rfl|rfl|rfl <;> rfl) oa hm.st.size λhY kj kk hC kn=>⟨(hB.any (L:=ob vd)).V hC,?_⟩
 have hZ:Z8 179 ↑w7 kj hY (E++[((i:Int),u,zz fd t)]):=Z8.snoc kk;refine p (QH O)<|pkk<|Qv (hm.B.J hC (QJ hm.e he)) O O od (Z8.eds (L:=[]) hZ (by simp;omega) od).one λm4 ko kq =>
  pe ?_
 have kr:=hm.setE he hC hZ kn ko kq;refine Qr<|Qa<|QB O O<|Qb<|⟨(k+1,E++[((i:Int),u,zz fd t)],hY),oe,La,T,kr,by simp;omega,?_⟩;simp only[Of,Oo];exact I
theorem zd {x:O1}{k:IntKind}{a b:Int}(hx:ev f x=.int k a)(I:ev f y=.int k b)(J:0<=a)(hb:0<b):
  (execOp (ev f) ⟨d,.binOp .rem t x y G,ty,pS,af,gd⟩).run P w=.ok (.value (.int k (a % b))) w:=by
 refine JU hx I ?_;have S:¬b=0:=oa
 simp[binOp,Op.intDiv,S,Int.tmod_eq_emod_of_nonneg J]
instance ayMa1:Ay sV 26 5 22 5:=⟨oc,oc⟩
instance ayMa2:Ay sV 22 5 5 1:=⟨oc,oc⟩
abbrev bys (ns:LN):LV:=ns.map λn:Nat=>.int .u8 (n:Int)
theorem UU (h:j<ns.length):(bys ns)[j]?=some (.int .u8 ((ns.getD j 0:Nat):Int)):=by simp[bys,oO,h]
theorem Qco:∀(ns:LN),ZK (bys ns)
 | []=>trivial
 | _::ns=>⟨rfl,Qco ns⟩
theorem X4 (h:∀n∈ns,n<256)(j:Nat):ns.getD j 0<256:=by
 by_cases G:j<ns.length
 ·simp only[oO,oU G,Option.getD_some];exact h _ (Lk G)
 simp[oO,G]
structure GrI (al:LI)(S i k:Nat)(M:LI)(E:List Ed):Prop where
 mb:∀x∈M,0<=x/\x<S
 mi:Yw M
 ml:∀x∈M,x<(i:Int)+1
 mn:M.length<=S
 eb:∀e∈E,0<=e.1/\e.1<S/\e.2.1∈al/\0<=e.2.2/\e.2.2<S
 ei:E.Pairwise λx y=>x.1<y.1\/(x.1=y.1/\x.2.1<y.2.1)
 el:∀e∈E,e.1<i\/(e.1=i/\e.2.1∈al.take k)
 en:E.length<=i*5+k
theorem QlH {S:Nat}{M:LI}(hb:∀x∈M,0<=x/\x<S)(hi:Yw M):M.length<=S:=xG S M (hi.imp (λh=>oa)) hb
theorem GrI.mark {S:Nat}{M:LI}{E:List Ed}(h:GrI al S i 0 M E)(G:∀x∈M,x<(i:Int))(hi:i<S):GrI al S i 0 (M++[(i:Int)]) E:=by
 have I:∀x∈M++[(i:Int)],0<=x/\x<S:=λx hx=>by
  rcases Le.1 hx with hx|hx
  ·exact h.mb x hx
  simp only[oF]at hx;omega
 have J:Yw (M++[(i:Int)]):=by
  refine Me.2 ⟨h.mi,od,λx hx y T=>?_⟩;simp only[oF]at T;subst T;exact G x hx
 refine⟨I,J,λx hx=>?_,QlH I J,h.eb,h.ei,h.el,h.en⟩;rcases Le.1 hx with hx|hx
 ·have:=G x hx;omega
 simp only[oF]at hx;omega
theorem GrI.skip {S k:Nat}{M:LI}{E:List Ed}(h:GrI al S i k M E)(G:k<al.length):GrI al S i (k+1) M E :=
 ⟨h.mb,h.mi,h.ml,h.mn,h.eb,h.ei,λe I=>(h.el e I).imp id (λx=>⟨x.1,by rw[Lh G];exact LM _ x.2⟩),oo h.en⟩
theorem GrI.edge {S k:Nat}{M:LI}{E:List Ed}(h:GrI al S i k M E)(I:k<al.length)(U:Yw al)(hi:i<S){t:Int}(V:0<=t)(Y:t<S):GrI al S i (k+1) M (E++[((i:Int),O4 al k,t)]):=by
 have hc:O4 al k∈al:=Xj I;refine⟨h.mb,h.mi,h.ml,h.mn,λe G=>?_,?_,λe G=>?_,by have:=h.en;simp;omega⟩
 ·rcases Le.1 G with G|G
  ·exact h.eb e G
  simp only[oF]at G;subst G;exact⟨oe,oe,hc,V,Y⟩
 ·refine Me.2 ⟨h.ei,od,λx hx y T=>?_⟩;simp only[oF]at T;subst T;rcases h.el x hx with J|⟨J,h2⟩
  ·left;exact J
  right;refine⟨J,?_⟩;simp only[];have hp:Yw (al.take k++al.drop k):=by rw[MB];exact U
  refine(Me.1 hp).2.2 _ h2 _ ?_;rw[L6 I,Zu I];exact Ll
 rw[Lh I,Zu I];rcases Le.1 G with G|G
 ·exact(h.el e G).imp id (λx=>⟨x.1,LM _ x.2⟩)
 simp only[oF]at G;subst G;exact .inr ⟨O,Nd _ od⟩
theorem GrI.next {S k:Nat}{M:LI}{E:List Ed}(h:GrI al S i k M E)(J:k<=5):GrI al S (i+1) 0 M E :=
 ⟨h.mb,h.mi,λx hx=>oo (h.ml x hx),h.mn,h.eb,h.ei,λe G=>by rcases h.el e G with I|I <;> (left;omega),oo h.en⟩
theorem QfQ {v:O0}(h:Qu L ↑w v al)(hb:∀e∈al,0<=e/\e<32)(hi:Yw al)(hn:ns.length=27)(hp:∀n∈ns,n<256):
  QS sV 162 [v,sT (bys ns)] w λr w'=>sW w w'/\∃a:QD,Y5 ↑w ↑w' r a/\Q8 a/\a.st<=5/\a.al=al /\
   (ns.getD 0 0<250->∃a0:QD,Q8 a0/\0<a0.st/\a0.st<=((1+ns.getD 0 0 % 5:Nat):Int)/\a=Y2 a0):=by
 have kx:al.length<=32:=xG 32 al (hi.imp (λh=>oa)) (λx hx=>oo (hb x hx));refine Zl func162 ?_;have g0:=UU (ns:=ns) (j:=0) oa;have g1:=UU (ns:=ns) (j:=1) oa;have l0:=X4 hp 0;have l1:=X4 hp 1;refine Zg (ns.getD 0 0) λs0 hW=>?_;refine Zg (ns.getD 1 0) λm1 hX=>?_;rw[hW]at g0 l0;rw[hX]at g1 l1;refine Qc<|Zc (bys ns) λb3 w1 hY kz h3=>QT [nS,sS 0,nS,nS] λb4 w2 h4 k0 hr=>xe ?_;have ho:=hY.D h4;have hs:=h3.I h4;have k4:=h3.lt;have k5:=hr.lt;refine Qe<|Qc<|Qs O hs O g0<|x (Yh O O)<|xe<|Zh rfl (λhZ=>?_) (λhZ=>?_)
 ·refine Ql<|Qw<|(UP (h.I ho) oa).S ?_;rintro r3 w3 ⟨h5,vcl,rfl,T⟩;have hu:=Qh.ints (L:=[]) T oa od;refine Q5 [vcl,sS 0,nS,nS] (hr.I h5) ⟨hu.one,O,O,O,Z⟩ λw4 h6 ga=>xe ?_;have gb:=Qg T h6 (λb hb=>by have:=(Qi T b hb).1;simp;omega);refine Qk ⟨[.agg #[vcl,sS 0,nS,nS]],⟨JN ga,Z⟩,(ho.D h5).Q h6 oa,⟨al,0,[],[]⟩,?_,?_,(by decide:(0:Int)<=5),O,λh=>OU h oa⟩
  ·exact⟨vcl,_,_,O,λL' gc=>⟨Qh.ints gb (by show al.length<=_;omega) (λb hb=>oo (gc b hb)),Zs.nil _ _ _,Zs.nil _ _ _⟩⟩
  exact⟨hb,hi,(by decide:(0:Int)<=0),(by decide:(0:Int)<=4096),od,od,od,od⟩
 refine Qf<|Ql<|Qw<|(UP (h.I ho) oa).S ?_;rintro r5 w5 ⟨h7,vcl,rfl,T⟩;have hu:=Qh.ints (L:=[]) T oa od;refine QT [nS,sS 0,nS,nS] λG w6 ge gg gh =>
  Q5 [vcl,sS 0,nS,nS] gh ⟨hu.one,O,O,O,Z⟩ λw7 gi h8=>xe ?_
 have h9:sW w5 w7:=ge.Q gi gg;have hg:=h7.D h9;have k6:=h7.size;have k9:=h8.lt;refine Zg (1+s0 % 5) λS hS=>?_;have gk:(1:Int)+(s0:Int) % 5=(S:Int):=oa
 refine Qc<|Qs O (hs.I hg) O g0<|x (zd (a:=(s0:Int)) (b:=5) O O oa oa)<|x (Yc (k':=.i64) O ⟨oa,oa⟩)<|QB O O<|x (VT O) <|
  Qo<|Qv (u:=sS S) h8 O (OT sS gk) od rfl λI ha gl=>xe ?_
 have ma:=ha.size;have mc:O3 [G] w2 I:=(hg.any (L:=[G])).V ha;have hA:sW w I:=(ho.D hg).Q ha oa;have hB:Qu [G] ↑I v al:=(h.up (L':=[G]) (λb hb=>.inr (by simp at hb;omega))).I hA;have gm:Qh 3 ↑w2 I vcl al:=Qg (Qm T h9) ha (λb hb=>by have:=QU T b hb;simp;omega);have hC:=(hs.I hg).J ha (by simp;omega);have gn:=(hr.I hg).J ha (by simp;omega);have hh:G<I.heap.size:=oa
 have n3:b3∉[G]:=by simp;omega
 have n4:b4∉[G]:=by simp;omega
 refine Qe<|Qc<|Qb<|QX (α:=Nat×O0×O0×LI×List Ed) [(6,8),(22,76)] (λz=>[(6,sS z.1)])
  (λz w'=>z.1<=S/\CrI I G vcl S z.2.1 z.2.2.1 z.2.2.2.1 z.2.2.2.2 w'/\GrI al S z.1 0 z.2.2.2.1 z.2.2.2.2/\∀x∈z.2.2.2.1,x<(z.1:Int)) (λz=>S - z.1) (0,nS,nS,[],[]) La
  ⟨Lo _,⟨O3.Y _ _,gl,QL _ _ _ _,QL _ _ _ _,Dj.nil' _⟩,⟨od,od,od,od,od,od,od,od⟩,od⟩ ?_
 rintro⟨i,v1,v2,M,E⟩ g9 w9 ⟨go,hI,J,hM⟩;simp only[]at go hI J hM;have mf:=J.mn;have mg:=J.en;refine Qe<|Ql<|Qs O hI.B O O<|ZP O O<|xe<|Zn rfl (λgq=>?_) (λgq=>?_)
 ·have mh:i=S:=oa
  refine Qt ?_;have gr:=Qh.ints (L:=[]) hI.m oa od;have gs:=Z8.eds (L:=[]) hI.e oa od;have gt:Qh 3 ↑w2 w9 vcl al:=Qg gm hI.st (λb hb=>by have:=QU T b hb;simp;omega);have gu:Zp [] ↑w9 vcl v1 v2 ⟨al,(S:Int),M,E⟩:=⟨Qh.ints gt (by show al.length<=_;omega) od,gr,gs⟩;have hok:Q8 ⟨al,(S:Int),M,E⟩:=⟨hb,hi,oe,oe,J.mb,J.mi,J.eb,J.ei⟩;have hv:=QaN hok;have hD:sW w w9:=hA.Q hI.st oa;have gv:=gn.J hI.st n4;have mj:=hI.st.size;refine Qc<|Q3 hI.B O O<|Qw<|(yz (a:=⟨al,(S:Int),M,E⟩) gu hok).S ?_;rintro vr mo ⟨hE,hF⟩;obtain⟨us,hH,hJ,gx⟩:=Xy hF;refine Qo<|ZJ (us:=us) (gv.I hE) O hH hJ O gx λmq hK gy=>xe ?_;have gz:=hD.size;refine Qk ⟨[sT us],⟨⟨_,O,Z4 hJ (gy.at (L:=[]) od).cells⟩,Z⟩,(hD.D hE).Q hK oa,Y2 ⟨al,(S:Int),M,E⟩,?_,hv.1,?_,hv.2.1,λ_=>⟨⟨al,(S:Int),M,E⟩,hok,oe,oe,O⟩⟩
  ·show Y5 _ _ (sT us) _;rw[<-hH];exact(XQ hF oa hK).S gz
  have:=hv.2.2;simp only[]at this;omega
 have hw:i<S:=oa
 refine Qf<|Qe<|Qn<|QW (α:=O0×LI) [(28,39)] (λz=>[]) (λz w'=>CrI I G vcl S z.1 v2 z.2 E w'/\GrI al S i 0 z.2 E) oh ?_ ?_
 ·have g2:m1 / 2 ^ i<256:=Nat.lt_of_le_of_lt (Nat.div_le_self _ _) l1;refine Qc<|Qs O (hC.J hI.st n3) O g1<|Qa<|x (Qbu (n:=i) O O (by show i<=8;omega))<|x (UD (a:=m1 / 2 ^ i) (b:=1) (OT (Value.int .u8) (jV m1 i)) O g2 og)<|x (Zd O O)<|xe<|Zn O (λg3=>?_) (λg3=>?_)
  ·refine Qf ?_;exact⟨(v1,M),Z,hI,J⟩
  refine Qr<|Qs O hI.B O O<|Qa<|Qo<|Q2 [[sS i]] λms mt g4 mu g5=>?_;have hj:=hI.I g4;refine Qo<|QZ (news:=[sS i]) (L:=[]) hj.m O O O (g5.at od) om oa hj.st.size λhL g6 g7 hN g8=>?_;have hO:Qh 3 ↑I g6 hL (M++[(i:Int)]):=Qh.snoc g7;refine Q7 O<|Qo<|Qv (hj.B.J hN (QJ hj.m hh)) O O od (Qh.ints (L:=[]) hO (by simp;omega) od).one λmv ka kb =>
   xe ?_
  exact⟨(hL,M++[(i:Int)]),Z,hj.setM hh hN hO g8 ka kb,J.mark hM hw⟩
 rintro⟨v3,M3⟩ mw my ⟨hP,hQ⟩;simp only[]at hP hQ;refine Qc<|Qb<|QX (α:=Nat×O0×List Ed) [(7,8),(40,76)] (λz=>[(7,sS z.1)])
  (λz w'=>z.1<=al.length/\z.1<=5/\CrI I G vcl S v3 z.2.1 M3 z.2.2 w'/\GrI al S i z.1 M3 z.2.2) (λz=>5 - z.1) (0,v2,E) La
  ⟨Lo _,Lo _,hP,hQ⟩ ?_
 rintro⟨k,vd,F⟩ mz kc ⟨hk,hR,he,hf⟩;simp only[]at hk hR he hf;have ke:=hB.st he.st;have m0:=hf.en;refine Qe<|QW (α:=Unit) [(40,47)] (λz=>[(47,.bool (decide (k<al.length/\k<5)))]) (λz w'=>w'=kc) oh ?_ ?_
 ·refine Qr<|Qa<|Qa<|QG ke O<|xb (Ys O O) (λhT=>?_) (λhT=>?_)
  ·refine Qa<|Qa<|ZP O O<|Qz O<|xe<|⟨(),⟨OT Value.bool ?_,Z⟩,O⟩;exact decide_eq_decide.2 ⟨λe=>⟨oa,oa⟩,λe=>oa⟩
  refine Qa<|YG<|Qz O<|xe ?_;exact⟨(),⟨OT Value.bool (OX (λe=>hT oa)).symm,Z⟩,O⟩
 rintro _ m2 U rfl;refine Zn rfl (λhz=>?_) (λhz=>?_)
 ·refine Qt<|Qr<|Qa<|QB O O<|Qb<|⟨(i+1,v3,vd,M3,F),oe,La,hw,he,hf.next hR,λx hx=>by have:=hf.ml x hx;simp only[];omega⟩
 have hk1:k<al.length:=hz.1;have h0:k<5:=hz.2;have gj:=UU (ns:=ns) (j:=0+2+i*5+k*1) oa;have lj:=X4 hp (0+2+i*5+k*1);refine Zg (ns.getD (0+2+i*5+k*1) 0) λq hq=>?_;rw[hq]at gj lj;have kf:=hC.J he.st n3;have kg:0<=(q:Int) % ((S:Int)+2):=Int.emod_nonneg _ oa;refine Qf<|Qe<|Qn<|Qe<|ZH [] (Y0 0 12 [])<|p Qx<|p Qx<|p (QH O)<|p (λ_=>ZR (i:=i) O O oa)<|p (λ_=>ZR (i:=k) O O h0)<|pq (λ_ V=>Qj (kf.I V) O gj) <|
  p (λ_=>Yc (k':=.i64) O ⟨oa,oa⟩)<|p (QH O)<|pq (λ_ V=>Qj (he.B.I V) O O)<|p (λ_=>Xd O O ⟨oa,oa⟩) <|
  p (λ_=>zd (a:=(q:Int)) (b:=(S:Int)+2) O O oa oa)<|p ZA<|pe ?_
 have Y:=he.I (O3.X [] U);refine Zg ((q:Int) % ((S:Int)+2)) λt ht=>?_;refine Ql<|Qs O Y.B O O<|ZP O O<|xe<|Zn rfl (λkh=>?_) (λkh=>?_)
 ·refine Qf<|Qr<|Qa<|QB O O<|Qb<|⟨(k+1,vd,F),oe,La,hk1,h0,Y,hf.skip hk1⟩
 have ki:=Qi Y.e;have kj:Qu (G::ob vd) { U with drawn:=U.drawn+1 }.heap v al:=((hB.up (L':=G::ob vd) (λb hb=>by
  rcases Ln.1 hb with rfl|hb
  ·exact .inl od
  exact .inr (ki b hb).1)).J Y.st od)
 have kk:=QJ Y.e hh;refine VD (O3 (ob vd) { U with drawn:=U.drawn+1 }) [oz 0,oz 1,oz 2,oz 3,oz 4,oz 5,oz 6,oz 7,oz 8,oA 9,oA 10,oz 11,oA 12] mixed oh oc (O3.X _ _) ?_
 refine p (QH O)<|pq (λ_ V=>Qj (Y.B.J V kk) O O)<|p Qx<|p Qx<|p Qx <|
  pic (i:=k) O kj O O hk1 λm3 kn=>pq (λ_ V=>Qq (kn.J V (λb hb=>Lj _ hb)) O)<|p Qx<|p (λ_=>QC ⟨O,O,O,Z⟩) <|
  pk<|Q2 [Qp ((i:Int),O4 al k,(q:Int) % ((S:Int)+2))] λm4 m5 ko m6 kq=>?_
 have h1:=(O3.X [] { U with drawn:=U.drawn+1 }).D ko
 have hm:=Y.I h1;refine⟨h1.any,?_⟩;refine pk<|QZ (news:=Qp ((i:Int),O4 al k,(q:Int) % ((S:Int)+2))) (L:=[]) hm.e O O O (kq.at od) (λy hy=>by simp only[Qp,oK,oH,or_false]at hy;rcases hy with rfl|rfl|rfl <;> rfl) oa hm.st.size λhU kr kt h2 ku=>⟨(h1.any (L:=ob vd)).V h2,?_⟩
 have hV:Z8 179 ↑I kr hU (F++[((i:Int),O4 al k,(q:Int) % ((S:Int)+2))]):=Z8.snoc kt;refine p (QH O)<|pkk<|Qv (hm.B.J h2 (QJ hm.e hh)) O O od (Z8.eds (L:=[]) hV (by simp;omega) od).one λm7 kv kw=>pe ?_;refine Qr<|Qa<|QB O O<|Qb<|⟨(k+1,hU,F++[((i:Int),O4 al k,(q:Int) % ((S:Int)+2))]),oe,La,hk1,h0,(hm.setE hh h2 hV ku kv kw),hf.edge hk1 hi hw kg oa⟩
theorem UC [Ag P t sz]{x:O1}{b o:Nat}(h:QK ↑w b T cs)(hx:ev f x=.pointer (some ⟨b,o,none⟩))(hl:us.length=sz)(G:∀j u,us[j]?=some u->cs[o+j]?=some u):
  (execOp (ev f) ⟨d,.load t x,ty,pS,af,gd⟩).run P w=.ok (.value (sT us)) w:=by
 refine qB hx hl λj u I=>?_;rw[J3,XK,h.cell];exact G j u I
theorem Qmf {o:Nat}:∀j u,(bys ((ns.drop o).take n))[j]?=some u->(bys ns)[o+j]?=some u:=by
 intro j u h;simp only[bys,List.getElem?_map,List.getElem?_take,List.getElem?_drop]at h ⊢;split at h
 ·exact h
 cases h
theorem Qmg (h:∀n∈ns,n<256)(o n:Nat):∀m∈(ns.drop o).take n,m<256:=λm G=>h m (MP (L2 G))
theorem Qeh (m k:Nat):∀e∈setK m k,0<=e/\e<k:=by
 intro e G;simp only[setK,Ow,Ot,Ox]at G;obtain⟨i,⟨hi,_⟩,rfl⟩:=G;omega
theorem QeE (keep:Bool->Bool->Bool):∀(n:Nat) (a b:LI),a.length+b.length<=n->Yw a->Yw b->Yw (mrg keep a b):=by
 intro n;induction n with
 | zero =>
  intro a b h _ _;have T:a=[]:=Ls oa;have hb:b=[]:=Ls oa;subst T hb;rw[Kh];exact List.Pairwise.nil
 | succ n ih =>
  intro a b U ia ib;by_cases h:a=[]/\b=[]
  ·obtain⟨rfl,rfl⟩:=h;rw[Kh];exact List.Pairwise.nil
  have V:=zC h;have itl:∀(c:Bool) (l:LI),Yw l->Yw (tl c l):=λc l hl=>by
   cases c
   ·exact hl
   cases l with
   | nil=>exact hl
   | cons y l=>exact hl.tail
  have J:=ih (tl (X3 a b) a) (tl (X3 b a) b) oa (itl _ _ ia) (itl _ _ ib);rw[J0 keep h];cases keep (X3 a b) (X3 b a) with
  | false=>simpa using J
  | true =>
   simp only[cond_true,Oo];refine L4.2 ⟨λx hx=>?_,J⟩;have I:=(qG (itl _ _ ia) (itl _ _ ib) x).1 hx;cases a with
   | nil =>
    cases b with
    | nil=>exact OU ⟨O,O⟩ h
    | cons y b =>
     simp only[X3,tl,cond_true,cond_false,Og,oH,false_or,Lg.hx,Oc]at I ⊢;exact ib.lt_of I.1
   | cons u a =>
    cases b with
    | nil =>
     simp only[X3,tl,cond_true,cond_false,Og,oH,or_false,Lg.hx,Oc]at I ⊢;exact ia.lt_of I.1
    | cons y b =>
     rcases Int.lt_trichotomy u y with S|S|S
     ·have e1:decide (u<=y)=true:=OV oa;have e2:decide (y<=u)=false:=OX oa;simp only[X3,tl,e1,e2,cond_true,cond_false,Og,Lg.hx,Oc]at I ⊢;rcases I.1 with G|G
      ·exact ia.lt_of G
      rcases Ln.1 G with G|G
      ·omega
      have:=ib.lt_of G;omega
     ·have e1:decide (u<=y)=true:=OV oa;have e2:decide (y<=u)=true:=OV oa;simp only[X3,tl,e1,e2,cond_true,Og,Lg.hx,Oc]at I ⊢;rcases I.1 with G|G
      ·have:=ia.lt_of G;omega
      have:=ib.lt_of G;omega
     have e1:decide (u<=y)=false:=OX oa;have e2:decide (y<=u)=true:=OV oa;simp only[X3,tl,e1,e2,cond_true,cond_false,Og,Lg.hx,Oc]at I ⊢;rcases I.1 with G|G
     ·rcases Ln.1 G with G|G
      ·omega
      have:=ia.lt_of G;omega
     exact ib.lt_of G
abbrev ZS:O0:=nS
def srt (n:Nat)(l:LI):LI:=((oJ n).filter λi:Nat=>decide ((i:Int)∈l)).map λi:Nat=>(i:Int)
theorem jQ (n:Nat)(l:LI):Yw (srt n l):=by
 unfold srt Yw;rw[L8];exact((List.pairwise_lt_range).filter _).imp λh=>oa
theorem jP {x:Int}:x∈srt n l↔(0<=x/\x<(n:Int))/\x∈l:=by
 unfold srt;rw[Ly];constructor
 ·rintro⟨i,hi,rfl⟩;have E:=LW.1 hi;have G:=MD.1 E.1;exact⟨⟨oa,oa⟩,OW E.2⟩
 rintro⟨⟨E,G⟩,I⟩;have e:((x.toNat:Nat):Int)=x:=oa
 exact⟨x.toNat,LW.2 ⟨MD.2 oa,OV (by rw[e];exact I)⟩,e⟩
theorem Qee (n:Nat)(l:LI):(srt n l).length<=n:=by
 unfold srt;rw[Lm];exact Lx (LJ _ _) (by rw[L5];exact Lp _)
theorem qJ {m:LI}(hl:Yw l)(J:Yw m)(h:∀x,x∈l↔x∈m):l=m:=by
 induction l generalizing m with
 | nil =>
  cases m with
  | nil=>rfl
  | cons y m=>exact OU ((h y).2 Ll) od
 | cons x l ih =>
  cases m with
  | nil=>exact OU ((h x).1 Ll) od
  | cons y m =>
   obtain⟨G,S⟩:=L4.1 hl;obtain⟨I,T⟩:=L4.1 J;have e:x=y:=by
    rcases Ln.1 ((h x).1 Ll) with e|e
    ·exact e
    rcases Ln.1 ((h y).2 Ll) with e'|e'
    ·exact e'.symm
    have:=G y e';have:=I x e;omega
   subst e;refine OT _ (ih S T λz=>⟨λE=>?_,λE=>?_⟩)
   ·rcases Ln.1 ((h z).1 (Lj _ E)) with e|e
    ·have:=G z E;omega
    exact e
   rcases Ln.1 ((h z).2 (Lj _ E)) with e|e
   ·have:=I z E;omega
   exact e
theorem Qg9 {m:LI}(E:Yw m)(h:∀x,x∈m↔x∈l)(hb:∀x∈l,0<=x/\x<(n:Int)):m=srt n l :=
 qJ E (jQ n l) λx=>by rw[jP,h x];exact⟨λhx=>⟨hb x hx,hx⟩,λhx=>hx.2⟩
def bfE (ok:Ed->Bool)(l:LI)(e:Ed):LI:=if ok e=true/\e.2.2∉l then l++[e.2.2]else l
def bfs (ok:Ed->Bool)(ed:List Ed):Nat->Nat->LI->LI
 | 0,_,l=>l
 | f+1,i,l=>if i<l.length then bfs ok ed f (i+1) ((QO ed (O4 l i)).foldl (bfE ok) l) else l
theorem Qcq {ok:Ed->Bool}{f:Nat}(h:¬i<l.length):bfs ok ed f i l=l:=by
 cases f with
 | zero=>rfl
 | succ f=>rw[bfs,OR h]
structure yq (n:Nat)(l0 l:LI):Prop where
 ex:∃m,l=l0++m/\m.Nodup/\(∀x∈m,0<=x/\x<(n:Int))/\∀x∈m,x∉l0
theorem yq.zero (n:Nat)(E:LI):yq n E E:=⟨[],od,Mn,od,od⟩
theorem yq.len {E:LI}(h:yq n E l):l.length<=E.length+n:=by
 obtain⟨m,rfl,G,I,_⟩:=h.ex;have:=xG n m G I;rw[Lc];omega
theorem yq.all {E:LI}(h:yq n E l)(G:∀x∈E,0<=x/\x<(n:Int)):∀x∈l,0<=x/\x<(n:Int):=by
 obtain⟨m,rfl,_,I,_⟩:=h.ex;intro x hx;rcases Le.1 hx with hx|hx
 ·exact G x hx
 exact I x hx
theorem yq.add {G:LI}(h:yq n G l){x:Int}(hx:0<=x/\x<(n:Int))(I:x∉l):yq n G (l++[x]):=by
 obtain⟨m,rfl,J,S,T⟩:=h.ex;refine⟨m++[x],by rw[LC],?_,λy E=>?_,λy E=>?_⟩
 ·rw[Md];refine⟨J,od,λa U b hb e=>?_⟩;rw[Lb.1 hb]at e;exact I (Le.2 (.inr (e ▸ U)))
 ·rcases Le.1 E with E|E
  ·exact S y E
  rw[Lb.1 E];exact hx
 rcases Le.1 E with E|E
 ·exact T y E
 rw[Lb.1 E];exact λV=>I (Le.2 (.inl V))
theorem yq.edge {E:LI}(h:yq n E l)(ok:Ed->Bool){e:Ed}(G:0<=e.2.2/\e.2.2<(n:Int)):yq n E (bfE ok l e):=by
 unfold bfE;split
 ·rename_i I;exact h.add G I.2
 exact h
def cls (ok:Ed->Bool)(a:QD)(l:LI):LI:=srt a.st.toNat (bfs ok a.ed (l.length+a.st.toNat) 0 l)
def yx (l:LI)(x:Int):LI:=if x∉l then l++[x]else l
def ddp (l:LI):LI:=l.foldl yx []
def hop (ed:List Ed)(l:LI)(v:Int):LI:=l.flatMap λs=>((QO ed s).filter λe=>decide (e.2.1=v)).map (·.2.2)
def mkd (a:QD)(l:LI):Bool:=l.any λs=>decide (s∈a.mr)
def kpt (a:QD)(o:LI):LI:=a.al.filter λv=>decide (v∈o)
def ers (a:QD)(o:LI):LI:=a.al.filter λv=>!decide (v∈o)
def okR (ev:LI)(e:Ed):Bool:=decide (e.2.1∈ev)
def rch (a:QD)(l ev:LI):LI:=cls (okR ev) a (ddp l)
def pnx (a:QD)(er l:LI)(v:Int):LI:=rch a (hop a.ed l v) er
def VV (z:Sy)(u:LI):Sy:=if u∈z.tup then z else⟨z.tup++[u],z.mk',z.ed⟩
def pjE (a:QD)(er:LI)(i:Nat)(t:LI)(z:Sy)(v:Int):Sy :=
 if(pnx a er t v).length=0 then z else⟨(VV z (pnx a er t v)).tup,(VV z (pnx a er t v)).mk',(VV z (pnx a er t v)).ed++[((i:Int),v,((VV z (pnx a er t v)).tup.idxOf (pnx a er t v):Int))]⟩
def pjM (a:QD)(i:Nat)(t:LI)(z:Sy):Sy:=if mkd a t=true then⟨z.tup,z.mk'++[(i:Int)],z.ed⟩else z
def pjL (a:QD)(kp er:LI):Nat->Nat->Sy->Sy
 | 0,_,z=>z
 | f+1,i,z=>if i<z.tup.length then pjL a kp er f (i+1) (kp.foldl (pjE a er i (UZ z i)) (pjM a i (UZ z i) z)) else z
theorem QhD {kp er:LI}{f:Nat}{z:Sy}(h:¬i<z.tup.length):pjL a kp er f i z=z:=by
 cases f with
 | zero=>rfl
 | succ f=>rw[pjL,OR h]
def pj0 (a:QD)(er:LI):Sy:=⟨[rch a [0] er],[],[]⟩
def prj (a:QD)(o:LI):Sy:=if a.st=0 then⟨[],[],[]⟩else pjL a (kpt a o) (ers a o) (2 ^ a.st.toNat) 0 (pj0 a (ers a o))
def Vf (a:QD)(o:LI):QD:=⟨kpt a o,(prj a o).tup.length,(prj a o).mk',(prj a o).ed⟩
def Ss (n:Nat)(l:LI):Prop:=Yw l/\∀x∈l,0<=x/\x<(n:Int)
theorem jR (n:Nat)(l:LI):Ss n (srt n l):=⟨jQ n l,λ_ hx=>(jP.1 hx).1⟩
theorem QiT {α:Type}(q:α->Bool):∀l:List α,l.length=(l.filter q).length+(l.filter λx=>!q x).length
 | []=>rfl
 | x::l=>by
  rw[L7,L7,LL,QiT q l];cases q x <;> simp <;> omega
theorem qz:∀(n:Nat) (L:List (LI)),L.Nodup->(∀l∈L,Ss n l)->L.length<=2 ^ n
 | 0,L,hd,h=>by
  have J:∀l∈L,l=[]:=λl hl=>by
   cases l with
   | nil=>rfl
   | cons x l=>have:=(h _ hl).2 x Ll;omega
  match L,hd,J with
  | [],_,_=>simp
  | [_],_,_=>simp
  | a::b::L,hd,J =>
   have e1:=J a od;have e2:=J b od;rw[e1,e2]at hd;simp at hd
 | n+1,L,hd,h=>by
  have hq:=QiT (λl:LI=>decide ((n:Int)∈l)) L;have h1:=qz n (L.filter λl=>!decide ((n:Int)∈l)) (hd.filter _) λl hl=>by
   obtain⟨S,E⟩:=LW.1 hl;have G:(n:Int)∉l:=by simpa using E
   refine⟨(h l S).1,λx hx=>?_⟩;have:=(h l S).2 x hx;have:x≠(n:Int):=λe=>G (e ▸ hx);omega
  have U:∀a∈L,∀b∈L,(n:Int)∈a->(n:Int)∈b->(a.filter λx=>!decide (x=(n:Int)))=(b.filter λx=>!decide (x=(n:Int)))->a=b:=λa T b hb na nb e=>by
   refine qJ (h a T).1 (h b hb).1 λx=>?_;by_cases hx:x=(n:Int)
   ·rw[hx];exact⟨λ_=>nb,λ_=>na⟩
   have I:x∈(a.filter λx=>!decide (x=(n:Int)))↔x∈(b.filter λx=>!decide (x=(n:Int))):=by rw[e]
   simpa[Ot,hx]using I
  have S:=qz n ((L.filter λl=>decide ((n:Int)∈l)).map λl=>l.filter λx=>!decide (x=(n:Int))) (by
   unfold List.Nodup;rw[L8];refine(hd.filter _).imp_of_mem λ{a b} T hb V e=>V ?_;obtain⟨E,G⟩:=LW.1 T;obtain⟨I,Y⟩:=LW.1 hb;exact U a E b I (OW G) (OW Y) e) λl hl=>by
   obtain⟨m,hm,rfl⟩:=Ly.1 hl;have E:=h m (LW.1 hm).1;refine⟨E.1.filter _,λx hx=>?_⟩;obtain⟨G,I⟩:=LW.1 hx;have:=E.2 x G;have:x≠(n:Int):=by simpa using I
   omega
  rw[Lm]at S;have:2 ^ (n+1)=2 ^ n+2 ^ n:=by rw[OM];omega
  omega
def okV (o un:LI)(only:Bool)(e:Ed):Bool:=!decide (e.2.1∈o) && (!only || decide (e.2.1∈un))
def vcl (a:QD)(o un:LI)(l:LI)(only:Bool):LI:=cls (okV o un only) a l
def vnx (a:QD)(o un:LI)(l:LI)(v:Int):LI:=vcl a o un (hop a.ed l v) false
abbrev Dq:=LI×LI×LI
def Kr (l:List Dq)(x y:LI):Bool:=l.any λz=>decide (z.1=x/\z.2.1=y)
def dfE (a:QD)(o un:LI)(x:Dq)(l:List Dq)(v:Int):List Dq :=
 if(vnx a o un x.1 v).length+(vnx a o un x.2.1 v).length > 0/\Kr l (vnx a o un x.1 v) (vnx a o un x.2.1 v)=false then l++[(vnx a o un x.1 v,vnx a o un x.2.1 v,x.2.2++[v])]else l
def dfL (a:QD)(o un:LI)(bad:LI->LI->Bool):Nat->Nat->List Dq->Option (LI)
 | 0,_,_=>none
 | f+1,i,l=>match l[i]? with
  | none=>none
  | some x=>if bad x.1 x.2.1=true then some x.2.2 else dfL a o un bad f (i+1) ((kpt a o).foldl (dfE a o un x) l)
def dff (a:QD)(o un:LI)(x y:LI)(bad:LI->LI->Bool):Option (LI):=dfL a o un bad (4 ^ a.st.toNat+1) 0 [(x,y,[])]
def Qbq (a:QD)(x y:LI):Bool:=mkd a x && !mkd a y
def rft (a:QD)(o un:LI)(est:LI)(s:Int):Option (LI):=dff a o un est (vcl a o un [s] false) (Qbq a)
abbrev Plc:=Int×LI×LI
def Qbn (l:List Plc)(s:Int)(t:LI):Bool:=l.any λz=>decide (z.1=s/\z.2.1=t)
def obN (a:QD)(o un:LI)(x:Plc)(e:Ed):Plc:=(e.2.2,if e.2.1∈o then vnx a o un x.2.1 e.2.1 else x.2.1,x.2.2++[e.2.1])
def obE (a:QD)(o un:LI)(x:Plc)(l:List Plc)(e:Ed):List Plc:=if Qbn l (obN a o un x e).1 (obN a o un x e).2.1=true then l else l++[obN a o un x e]
def obL (a:QD)(o un:LI):Nat->Nat->List Plc->Option (LI×LI)
 | 0,_,_=>none
 | f+1,i,l=>match l[i]? with
  | none=>none
  | some x=>match rft a o un x.2.1 x.1 with
   | some t=>some (x.2.2,t)
   | none=>obL a o un f (i+1) ((QO a.ed x.1).foldl (obE a o un x) l)
def obs (a:QD)(o un:LI):Option (LI×LI):=if a.st=0 then none else obL a o un (4 ^ a.st.toNat+1) 0 [(0,vcl a o un [0] false,[])]
def psb (a:QD)(v:Int)(l:LI):Bool:=l.any λs=>(QO a.ed s).any λe=>decide (e.2.1=v)
def ctd (a:QD)(o un:LI)(s v:Int):Bool:=decide (v∈o) && (decide (v∈un) && (psb a v (vcl a o un [s] false) && !psb a v (vcl a o un [s] true)))
abbrev Cq:=Int×LI
def csE (x:Cq)(l:List Cq)(e:Ed):List Cq:=if e.2.2∈l.map (·.1) then l else l++[(e.2.2,x.2++[e.2.1])]
def csL (a:QD)(o un:LI):Nat->Nat->List Cq->Option (LI×Int)
 | 0,_,_=>none
 | f+1,i,l=>match l[i]? with
  | none=>none
  | some x=>match a.al.find? (ctd a o un x.1) with
   | some v=>some (x.2,v)
   | none=>csL a o un f (i+1) ((QO a.ed x.1).foldl (csE x) l)
def cns (a:QD)(o un:LI):Option (LI×Int):=if a.st=0 then none else csL a o un (a.st.toNat+1) 0 [(0,[])]
def hld (a:QD)(un set:LI):Bool:=(obs a set un).isNone && (cns a set un).isNone
def ins (set:LI)(v:Int):LI:=srt 32 (set++[v])
def xtA (a:QD)(un:LI):LI->LI×LI->LI×LI
 | [],z=>z
 | v::vs,z=>if hld a un z.1=true then z else xtA a un vs (if v∈z.1 then z else(ins z.1 v,z.2++[v]))
def xtD (a:QD)(un:LI)(set:LI)(v:Int):LI:=if hld a un (set.filter λx=>!decide (x=v))=true then set.filter λx=>!decide (x=v) else set
def QbX (a:QD)(o un:LI):LI:=(xtA a un a.al (kpt a o,[])).2.foldl (xtD a un) (xtA a un a.al (kpt a o,[])).1
section
variable {all:xC}{C:xx}
theorem tf {pre:xq}{G I:Pt}(h:XP P all C (λf w=>(Z1 all f (QR all i)=true/\XO P (QR all i) f w λE w'=>C w'/\XT P all C K G E w') /\
   (Z1 all f (QR all j)=true/\XO P (QR all j) f w λE w'=>C w'/\XT P all C K I E w')) pre f w):XT P all C K (.fk pre i j G I) f w:=h
theorem tp {l:xq}(h:XP P all C K l f w):XT P all C K (.pl l) f w:=h
end
theorem QhY (es:List Ed)(s v:Int):xd es s v=match xh es s v with|some u=>u|none=>-1:=by
 induction es with
 | nil=>rfl
 | cons e es ih =>
  rw[xd,xh];split
  ·rfl
  exact ih
section
variable {w4 w'':OZ}{b:Nat}{m q:Bool}{vd:O0}{E D:LI}
end
def grid (g:Nat->Int->Option Ed)(vs:LI)(n:Nat):List Ed:=(oN 0 n).flatMap λj=>vs.filterMap (g j)
theorem K6 (g:Nat->Int->Option Ed)(vs:LI)(n:Nat):grid g vs (n+1)=grid g vs n++vs.filterMap (g n):=by
 unfold grid;rw[Mo,LD];simp
theorem Qb6 (l m:List Ed)(s v:Int):xh (l++m) s v=match xh l s v with|some u=>some u|none=>xh m s v:=by
 induction l with
 | nil=>rfl
 | cons e l ih =>
  rw[Mv,xh,xh];split
  ·rfl
  exact ih
def yn (g:Nat->Int->Option Ed):Prop:=∀j v e,g j v=some e->e.1=(j:Int)/\e.2.1=v
theorem Qb4 {g:Nat->Int->Option Ed}(G:yn g)(j:Nat)(v:Int):∀(vs:LI),xh (vs.filterMap (g j)) j v=if v∈vs then(g j v).map (·.2.2) else none
 | []=>by simp[xh]
 | u::vs=>by
  have ih:=Qb4 G j v vs;rw[Mi];cases E:g j u with
  | none =>
   simp only[];rw[ih];by_cases e:v=u
   ·subst e;simp[E]
   simp[e]
  | some e =>
   have I:=G j u e E;simp only[];rw[xh];by_cases e2:u=v
   ·subst e2;rw[OS I,OS Ll,E];rfl
   rw[OR (λh=>e2 (I.2.symm.D h.2)),ih];simp[Ne.symm e2]
theorem Qb3 {g:Nat->Int->Option Ed}(E:yn g)(h:j≠i)(v:Int)(vs:LI):xh (vs.filterMap (g j)) i v=none:=by
 refine jt λe G J=>?_;obtain⟨u,_,I⟩:=MO.1 G;have:=E j u e I;omega
theorem Qf8 {g:Nat->Int->Option Ed}(E:yn g)(vs:LI)(j:Nat)(v:Int):∀n,xh (grid g vs n) j v=if j<n/\v∈vs then(g j v).map (·.2.2) else none
 | 0=>by simp[grid,xh]
 | n+1=>by
  rw[K6,Qb6,Qf8 E vs j v n];by_cases e:j=n
  ·subst e;rw[OR oa,Qb4 E];simp
  rw[Qb3 E (Ne.symm e)];by_cases h:j<n/\v∈vs
  ·rw[OS h,OS ⟨oa,h.2⟩];cases(g j v).map (·.2.2) <;> rfl
  rw[OR h,OR (λG=>h ⟨oa,G.2⟩)]
theorem QbP {g:Nat->Int->Option Ed}{vs:LI}{e:Ed}(h:e∈grid g vs n):∃j v,j<n/\v∈vs/\g j v=some e:=by
 unfold grid at h;obtain⟨j,E,G⟩:=Ma.1 h;obtain⟨v,I,J⟩:=MO.1 G;rw[Ms]at E;exact⟨j,v,oa,I,J⟩
theorem QeN {g:Nat->Int->Option Ed}(E:yn g){vs:LI}(hi:Yw vs):∀n,(grid g vs n).Pairwise λx y:Ed=>x.1<y.1\/(x.1=y.1/\x.2.1<y.2.1)
 | 0=>by simp[grid]
 | n+1=>by
  rw[K6,Me];refine⟨QeN E hi n,X2 (r:=(·<·)) (λx y u v V J S=>?_) hi,λe T e' U=>?_⟩
  ·have G:=E n x u J;have I:=E n y v S;right;omega
  obtain⟨j,v,Y,_,G⟩:=QbP T;obtain⟨v',_,I⟩:=MO.1 U;have h3:=E j v e G;have h4:=E n v' e' I;left;omega
theorem QpP (l:List QD):∀(acc:LI),(∀a∈l,Yw a.al)->Yw acc->Yw (l.foldl (λacc a=>mrg (· || ·) acc a.al) acc)/\∀x,x∈l.foldl (λacc a=>mrg (· || ·) acc a.al) acc↔x∈acc\/∃a∈l,x∈a.al:=by
 induction l with
 | nil=>intro acc _ h;exact⟨h,λx=>od⟩
 | cons a l ih =>
  intro acc hl h;have G:=hl a Ll;obtain⟨I,J⟩:=ih (mrg (· || ·) acc a.al) (λb hb=>hl b (Lj _ hb)) (QeE _ _ _ _ (Lp _) h G);rw[LO];refine⟨I,λx=>?_⟩;rw[J x,qG h G];simp only[oK,exists_eq_or_imp];constructor
  ·rintro(⟨E|E,_⟩|E)
   ·exact .inl E
   ·exact .inr (.inl E)
   exact .inr (.inr E)
  rintro(E|E|E)
  ·exact .inl ⟨.inl E,by simp[E]⟩
  ·exact .inl ⟨.inr E,by simp[E]⟩
  exact .inr E
theorem QaG {l:List QD}(h:∀a∈l,Q8 a):Yw (evs l):=(QpP l [] (λa E=>(h a E).ali) od).1
theorem QaE {l:List QD}(h:∀a∈l,Q8 a)(x:Int):x∈evs l↔∃a∈l,x∈a.al:=by
 have:=(QpP l [] (λa E=>(h a E).ali) od).2 x;unfold evs;rw[this];simp
def syF (aa:List QD)(tup:List (LI))(j:Nat)(v:Int):Option Ed:=(Yk v aa (tup.getD j [])).map λu=>((j:Int),v,(tup.idxOf u:Int))
theorem Qm7 (aa:List QD)(tup:List (LI)):yn (syF aa tup):=by
 intro j v e h;unfold syF at h;obtain⟨u,_,rfl⟩:=M9.1 h;exact⟨O,O⟩
theorem QbV {α β:Type}{f g:α->Option β}:∀{l:List α},(∀x∈l,f x=g x)->l.filterMap f=l.filterMap g
 | [],_=>rfl
 | x::l,h=>by rw[Mi,Mi,h x Ll,QbV (λy E=>h y (Lj _ E))]
theorem QiO {f:α->Option β}{v:α}{e:β}(h:f v=some e):[v].filterMap f=[e]:=by rw[Mi,h];rfl
theorem QlM {f:α->Option β}{v:α}(h:f v=none):[v].filterMap f=[]:=by rw[Mi,h];rfl
theorem Qg0 {tup:List (LI)}{v:Int}(h:Yk v aa (tup.getD j [])=none):syF aa tup j v=none:=by unfold syF;rw[h];rfl
theorem Qbb {tup:List (LI)}{v:Int}(h:Yk v aa (tup.getD j [])=some u):syF aa tup j v=some ((j:Int),v,(tup.idxOf u:Int)):=by unfold syF;rw[h];rfl
def Clo (aa:List QD)(tup:List (LI))(j:Nat)(vs:LI):Prop:=∀v∈vs,∀u,Yk v aa (tup.getD j [])=some u->u∈tup
theorem KM {tup r:List (LI)}(h:j<tup.length):(tup++r).getD j []=tup.getD j []:=by simp[oO,Oa h]
theorem Qeb {tup r:List (LI)}{vs:LI}(E:j<tup.length)(G:Clo aa tup j vs):vs.filterMap (syF aa (tup++r) j)=vs.filterMap (syF aa tup j):=by
 refine QbV λv I=>?_;unfold syF;rw[KM E];cases J:Yk v aa (tup.getD j []) with
 | none=>rfl
 | some u =>
  simp only[OC,Option.some.injEq,Prod.mk.injEq,true_and];rw[Mc,OS (G v I u J)]
theorem Clo.pre {tup r:List (LI)}{vs:LI}(G:j<tup.length)(I:Clo aa tup j vs):Clo aa (tup++r) j vs:=by
 intro v J u E;rw[KM G]at E;exact LM _ (I v J u E)
theorem Kg {l:List α}{u:α}(h:l.Nodup)(E:u∉l):(l++[u]).Nodup:=by
 rw[Md];exact⟨h,od,λa G b hb=>by simp only[oF]at hb;subst hb;exact λe=>E (by rw[<-e];exact G)⟩
theorem yK {aa:List QD}{i:Nat}:∀(vs:LI) (s J:Sy),i<s.tup.length->s.tup.Nodup->Uv aa i (UZ s i) vs s=some J ->
  ∃r,J.tup=s.tup++r/\J.mk'=s.mk'/\J.ed=s.ed++vs.filterMap (syF aa J.tup i)/\Clo aa J.tup i vs/\J.tup.Nodup
 | [],s,J,_,hd,e=>by cases e;exact⟨[],od,rfl,od,λv hv=>(by cases hv),hd⟩
 | v::vs,s,J,hi,hd,e=>by
  rw[Uv]at e;obtain⟨S,E,h2⟩:=MM.1 e;have key:∃V,S.tup=s.tup++V/\S.mk'=s.mk'/\S.ed=s.ed++[v].filterMap (syF aa S.tup i)/\Clo aa S.tup i [v]/\S.tup.Nodup:=by
   unfold syE at E;have eT:UZ s i=s.tup.getD i []:=rfl;rw[eT]at E;cases T:Yk v aa (s.tup.getD i []) with
   | none =>
    rw[T]at E;cases E
    refine⟨[],od,rfl,by rw[QlM (Qg0 T),Ol],λv' G u I=>?_,hd⟩;simp only[oF]at G;subst G;rw[T]at I;cases I
   | some u =>
    rw[T]at E;simp only[]at E;by_cases I:u∈s.tup
    ·rw[OS I]at E;cases E
     refine⟨[],od,rfl,by rw[QiO (Qbb T)],λv' G u' U=>?_,hd⟩;simp only[oF]at G;subst G;simp only[]at U ⊢;rw[T]at U;cases U;exact I
    rw[OR I]at E;split at E
    ·cases E
    cases E
    have e2:(s.tup++[u]).getD i []=s.tup.getD i []:=KM hi;have e3:(s.tup++[u]).idxOf u=s.tup.length:=by rw[Mc,OR I];simp
    refine⟨[u],O,O,?_,λv' G u' U=>?_,Kg hd I⟩
    ·rw[QiO (Qbb (tup:=s.tup++[u]) (u:=u) (by rw[e2];exact T)),e3]
    simp only[oF]at G;subst G;rw[e2,T]at U;cases U;simp
  obtain⟨V,k1,k2,k3,k4,k5⟩:=key;have Y:i<S.tup.length:=by rw[k1];simp;omega
  have eT:UZ S i=UZ s i:=by unfold UZ;rw[k1];exact KM hi
  rw[<-eT]at h2;obtain⟨r2,g1,g2,g3,g4,g5⟩:=yK vs S J Y k5 h2;refine⟨V++r2,by rw[g1,k1,LC],g2.D k2,?_,?_,g5⟩
  ·rw[g3,k3,LC];congr 1;rw[show v::vs=[v]++vs from rfl,List.filterMap_append];congr 1;rw[g1];exact(Qeb Y k4).symm
  intro v' G u I;rcases Ln.1 G with rfl|G
  ·have:=k4.pre (r:=r2) Y;rw[<-g1]at this;exact this v' Ll u I
  exact g4 v' G u I
structure SyG (aa:List QD)(i:Nat)(s:Sy):Prop where
 nd:s.tup.Nodup
 le:i<=s.tup.length
 hd:s.tup.getD 0 []=oG aa.length 0/\0<s.tup.length
 mk2:s.mk'=((oN 0 i).filter λj=>Jj aa (s.tup.getD j [])).map λj:Nat=>(j:Int)
 ed:s.ed=grid (syF aa s.tup) (evs aa) i
 cl:∀j,j<i->Clo aa s.tup j (evs aa)
theorem Jk {α β:Type}{f g:α->List β}:∀{l:List α},(∀x∈l,f x=g x)->l.flatMap f=l.flatMap g
 | [],_=>rfl
 | x::l,h=>by rw[LK,LK,h x Ll,Jk (λy E=>h y (Lj _ E))]
theorem SyG.next {s E:Sy}(h:SyG aa i s)(hi:i<s.tup.length)(e:Uv aa i (UZ s i) (evs aa) (ZZ aa i (UZ s i) s)=some E):SyG aa (i+1) E:=by
 have I:(ZZ aa i (UZ s i) s).tup=s.tup:=by unfold ZZ;split <;> rfl
 have U:(ZZ aa i (UZ s i) s).ed=s.ed:=by unfold ZZ;split <;> rfl
 have hT:UZ (ZZ aa i (UZ s i) s) i=UZ s i:=by show(ZZ aa i (UZ s i) s).tup.getD i []=s.tup.getD i [];rw[I]
 rw[<-hT]at e;obtain⟨r,g1,V,T,Y,g5⟩:=yK (evs aa) _ E (by rw[I];exact hi) (by rw[I];exact h.nd) (by rw[hT]at e ⊢;exact e);rw[I]at g1;rw[U]at T;have pre:∀j,j<=i->E.tup.getD j []=s.tup.getD j []:=λj G=>by rw[g1];exact KM oa
 refine⟨g5,by rw[g1];simp;omega,⟨by rw[pre 0 oa];exact h.hd.1,by rw[g1];simp;omega⟩,?_,?_,λj G=>?_⟩
 ·rw[V,Mo,LR,Lv,LS];have e1:((oN 0 i).filter λj=>Jj aa (E.tup.getD j []))=(oN 0 i).filter λj=>Jj aa (s.tup.getD j []):=by
   refine List.filter_congr λj G=>?_;rw[Ms]at G;rw[pre j oa]
  rw[e1];unfold ZZ;by_cases J:Jj aa (UZ s i)=true
  ·rw[OS J];have S:Jj aa (E.tup.getD i [])=true:=by rw[pre i (Lp _)];exact J
   simp only[OF,S,if_true,List.filter_nil,oS,OG];rw[h.mk2]
  rw[OR J];have S:Jj aa (E.tup.getD i [])=false:=by rw[pre i (Lp _)];exact eq_false_of_ne_true J
  rw[L7,OR (by rw[S];simp),MY,h.mk2];simp
 ·rw[T,K6,h.ed];congr 1;unfold grid;refine Jk λj G=>?_;rw[Ms]at G;rw[g1];exact(Qeb oa (h.cl j oa)).symm
 by_cases e2:j=i
 ·subst e2;exact Y
 have:=(h.cl j oa).pre (r:=r) oa;rw[<-g1]at this;exact this
theorem Qba {aa:List QD}:∀(f i:Nat) (s E:Sy),SyG aa i s->syL aa f i s=some E->∃G,SyG aa G E/\(E.tup.length=G\/G=i+f)
 | 0,i,s,E,h,e=>by cases e;exact⟨i,h,.inr O⟩
 | f+1,i,s,E,h,e=>by
  rw[syL]at e;split at e
  ·rename_i hi;obtain⟨I,J,S⟩:=MM.1 e;obtain⟨G,T,U⟩:=Qba f (i+1) I E (h.next hi J) S;exact⟨G,T,oa⟩
  cases e;exact⟨i,h,.inl (oo h.le)⟩
structure SyP (aa:List QD)(A:QD)(Q:List (LI)):Prop where
 al:A.al=evs aa
 st:A.st=(Q.length:Int)
 nd:Q.Nodup
 v:∀t∈Q,Vt aa t
 le:Q.length<=4096
 hd:0<Q.length->Q.getD 0 []=oG aa.length 0
 mk2:A.mr=((oN 0 Q.length).filter λj=>Jj aa (Q.getD j [])).map λj:Nat=>(j:Int)
 ed:A.ed=grid (syF aa Q) (evs aa) Q.length
 cl:∀j,j<Q.length->Clo aa Q j (evs aa)
theorem YK (J:∀a∈aa,Q8 a){A:QD}{Q:List (LI)}(h:xj aa=some (A,Q)):SyP aa A Q/\(Q.length=0↔∃a∈aa,a.st=0):=by
 have hok:=qw J h;unfold xj at h;split at h
 ·rename_i G;cases h
  exact⟨⟨O,O,od,od,od,λh=>by simp at h,od,by simp[grid],λj I=>by simp at I⟩,ou G⟩
 rename_i G;obtain⟨s,S,T⟩:=M9.1 h;have U:SyG aa 0 (qU aa):=⟨by simp[qU],od,⟨by simp[qU],by simp[qU]⟩,by simp[qU],by simp[qU,grid],λj I=>oa⟩;obtain⟨V,E,h4⟩:=Qba 4096 0 (qU aa) s U S;cases T
 have hl:V=s.tup.length:=by
  have h5:=E.le;have Y:=hok.2;simp only[]at Y;omega
 subst hl;refine⟨⟨rfl,O,E.nd,hok.1,hok.2,λ_=>E.hd.1,E.mk2,E.ed,E.cl⟩,?_⟩;have:=E.hd.2;constructor
 ·intro h;have h7:s.tup.length=0:=h;omega
 intro h;exact OU h G
theorem SyP.to {A:QD}{Q:List (LI)}(h:SyP aa A Q)(E:j<Q.length){v:Int}(G:v∈evs aa)(I:Yk v aa (Q.getD j [])=some u):Q.idxOf u<Q.length/\Q.getD (Q.idxOf u) []=u:=by
 have hl:=Mz (h.cl j E v G u I);refine⟨hl,?_⟩;simp[oO,hl]
theorem SyP.okay (G:∀a∈aa,Q8 a){A:QD}{Q:List (LI)}(h:SyP aa A Q):Q8 A:=by
 have Y:=h.le;refine⟨λe E=>?_,by rw[h.al];exact QaG G,by rw[h.st];omega,by rw[h.st];omega,λs I=>?_,?_,λe E=>?_,by rw[h.ed];exact QeN (Qm7 aa Q) (QaG G) _⟩
 ·rw[h.al]at E;obtain⟨a,T,hx⟩:=(QaE G e).1 E;exact(G a T).al e hx
 ·rw[h.mk2]at I;simp only[Ow,Ot,Ox]at I;obtain⟨i,⟨hi,_⟩,rfl⟩:=I;rw[h.st];omega
 ·rw[h.mk2];unfold Yw;rw[L8];refine List.Pairwise.sublist MT ?_;exact(Nk (s:=0) (n:=Q.length)).imp (λh=>oa)
 rw[h.ed]at E;obtain⟨j,v,U,J,S⟩:=QbP E;unfold syF at S;obtain⟨u,V,rfl⟩:=M9.1 S;have:=(h.to U J V).1;rw[h.st,h.al];exact⟨oe,oe,J,oe,oe⟩
open Go.RowKit
instance:LawfulBEq ByteArray where
 eq_of_beq h:=(MapKept.bytes_beq _ _).1 h;rfl:=(MapKept.bytes_beq _ _).2 O
def chr (s:ByteArray)(i:Nat):Nat:=(s.get! i).toNat
theorem Qou {s:ByteArray}(h:i<s.size):(s[i]'h).toNat=chr s i:=by
 unfold chr;obtain⟨d⟩:=s;have hd:i<d.size:=h;simp[ByteArray.get!,hd,ByteArray.getElem_eq_getElem_data]
theorem Qgi {a b:ByteArray}(h:a.data.toList=b.data.toList):a=b:=by
 obtain⟨⟨x⟩⟩:=a;obtain⟨⟨y⟩⟩:=b;have E:x=y:=h;rw[E]
theorem bytes_beq (a b:ByteArray):(a.toList == b.toList)=decide (a=b):=by
 rw[ByteArray.toList_eq,ByteArray.toList_eq];by_cases h:a=b
 ·subst h;simp
 rw[OX h];have:a.data.toList≠b.data.toList:=λe=>h (Qgi e);simpa using this
section
variable {t':Nat}{x:O1}
theorem Qht [h:St P t]{s:ByteArray}{k:IntKind}(hx:ev f x=.string s)(G:ev f y=.int k i)(hi:i<s.size):
  (execOp (ev f) ⟨d,.index t x y,ty,pS,af,gd⟩).run P w=.ok (.value (.int .u8 (chr s i))) w:=by
 have E:=run_index_string (P:=P) w t s k i h.u;rw[dif_pos ⟨oa,oa⟩]at E;have e:(s[(i:Int).toNat]'(ou hi)).toNat=chr s i:=Qou hi;simp only[execOp,hx,G,Sem.run_bind,E,Result.andThen_ok,Sem.run_pure,e]
theorem Qc3 [h:St P t]{s:ByteArray}(hx:ev f x=.string s):
  (execOp (ev f) ⟨d,.call ⟨.builtin .len,#[x],#[t]⟩,ty,pS,af,gd⟩).run P w=.ok (.value (sS s.size)) w:=Qhs h.u hx
theorem j6 {a b:ByteArray}(hx:ev f x=.string a)(E:ev f y=.string b):
  (execOp (ev f) ⟨d,.binOp .eql t x y t',ty,pS,af,gd⟩).run P w=.ok (.value (.bool (decide (a=b)))) w:=by
 have G:(eqGuard .eql t x y (.string a) (.string b)).run P w=.ok () w:=by simp[eqGuard]
 simp only[execOp,hx,E,Sem.run_bind,G,Result.andThen_ok,binOp_string_eql,Sem.run_pure,bytes_beq]
theorem YC {a b:ByteArray}(hx:ev f x=.string a)(E:ev f y=.string b)(hl:a.size+b.size<=1000000000):
  (execOp (ev f) ⟨d,.binOp .add t x y t',ty,pS,af,gd⟩).run P w=.ok (.value (.string (a++b))) w:=by
 have G:(eqGuard .add t x y (.string a) (.string b)).run P w=.ok () w:=by simp[eqGuard]
 have I:¬(((a.size+b.size:Nat):Int) > IntKind.i64.max):=by
  rw[show IntKind.i64.max=9223372036854775807 from rfl];omega
 simp only[execOp,hx,E,Sem.run_bind,G,Result.andThen_ok,binOp_string_add,Op.stringOp,OR I,Sem.run_pure]
end
section
variable {P:O2}{ops:xC}{K:xw}{f:Fr}{w:OZ}{d:xD}{ty:Nat}{pS:String}{af:xA}{gd:xp}{l:xC}
 {t e sz bys:Nat} {z:O0} {x y1 y2:O1} {L:LN} {v:O0} {n:Nat} {cs:LV} {H:xz} {k k':IntKind} {hi:Nat}
theorem Qhp [h:Sl P t e sz bys z](hA:Zs L H v n sz cs)(hx:ev f x=v)(G:ev f y1=.int k hi)(I:ev f y2=.int k' hi)(U:hi<=n):
  ∃v',Zs L H v' hi sz (cs.take (hi*sz))/\∀w,(execOp (ev f) ⟨d,.slice t x none (some y1) (some y2),ty,pS,af,gd⟩).run P w=.ok (.value v') w:=by
 obtain⟨ii,J,_,V,_⟩:=Sl.info h;rcases hA.2.2 with⟨rfl,rfl⟩|⟨a,cap,rfl,Y,S⟩
 ·have T:hi=0:=oa
  subst T;refine⟨nS,?_,λw=>?_⟩
  ·rw[Nat.zero_mul,Ng];exact Zs.nil _ _ _
  simp[execOp,hx,G,I,Instr.sliceAt,Instr.slice,Instr.sliceBounds,Instr.sliceBound,asIntOf,run_underlying h.u,sizeOf,typeInfo,J]
 refine⟨.slice (some a) hi hi,⟨?_,oo hA.2.1,.inr ⟨a,hi,O,Lp _,λu E=>S.out u (L2 E),λu E=>S.lt u (L2 E),λj u E=>?_⟩⟩,λw=>?_⟩
 ·rw[LA,hA.1,MX (MN _ U)]
 ·rw[LZ]at E;split at E
  ·exact S.cell j u E
  cases E
 by_cases T:hi=0
 ·subst T;simp[execOp,hx,G,I,Instr.sliceAt,Instr.slice,Instr.sliceBounds,Instr.sliceBound,asIntOf,run_underlying h.u,sizeOf,typeInfo,J]
 simp[execOp,hx,G,I,Instr.sliceAt,Instr.slice,Instr.sliceBounds,Instr.sliceBound,asIntOf,run_underlying h.u,sizeOf,typeInfo,J,Addr.add];intro h9;omega
end
section
variable {l:xC}{o:Oper}{C:xx}{pl:xq}
theorem xB {b:Bool}(E:(execOp (ev f) o).run P w=.ok (.value (.bool b)) w)(I:b=true->XL P ops K l (QN f o.dst (.bool true)) w)(J:b=false->XL P ops K l (QN f o.dst (.bool false)) w)
  (G:Z1 ops f o=true:=by rfl):XL P ops K (o::l) f w:=by
 cases hb:b with
 | true=>rw[hb]at E;exact x E (I hb) G
 | false=>rw[hb]at E;exact x E (J hb) G
theorem pB {b:Bool}(E:∀w',(execOp (ev f) (QR ops i)).run P w'=.ok (.value (.bool b)) w')(I:b=true->XP P ops C K pl (QN f (QR ops i).dst (.bool true)) w)(J:b=false->XP P ops C K pl (QN f (QR ops i).dst (.bool false)) w)
  (G:Z1 ops f (QR ops i)=true:=by rfl):XP P ops C K ((i,true)::pl) f w:=by
 cases hb:b with
 | true=>rw[hb]at E;exact p E (I hb) G
 | false=>rw[hb]at E;exact p E (J hb) G
theorem Qdx {G:Prop}(b:Bool)(E:b=true->G)(I:b=false->G):G:=by cases h:b with|true=>exact E h|false=>exact I h
theorem bT [Decidable q](h:q):true=decide q:=(OV h).symm
theorem bF [Decidable q](h:¬q):false=decide q:=(OX h).symm
theorem bD {r:Prop}[Decidable q][Decidable r](h:q↔r):decide q=decide r:=decide_eq_decide.2 h
end
section
variable {x:O1}
theorem ze [Decidable q](hx:ev f x=.bool (decide q)):(execOp (ev f) ⟨d,.unOp .not t x,ty,pS,af,gd⟩).run P w=.ok (.value (.bool (decide (¬q)))) w:=by
 rw[Zj hx];simp
end
structure J9 where
 nm:ByteArray
 co:Bool
 ob:Bool
 fo:Bool
 fl:Int
structure Jp where
 nm:ByteArray
 a:QD
structure Exc where
 nm:ByteArray
 ls:xu
structure xK where
 nm:ByteArray
 ts:xu
 bd:Int
structure Z3 where
 ev:List J9
 co:List Jp
 rq:List Jp
 ex:List Exc
 cs:List xK
def VJ (n:Nat):LI:=(oJ n).map λi:Nat=>(i:Int)
def nmP (i c:Nat):Prop:=((97<=c/\c<=122)\/(65<=c/\c<=90)\/c=95)\/(i≠0/\48<=c/\c<=57)
instance (i c:Nat):Decidable (nmP i c):=by unfold nmP;infer_instance
def nmQ (s:ByteArray)(i:Nat):Bool:=decide (nmP i (chr s i))
def Y9 (s:ByteArray):Bool:=(oN 0 s.size).all (nmQ s) && decide (0<s.size/\s.size<=32)
def XZ (seen:List ByteArray)(e:J9):Int:=if Y9 e.nm=false then 7 else if e.nm∈seen then 8 else if e.fl<0\/4<e.fl then 2 else if e.fl≠0/\(e.co || e.ob)=true then 13 else 0
def U5:List ByteArray->List J9->Int
 | _,[]=>0
 | seen,e::l=>if XZ seen e≠0 then XZ seen e else U5 (seen++[e.nm]) l
def Xu (l:List J9):Int:=if 32<l.length then 3 else U5 [] l
def ixs {α:Type}(q:α->Bool):Nat->List α->LI
 | _,[]=>[]
 | i,e::l=>if q e=true then(i:Int)::ixs q (i+1) l else ixs q (i+1) l
def unc (l:List J9):LI:=ixs (λe=>!e.co) 0 l
def Xm (sz:LI):Option Int->List (Int×Int)->Int
 | _,[]=>0
 | pr,l::ls=>if l.1<0\/(sz.length:Int)<=l.1 then 2 else if zu pr l.1=true then 5 else if l.2<0\/O4 sz l.1.toNat<=l.2 then 2 else Xm sz (some l.1) ls
def JF (sz:LI)(ls:xu):Int:=if ls.length=0 then 12 else Xm sz none ls
def grt (n:Int):Bool:=decide (n < -65536) || decide (65536<n)
def JE (sz:LI):Option Int->List (Int×Int)->Int
 | _,[]=>0
 | pr,l::ls=>if l.1<0\/(sz.length:Int)<=l.1 then 2 else if zu pr l.1=true then 5 else if l.2=0\/grt l.2=true then 2 else JE sz (some l.1) ls
def Xn (sz:LI)(k:xK):Int:=if k.ts.length=0 then 12 else if JE sz none k.ts≠0 then JE sz none k.ts else if grt k.bd=true then 2 else 0
def KR (seen:List ByteArray)(s:ByteArray):Int:=if Y9 s=false then 7 else if s∈seen then 8 else 0
def YF (sz:LI):List ByteArray->List Exc->Int
 | _,[]=>0
 | seen,x::l=>if KR seen x.nm≠0 then KR seen x.nm else if JF sz x.ls≠0 then JF sz x.ls else YF sz (seen++[x.nm]) l
def Xa (sz:LI):List ByteArray->List xK->Int
 | _,[]=>0
 | seen,x::l=>if KR seen x.nm≠0 then KR seen x.nm else if Xn sz x≠0 then Xn sz x else Xa sz (seen++[x.nm]) l
def Ku (n:Int):Bool:=decide (n<1) || decide (4096<n)
def Y1 (sz:LI)(ex:List Exc)(cs:List xK):Int:=if 8<sz.length then 3 else if sz.any Ku=true then 2 else if 32<ex.length\/32<cs.length then 3 else if YF sz [] ex≠0 then YF sz [] ex else Xa sz [] cs
def mns (a b:LI):LI:=mrg (λp q=>p && !q) a b
def KL (a:QD):Bool:=decide (XX a=0) && decide ((XM a).st=a.st/\(XM a).al=a.al/\(XM a).mr=a.mr/\(XM a).ed=a.ed)
def Yu (nev:Nat)(amg:LI)(seen:List ByteArray)(x:Jp):Int :=
 if Y9 x.nm=false then 7 else if x.nm∈seen then 8 else if XX x.a≠0 then XX x.a else if KL x.a=false then 6 else if x.a.st=0 then 12 else
 if(x.a.al.any λe=>decide ((nev:Int)<=e))=true then 2 else if(mns x.a.al amg).length≠0 then 9 else 0
def Yy (nev:Nat)(al:LI):List ByteArray->LI->List Jp->Int×List ByteArray×LI
 | s,u,[]=>(0,s,u)
 | s,u,x::l=>if Yu nev al s x≠0 then(Yu nev al s x,s,u) else Yy nev al (s++[x.nm]) (mrg (· || ·) u x.a.al) l
def J2 (nev:Nat)(u:LI):List ByteArray->List Jp->Int
 | _,[]=>0
 | s,x::l=>if Yu nev u s x≠0 then Yu nev u s x else J2 nev u (s++[x.nm]) l
def szs (l:List Jp):LI:=l.map (·.a.st)
def O5 (l:List Jp):List QD:=l.map (·.a)
def Z2 (c:Z3):Int :=
 if Xu c.ev≠0 then Xu c.ev else if c.co.length=0 then 12 else if 8<c.co.length\/12<c.co.length+c.rq.length then 3 else
 if(Yy c.ev.length (VJ c.ev.length) [] [] c.co).1≠0 then(Yy c.ev.length (VJ c.ev.length) [] [] c.co).1 else
 if J2 c.ev.length (Yy c.ev.length (VJ c.ev.length) [] [] c.co).2.2 (Yy c.ev.length (VJ c.ev.length) [] [] c.co).2.1 c.rq≠0 then J2 c.ev.length (Yy c.ev.length (VJ c.ev.length) [] [] c.co).2.2 (Yy c.ev.length (VJ c.ev.length) [] [] c.co).2.1 c.rq else
 Y1 (szs c.co) c.ex c.cs
def Vo (t:LI)(x:Exc):Bool:=x.ls.all λl=>decide (t.getD l.1.toNat 0=l.2)
def Qpg (t:LI)(k:xK):Int:=k.ts.foldl (λs p=>s+p.2*t.getD p.1.toNat 0) 0
def Ut (t:LI)(k:xK):Bool:=decide (k.bd<Qpg t k)
def vio (c:Z3)(t:LI):Option (Int×Int):=
 if 0<=fix (Vo t) 0 c.ex then some (1,fix (Vo t) 0 c.ex) else if 0<=fix (Ut t) 0 c.cs then some (2,fix (Ut t) 0 c.cs) else none
def rfr (v:Int):Nat->List Jp->LI->Int
 | i,x::l,s::ss=>if v∈x.a.al/\(xh x.a.ed s v).isSome=false then(i:Int) else rfr v (i+1) l ss
 | _,_,_=>-1
structure Rsn where
 st:Int
 kd:Int
 ix:Int
 ev:Int
def rfd (c:Z3)(rs:LI):LI->Option (Int×Int)
 | []=>none
 | v::l=>if 0<=rfr v 0 c.rq rs/\(c.ev.getD v.toNat ⟨.empty,false,false,false,0⟩).co=false then some (rfr v 0 c.rq rs,v) else rfd c rs l
def Qf6 (a:QD)(s:Int):LI:=(QO a.ed s).map (·.2.1)
def rsn (c:Z3)(pl:QD)(plc:Int)(i:Nat)(t:LI):Option Rsn :=
 match vio c (t.take c.co.length) with
 | some (k,j)=>some ⟨i,k,j,-1⟩
 | none=>match rfd c (t.drop c.co.length) (Qf6 pl plc) with
  | some (j,v)=>some ⟨i,3,j,v⟩
  | none=>none
structure Spc where
 a:QD
 co:List (LI)
 rq:List (LI)
 pl:LI
 fb:List Rsn
def plx (ps:List (LI))(t:LI):Int:=if t∈ps then(ps.idxOf t:Int) else 0
def Qnb (c:Z3)(pl:QD)(ps:List (LI))(s:Spc)(p:LI×Nat):Spc :=
 ⟨s.a,s.co++[p.1.take c.co.length],s.rq++[p.1.drop c.co.length],s.pl++[plx ps (p.1.take c.co.length)],
  match rsn c pl (plx ps (p.1.take c.co.length)) p.2 p.1 with|some r=>s.fb++[r]|none=>s.fb⟩
def YQ (c:Z3):Int:=if Z2 c≠0 then Z2 c else if Vd (O5 c.co)≠0 then Vd (O5 c.co) else match xj (O5 c.co) with
 | none=>3
 | some _=>if Vd (O5 c.co++O5 c.rq)≠0 then Vd (O5 c.co++O5 c.rq) else match xj (O5 c.co++O5 c.rq) with
  | none=>3
  | some _=>0
def JS (l:List QD):QD:=match xj l with|none=>⟨[],0,[],[]⟩|some z=>z.1
def syQ (l:List QD):List (LI):=match xj l with|none=>[]|some z=>z.2
def spc (c:Z3):Spc:=(syQ (O5 c.co++O5 c.rq)).zipIdx.foldl (Qnb c (JS (O5 c.co)) (syQ (O5 c.co))) ⟨JS (O5 c.co++O5 c.rq),[],[],[],[]⟩
theorem Qc2 [h:Bk P t]{x:O1}{a b:Bool}(hx:ev f x=.bool a)(G:ev f y=.bool b):
  (execOp (ev f) ⟨d,.binOp .neq t x y E,ty,pS,af,gd⟩).run P w=.ok (.value (.bool (!(a == b)))) w:=by
 have I:(eqGuard .neq t x y (.bool a) (.bool b)).run P w=.ok () w:=by simp[eqGuard]
 simp[execOp,hx,G,I,run_neq_bool (P:=P) (w:=w) t a b h.u]
inductive Pu where
 | pl (l:xq)
 | f2 (pre:xq) (i j:Nat) (t1 t2:Pu)
 | f3 (pre:xq) (i j k:Nat) (t1 t2 t3:Pu)
def Pu.len:Pu->Nat
 | .pl l=>l.length
 | .f2 pre _ _ t1 _=>pre.length+(1+t1.len)
 | .f3 pre _ _ _ t1 _ _=>pre.length+(1+t1.len)
def j9 (all:Array Oper):Pu->Array Bool->Bool
 | .pl l,ls=>Y8 all l ls
 | .f2 pre i j t1 t2,ls=>X1 all pre ls && Region.ready .any all (ZN pre ls) == [i,j] && t1.len == t2.len && j9 all t1 ((ZN pre ls).setIfInBounds i true) && j9 all t2 ((ZN pre ls).setIfInBounds j true)
 | .f3 pre i j k t1 t2 t3,ls=>X1 all pre ls && Region.ready .any all (ZN pre ls) == [i,j,k] && t1.len == t2.len && t1.len == t3.len && j9 all t1 ((ZN pre ls).setIfInBounds i true) && j9 all t2 ((ZN pre ls).setIfInBounds j true) && j9 all t3 ((ZN pre ls).setIfInBounds k true)
def Qpm (all:xC)(t:Pu):Bool:=Region.noSelect all.toArray && t.len == all.length && j9 all.toArray t (oP all.length false)
def XE (P:O2)(all:xC)(C:xx)(i:Nat)(N:xw)(f:Fr)(w:OZ):Prop:=Z1 all f (QR all i)=true/\XO P (QR all i) f w λE w'=>C w'/\N E w'
def XU (P:O2)(all:xC)(C:xx)(K:xw):Pu->Fr->OZ->Prop
 | .pl l=>XP P all C K l
 | .f2 pre i j t1 t2=>XP P all C (λf w=>XE P all C i (XU P all C K t1) f w/\XE P all C j (XU P all C K t2) f w) pre
 | .f3 pre i j k t1 t2 t3=>XP P all C (λf w=>XE P all C i (XU P all C K t1) f w/\XE P all C j (XU P all C K t2) f w/\XE P all C k (XU P all C K t3) f w) pre
section
variable {all:xC}{C:xx}{B:xw}
theorem J4 (E:Region.noSelect all.toArray=true):∀(t:Pu) (ls:Array Bool) (f:Fr) (w:OZ),ls.size=all.length->C w->j9 all.toArray t ls=true->XU P all C K t f w->XA P all C K t.len ls f w
 | .pl l,ls,f,w,U,hC,G,h=>Ym E l ls f w U (.inl hC) G h
 | .f2 pre i j t1 t2,ls,f,w,U,hC,G,h=>by
  simp only[j9,oI,beq_iff_eq]at G;obtain⟨⟨⟨⟨Y,I⟩,hl⟩,h1⟩,h2⟩:=G;rw[Pu.len];refine Yz (B:=λf w=>XE P all C i (XU P all C K t1) f w/\XE P all C j (XU P all C K t2) f w) E pre ls f w hC Y (λf J=>?_) h;have S:∀k,((ZN pre ls).setIfInBounds k true).size=all.length:=λk=>by simp[YD,U]
  rw[MS 1];refine JH (λh0=>(by rw[h0]at I;cases I)) ?_;rw[I];intro k V o T;simp only[oK,oH,or_false]at V;rcases V with rfl|rfl
  ·have:=J.1;unfold XE at this;rw[ZF T]at this;rw[this.1,cond_true];exact this.2.S λv w' hx=>⟨.inr (.inr hx.1),J4 E t1 _ _ _ (S _) hx.1 h1 hx.2⟩
  have:=J.2;unfold XE at this;rw[ZF T]at this;rw[this.1,cond_true,hl];exact this.2.S λv w' hx=>⟨.inr (.inr hx.1),J4 E t2 _ _ _ (S _) hx.1 h2 hx.2⟩
 | .f3 pre i j k t1 t2 t3,ls,f,w,U,hC,G,h=>by
  simp only[j9,oI,beq_iff_eq]at G;obtain⟨⟨⟨⟨⟨⟨Y,I⟩,hl⟩,ha⟩,h1⟩,h2⟩,h3⟩:=G;rw[Pu.len];refine Yz (B:=λf w=>XE P all C i (XU P all C K t1) f w/\XE P all C j (XU P all C K t2) f w/\XE P all C k (XU P all C K t3) f w) E pre ls f w hC Y (λf J=>?_) h;have S:∀k,((ZN pre ls).setIfInBounds k true).size=all.length:=λk=>by simp[YD,U]
  rw[MS 1];refine JH (λh0=>(by rw[h0]at I;cases I)) ?_;rw[I];intro q V o T;simp only[oK,oH,or_false]at V;rcases V with rfl|rfl|rfl
  ·have:=J.1;unfold XE at this;rw[ZF T]at this;rw[this.1,cond_true];exact this.2.S λv w' hx=>⟨.inr (.inr hx.1),J4 E t1 _ _ _ (S _) hx.1 h1 hx.2⟩
  ·have:=J.2.1;unfold XE at this;rw[ZF T]at this;rw[this.1,cond_true,hl];exact this.2.S λv w' hx=>⟨.inr (.inr hx.1),J4 E t2 _ _ _ (S _) hx.1 h2 hx.2⟩
  have:=J.2.2;unfold XE at this;rw[ZF T]at this;rw[this.1,cond_true,ha];exact this.2.S λv w' hx=>⟨.inr (.inr hx.1),J4 E t3 _ _ _ (S _) hx.1 h3 hx.2⟩
theorem Qff {Q:Exit->Fr->OZ->Prop}(C:xx)(t:Pu)(I:P.follows .mixedOrders=true)(J:Xi n all=true)(E:Qpm all t=true)
  (hC:C { w with drawn:=w.drawn+1 }) (h:XU P all C (λf w=>Q .normal f w) t f { w with drawn:=w.drawn+1 }):W P n (.region id all.toArray true) Q f w:=by
 simp only[Qpm,oI,beq_iff_eq]at E;obtain⟨⟨S,hl⟩,E⟩:=E;refine Jn C I J ?_;have G:=J4 S t _ _ _ od hC E h;rw[hl]at G;exact G
theorem uP {l:xq}(h:XP P all C K l f w):XU P all C K (.pl l) f w:=h
theorem u2 {pre:xq}{E G:Pu}(h:XP P all C (λf w=>XE P all C i (XU P all C K E) f w/\XE P all C j (XU P all C K G) f w) pre f w):XU P all C K (.f2 pre i j E G) f w:=h
theorem u3 {pre:xq}{k:Nat}{E G I:Pu}(h:XP P all C (λf w=>XE P all C i (XU P all C K E) f w/\XE P all C j (XU P all C K G) f w/\XE P all C k (XU P all C K I) f w) pre f w):XU P all C K (.f3 pre i j k E G I) f w:=h
theorem ue {N:xw}(h:XO P (QR all i) f w λE w'=>C w'/\N E w')(G:Z1 all f (QR all i)=true:=by rfl):XE P all C i N f w:=⟨G,h⟩
end
attribute [irreducible] XU XE
open Go.RowKit
abbrev fen (ro:xD):Fence:={ Fence.wide with round:=ro }
def coll (ds:LN):List Deferred:=ds.map λD=>{ target:=.collected D,args:=#[] }
structure Y3 (n:Nat)(ds:LN)(a:Act)(f:Fr):Prop where
 size:a.tmps.size=n
 defers:a.defers=coll ds
 get:∀t,a.tmps.getD t undef=f t
theorem Y3.rel {a:Act}(h:Y3 n ds a f):Rel n { a with defers:=[] } f:=⟨h.size,O,h.get⟩
theorem Y3.eval {n:Nat}{ds:LN}{a:Act}{f:Fr}(h:Y3 n ds a f):a.eval=ev f:=by
 have:=h.rel.eval;rw[<-this];funext x;cases x <;> rfl
theorem Y3.put {n:Nat}{ds:LN}{a:Act}{f:Fr}(h:Y3 n ds a f){dst:xD}(hd:∀d,dst=some d->d<n)(v:O0):Y3 n ds (a.put dst v) (QN f dst v):=by
 have:=h.rel.put hd v;cases dst with
 | none=>exact h
 | some d=>exact⟨this.size,h.defers,this.get⟩
def X0:Code->Nat->Bool
 | .region _ ops _,t=>Yj ops.toList t
 | .seq a b,t=>X0 a t || X0 b t
 | .cond _ a b,t=>X0 a t || X0 b t
 | .block _ a,t=>X0 a t
 | .loop a,t=>X0 a t
 | .skip,_| .exit _,_| .label _,_| .goto _,_| .ret,_| .rangeFunc ..,_=>false
 | _,_=>true
def wrG (D:xt):Code->Bool
 | .region _ ops _=>Qd8 D ops.toList
 | .seq a b=>wrG D a && wrG D b
 | .cond _ a b=>wrG D a && wrG D b
 | .block _ a=>wrG D a
 | .loop a=>wrG D a
 | .skip| .exit _| .label _| .goto _| .ret| .rangeFunc ..=>true
 | _=>false
theorem Jy {D:xt}{t:Nat}(E:JM D t=false):∀c:Code,wrG D c=true->X0 c t=false
 | .region _ ops _,h=>yE h E
 | .seq a b,h=>by simp only[wrG,oI]at h;simp[X0,Jy E a h.1,Jy E b h.2]
 | .cond _ a b,h=>by simp only[wrG,oI]at h;simp[X0,Jy E a h.1,Jy E b h.2]
 | .block _ a,h=>Jy E a (by simpa[wrG]using h)
 | .loop a,h=>Jy E a (by simpa[wrG]using h)
 | .skip,_=>rfl
 | .exit _,_=>rfl
 | .label _,_=>rfl
 | .goto _,_=>rfl
 | .ret,_=>rfl
 | .rangeFunc ..,_=>rfl
 | .scope _,h=>by simp[wrG]at h
 | .refuse _,h=>by simp[wrG]at h
def WG (ro:xD)(m:Nat)(P:O2)(n:Nat)(c:Code)(Q:Exit->LN->Fr->OZ->Prop)(ds:LN)(f:Fr)(w:OZ):Prop :=
 ∀a,Y3 n ds a f->c.wpIn (fen ro) m P (λe E w'=>∃ds' f',Y3 n ds' E f'/\(∀t,X0 c t=false->f' t=f t)/\Q e ds' f' w') a w
def QcQ (K:LN->Fr->OZ->Prop)(Q:Exit->LN->Fr->OZ->Prop):Exit->LN->Fr->OZ->Prop
 | .normal,ds,f,w=>K ds f w
 | e,ds,f,w=>Q e ds f w
def QpY (id:Nat)(Q:Exit->LN->Fr->OZ->Prop):Exit->LN->Fr->OZ->Prop
 | .exit i,ds,f,w=>bif OP i id then Q .normal ds f w else Q (.exit i) ds f w
 | e,ds,f,w=>Q e ds f w
section
variable {ro:xD}{Q:Exit->LN->Fr->OZ->Prop}
theorem WG.S {c:Code}{Q':Exit->LN->Fr->OZ->Prop}(h:WG ro m P n c Q ds f w)(E:∀e ds f w,Q e ds f w->Q' e ds f w):WG ro m P n c Q' ds f w :=
 λa G=>wpIn_mono (h a G) λ_ _ _ ⟨I,J,S,T,U⟩=>⟨I,J,S,T,E _ _ _ _ U⟩
theorem WG.keeps {c:Code}(h:WG ro m P n c Q ds f w):WG ro m P n c (λe G E w'=>(∀t,X0 c t=false->E t=f t)/\Q e G E w') ds f w :=
 λa J=>wpIn_mono (h a J) λ_ _ _ ⟨G,E,S,I,T⟩=>⟨G,E,S,I,I,T⟩
theorem Z6 (h:Q .normal ds f w):WG ro m P n .skip Q ds f w:=λ_ E=>wpIn_skip ⟨ds,f,E,λ_ _=>O,h⟩
theorem Jq (h:Q (.exit i) ds f w):WG ro m P n (.exit i) Q ds f w:=λ_ E=>wpIn_exit ⟨ds,f,E,λ_ _=>O,h⟩
theorem JJ (h:Q .ret ds f w):WG ro m P n .ret Q ds f w:=λ_ E=>wpIn_ret ⟨ds,f,E,λ_ _=>O,h⟩
theorem QP {x y:Code}(h:WG ro m P n x (QcQ (λds f w=>WG ro m P n y Q ds f w) Q) ds f w):WG ro m P n (.seq x y) Q ds f w:=by
 intro a T;refine wpIn_seq (wpIn_mono (h a T) ?_);rintro e U w' ⟨S,E,G,V,I⟩;have k1:∀t,X0 (.seq x y) t=false->E t=f t:=λt J=>V t (by simp only[X0,oY]at J;exact J.1);cases e with
 | normal =>
  refine wpIn_mono (I U G) λ_ _ _ ⟨Y,hc,g1,g2,g3⟩=>⟨Y,hc,g1,λt J=>(g2 t ?_).D (k1 t J),g3⟩;simp only[X0,oY]at J;exact J.2
 | exit id=>exact⟨S,E,G,k1,I⟩
 | goto l=>exact⟨S,E,G,k1,I⟩
 | ret=>exact⟨S,E,G,k1,I⟩
 | panic ch=>exact⟨S,E,G,k1,I⟩
 | outgrown=>exact⟨S,E,G,k1,I⟩
theorem Qfj {x y:Code}(D:xt)(S:α->List (Nat×O0))(I:α->LN->OZ->Prop)(hD:wrG D x=true)
  (U:WG ro m P n x (QcQ (λE J w'=>∃z,YW J (S z)/\I z E w') Q) ds f w)
  (V:∀z g E w',I z E w'->WG ro m P n y Q E (Vp (S z) (mix D f g)) w'):WG ro m P n (.seq x y) Q ds f w:=by
 refine QP (U.keeps.S ?_);rintro e E J w' ⟨Y,G⟩;cases e with
 | normal =>
  obtain⟨z,hs,hi⟩:=G;have T:=V z J E w' hi;rw[KH (λt ht=>Y t (Jy ht x hD)),Xo hs]at T;exact T
 | exit id=>exact G
 | goto l=>exact G
 | ret=>exact G
 | panic ch=>exact G
 | outgrown=>exact G
theorem Ko {c:O1}{x y:Code}{t:Bool}(I:ev f c=.bool t)(E:t=true->WG ro m P n x Q ds f w)(J:t=false->WG ro m P n y Q ds f w):
  WG ro m P n (.cond c x y) Q ds f w:=by
 intro a G;have S:a.eval c=.bool t:=by rw[G.eval];exact I
 refine wpIn_cond_split S (λe=>wpIn_mono (E e a G) ?_) (λe=>wpIn_mono (J e a G) ?_) <;>
  (rintro e a' w' ⟨T,U,V,Y,h3⟩
   refine⟨T,U,V,λt E=>Y t ?_,h3⟩;simp only[X0,oY]at E
   first|exact E.1|exact E.2)
theorem Qmx {c:O1}{x y:Code}{p:Prop}[Decidable p](E:ev f c=.bool (decide p))(G:p->WG ro m P n x Q ds f w)(I:¬p->WG ro m P n y Q ds f w):
  WG ro m P n (.cond c x y) Q ds f w :=
 Ko E (λe=>G (OW e)) (λe=>I (OY e))
theorem Up {c:O1}{x y:Code}{p:Prop}[Decidable p](E:ev f c=.bool (decide p))(G:¬p->WG ro m P n y Q ds f w)(I:p->WG ro m P n x Q ds f w):
  WG ro m P n (.cond c x y) Q ds f w:=Qmx E I G
theorem yo {c:O1}{x y:Code}(E:ev f c=.bool true)(h:WG ro m P n x Q ds f w):WG ro m P n (.cond c x y) Q ds f w:=Ko E (λ_=>h) (λe=>by cases e)
theorem JK {c:O1}{x y:Code}(E:ev f c=.bool false)(h:WG ro m P n y Q ds f w):WG ro m P n (.cond c x y) Q ds f w:=Ko E (λe=>by cases e) (λ_=>h)
theorem ZI {c:Code}(h:WG ro m P n c (QpY id Q) ds f w):WG ro m P n (.block id c) Q ds f w:=by
 intro a S;refine wpIn_block (wpIn_mono (h a S) ?_);rintro e V w' ⟨I,G,J,T,E⟩;have k1:∀t,X0 (.block id c) t=false->G t=f t:=λt U=>T t (by simpa[X0]using U);cases e with
 | exit i =>
  simp only[Exit.inBlock];simp only[QpY]at E;by_cases hi:i=id
  ·subst hi;simp only[Nat.beq_refl,cond_true]at E;simp only[if_true];exact⟨I,G,J,k1,E⟩
  have hb:OP i id=false:=by
   cases e:OP i id with
   | false=>rfl
   | true=>exact OU (Nat.eq_of_beq_eq_true e) hi
  rw[hb]at E;rw[OR hi];exact⟨I,G,J,k1,E⟩
 | normal=>exact⟨I,G,J,k1,E⟩
 | goto l=>exact⟨I,G,J,k1,E⟩
 | ret=>exact⟨I,G,J,k1,E⟩
 | panic ch=>exact⟨I,G,J,k1,E⟩
 | outgrown=>exact⟨I,G,J,k1,E⟩
end
def Qez (l:xC):Bool:=l.all λo=>match o.op with| .defer _=>false|_=>true
theorem zm {l:xC}(h:Qez l=true):∀o∈l,∀c,o.op≠.defer c:=λo E c e=>by
 have:=L9.1 h o E;rw[e]at this;cases this
section
variable {ro:xD}
theorem Qfc {o:Oper}{a:Act}{K':Act->OZ->Prop}{Q:Exit->Act->OZ->Prop}(h:Y3 n ds a f)(G:∀c,o.op≠.defer c)
  (hK:∀v w',K (QN f o.dst v) w'->K' (a.put o.dst v) w') (hx:XO P o f w K):o.wpIn (fen ro) m P a w K' Q:=by
 unfold XO at hx;refine⟨λ_ _=>trivial,?_⟩;have e:Oper.semAt (fen ro).round a.eval o=execOp (ev f) o:=by
  rw[h.eval];cases ro with
  | none=>rfl
  | some l=>exact Oper.semAt_some l _ _ G
 rw[e];generalize (execOp (ev f) o).run P w=r at hx;cases r with
 | ok nx w' =>
  cases nx <;> simp only[upF]at hx <;> simp only[Oper.uponIn]
  case value v=>exact hK v w' hx
  case skip=>exact hK _ w' hx
  case enter g args =>
   refine⟨λh=>by simp[Fence.wide]at h,?_⟩;refine(callsIn_wide (n:=m - 1)).2 (Calls.mono hx λe I E=>?_);cases e with
   | returned v=>exact hK v I E
   | panicked c=>exact E.elim
   | outgrown=>exact E.elim
 | halt x w'=>exact hx.elim
theorem Vn {l:xC}{a:Act}(h:Y3 n ds a f)(E:∀o∈l,∀d,o.dst=some d->d<n)(o:Oper):Region.wanted o (yielded l.toArray a.tmps)=Z1 l f o:=Ur h.rel E o
theorem Qfd {Q:Exit->LN->Fr->OZ->Prop}{all:xC}(G:∀o∈all,∀d,o.dst=some d->d<n)(hd:∀o∈all,∀c,o.op≠.defer c)(f0:Fr):
  ∀(l:xC) (k:Nat) (a:Act) (f:Fr) (w:OZ),(∀j,l[j]?=all[k+j]?)->Y3 n ds a f->(∀t,Yj all t=false->f t=f0 t) ->
   XL P all (λf w=>Q .normal ds f w) l f w ->
   wpOpsIn (fen ro) m P all.toArray (λe V w'=>∃ds' f',Y3 n ds' V f'/\(∀t,Yj all t=false->f' t=f0 t)/\Q e ds' f' w') (oN k l.length) a w
 | [],_,a,f,w,_,E,J,h=>⟨ds,f,E,J,by unfold XL at h;exact h⟩
 | o::l,k,a,f,w,hl,E,J,h=>by
  have S:all[k]?=some o:=by simpa using(hl 0).symm
  have I:o∈all:=Mj S;have ih:=λa f w=>Qfd (Q:=Q) G hd f0 l (k+1) a f w (λj=>by have:=hl (j+1);simpa[Nat.add_assoc,Nat.add_comm 1 j]using this);have next:∀v,(∀t,Yj all t=false->QN f o.dst v t=f0 t):=λv t T=>(YX (Jd I T) v).D (J t T);simp only[oQ,Oy,wpOpsIn,oR,S];rw[Vn E G o];unfold XL at h;cases U:Z1 all f o with
  | false =>
   rw[U]at h;exact⟨λ_ _=>trivial,ih _ _ _ (E.put (G o I) _) (next _) h⟩
  | true =>
   rw[U]at h;exact Qfc E (hd o I) (λv w' hx=>ih _ _ _ (E.put (G o I) v) (next v) hx) h
theorem Qy {Q:Exit->LN->Fr->OZ->Prop}{l:xC}(E:Xi n l=true)(hd:Qez l=true)(h:XL P l (λf w=>Q .normal ds f w) l f w):WG ro m P n (.region id l.toArray false) Q ds f w:=by
 intro a G;refine wpIn_region ?_;have:=Qfd (ro:=ro) (m:=m) (Xt E) (zm hd) f l 0 a f w od G (λ_ _=>rfl) h;simpa[List.range_eq_range',X0]using this
attribute [local semireducible] XA in
theorem QaQ {Q:Exit->Act->OZ->Prop}{all:xC}{C:xx}{K:xw}(G:∀o∈all,∀d,o.dst=some d->d<n)(hd:∀o∈all,∀c,o.op≠.defer c)(f0:Fr)
  (I:∀a f w,Y3 n ds a f->(∀t,Yj all t=false->f t=f0 t)->K f w->Q .normal a w):
  ∀(k:Nat) (ls:Array Bool) (a:Act) (f:Fr) (w:OZ),Y3 n ds a f->(∀t,Yj all t=false->f t=f0 t)->XA P all C K k ls f w->wpAnyIn (fen ro) m P .any all.toArray Q k ls a w
 | 0,_,a,f,w,E,J,h=>⟨h.1,I a f w E J h.2⟩
 | k+1,ls,a,f,w,E,J,h=>by
  refine⟨λh0=>I a f w E J (h.1 h0),λi hi=>?_⟩;unfold wpOpIn;simp only[oR];cases U:all[i]? with
  | none =>
   exfalso;obtain⟨_,o,ha,_⟩:=mem_ready.1 hi;simp[U]at ha
  | some o =>
   have S:o∈all:=Mj U;have T:=h.2 i hi o U;have next:∀v,(∀t,Yj all t=false->QN f o.dst v t=f0 t):=λv t V=>(YX (Jd S V) v).D (J t V);simp only[];rw[Vn E G o];cases Y:Z1 all f o with
   | false =>
    rw[Y]at T;exact⟨λ_ _=>trivial,QaQ G hd f0 I k _ _ _ _ (E.put (G o S) _) (next _) T⟩
   | true =>
    rw[Y]at T;exact Qfc E (hd o S) (λv w' hx=>QaQ G hd f0 I k _ _ _ _ (E.put (G o S) v) (next v) hx.2) T
theorem yp {Q:Exit->LN->Fr->OZ->Prop}{all:xC}(C:xx)(G:P.follows .mixedOrders=true)(I:Xi n all=true)(hd:Qez all=true)
  (h:XA P all C (λf w=>Q .normal ds f w) all.length (oP all.length false) f { w with drawn:=w.drawn+1 }):WG ro m P n (.region id all.toArray true) Q ds f w:=by
 intro a J;refine wpIn_region_any G ?_;have S:=QaQ (ro:=ro) (m:=m) (n:=n) (ds:=ds) (Q:=λe T w'=>∃ds' E,Y3 n ds' T E/\(∀t,Yj all t=false->E t=f t)/\Q e ds' E w') (Xt I) (zm hd) f
  (λa E w U V Y=>⟨ds,E,U,V,Y⟩) _ _ a f _ J (λ_ _=>O) h
 simpa[X0]using S
theorem VE {Q:Exit->LN->Fr->OZ->Prop}{all:xC}(C:xx)(pl:xq)(I:P.follows .mixedOrders=true)(J:Xi n all=true)(hd:Qez all=true)(E:zf all pl=true)
  (hC:C { w with drawn:=w.drawn+1 }) (h:XP P all C (λf w=>Q .normal ds f w) pl f { w with drawn:=w.drawn+1 }):WG ro m P n (.region id all.toArray true) Q ds f w:=by
 simp only[zf,oI,beq_iff_eq]at E;obtain⟨⟨S,hl⟩,E⟩:=E;have G:=Ym S pl _ _ _ od (.inl hC) E h;rw[hl]at G;exact yp C I J hd G
end
section
variable {ro:xD}{Q:Exit->LN->Fr->OZ->Prop}
theorem qc {F:Fence}{c:Code}{Q:Exit->Act->OZ->Prop}{a:Act}(J:α->Act->OZ->Prop)(μ:α->Nat)(z:α)(h₀:J z a w)
  (round:∀x a w,J x a w->c.wpIn F m P (Exit.then (λI w'=>∃S,μ S<μ x/\J S I w') Q) a w):(Code.loop c).wpIn F m P Q a w:=by
 intro b k cs U hb T;have key:∀j x a w,μ x=j->J x a w ->
   ∃e I w',Q e I w'/\ArrivesIn (Machine.fenced P F) P (lone (b.atR a (.code c::.inLoop c::k)) cs w) b k cs e I w':=by
  intro j;induction j using Nat.strongRecOn with
  | _ j ih =>
   intro x a w V Y;obtain⟨e,a₁,w₁,E,G⟩:=round x a w Y b (.inLoop c::k) cs U hb T;cases e with
   | normal =>
    obtain⟨S,ha,hc⟩:=E;obtain⟨e₂,a₂,w₂,hq₂,harr₂⟩:=ih (μ S) (V ▸ ha) S a₁ w₁ O hc;exact⟨e₂,a₂,w₂,hq₂,.of_steps (StepsIn.trans G (.one (fenced_calm hb T O) stepR_inLoop)) harr₂⟩
   | exit id=>exact⟨_,a₁,w₁,E,.pass (x:=.inLoop c) O (λ_ _=>.inl od) G⟩
   | goto l=>exact⟨_,a₁,w₁,E,.pass (x:=.inLoop c) O (λ_ _=>.inl od) G⟩
   | ret=>exact⟨_,a₁,w₁,E,.pass (x:=.inLoop c) O (λ_ _=>.inl od) G⟩
   | panic ch=>exact⟨_,a₁,w₁,E,.pass (x:=.inLoop c) O (λ_ _=>.inl od) G⟩
   | outgrown=>exact⟨_,a₁,w₁,E,.pass (x:=.inLoop c) O (λ_ _=>.inl od) G⟩
 obtain⟨e,I,w',E,G⟩:=key _ z a w O h₀;exact⟨e,I,w',E,.of_steps (.one (fenced_calm hb T O) stepR_loop) G⟩
theorem Kn {c:Code}(D:xt)(S:α->List (Nat×O0))(I:α->LN->OZ->Prop)(μ:α->Nat)(hD:wrG D c=true)(z:α)
  (h0:YW f (S z)) (hI:I z ds w)
  (round:∀x g J w',I x J w'->WG ro m P n c (QcQ (λE T hc=>∃Y,μ Y<μ x/\YW T (S Y)/\I Y E hc) Q) J (Vp (S x) (mix D f g)) w'):WG ro m P n (.loop c) Q ds f w:=by
 intro a ha;refine qc (λ(x:α) a' w'=>∃J T,Y3 n J a' T/\(∀t,X0 c t=false->T t=f t)/\YW T (S x)/\I x J w') μ z ⟨ds,f,ha,λ_ _=>O,h0,hI⟩ ?_;rintro x a' w' ⟨J,T,h1,h2,h3,h4⟩;have h5:=round x T J w' h4;rw[KH (λt U=>h2 t (Jy U c hD)),Xo h3]at h5;refine wpIn_mono (h5 a' h1) ?_;rintro e he hc ⟨E,G,g1,g2,V⟩;have k1:∀t,X0 c t=false->G t=f t:=λt U=>(g2 t U).D (h2 t U);have k2:∀t,X0 (.loop c) t=false->G t=f t:=λt U=>k1 t (by simpa[X0]using U);cases e with
 | normal=>obtain⟨Y,hm,hs,hi⟩:=V;exact⟨Y,hm,E,G,g1,k1,hs,hi⟩
 | exit id=>exact⟨E,G,g1,k2,V⟩
 | goto l=>exact⟨E,G,g1,k2,V⟩
 | ret=>exact⟨E,G,g1,k2,V⟩
 | panic ch=>exact⟨E,G,g1,k2,V⟩
 | outgrown=>exact⟨E,G,g1,k2,V⟩
end
def rqG (P:O2)(rs:List ResultVar)(R:O0->OZ->Prop):Exit->LN->Fr->OZ->Prop
 | .normal,ds,f,w=>(∀D∈ds,w.heap[D]?=some (.deferred (some [])))/\ds.Nodup/\∃vs,∀w',O3 ds w w'->Uo P f w' rs vs/\R (tup vs) w'
 | .ret,ds,f,w=>(∀D∈ds,w.heap[D]?=some (.deferred (some [])))/\ds.Nodup/\∃vs,∀w',O3 ds w w'->Uo P f w' rs vs/\R (tup vs) w'
 | _,_,_,_=>False
theorem O3.putObj (w:OZ)(D:Nat)(o:Obj):O3 [D] w (w.putObj D o):=⟨rfl,rfl,rfl,od,λk _ E=>World.putObj_heap_other (λe=>E (by simp[e]))⟩
theorem zt {F:Fence}{m:Nat}{P:O2}{fn:Func}{tmps:Array O0}{R:Ending->OZ->Prop}:∀(ds:LN) (w:OZ),(∀D∈ds,w.heap[D]?=some (.deferred (some [])))->ds.Nodup ->
  (∀w',O3 ds w w'->∃v,(results fn tmps).run P w'=.ok v w'/\R (.returned v) w')->LeavesInM F m P fn tmps R (coll ds) .returning w
 | [],w,_,_,h=>h w (O3.Y _ _)
 | D::ds,w,hD,I,h=>by
  refine⟨od,.inl ⟨D,_,rfl,run_takeDeferred (hD D Ll),?_⟩⟩;have G:=List.nodup_cons.1 I;refine zt ds _ (λE hE=>?_) G.2 (λw' J=>h w' ?_)
  ·rw[World.putObj_heap_other (λe=>G.1 (by rw[<-e];exact hE))];exact hD E (Lj _ hE)
  exact((O3.putObj w D (.deferred none)).S (λb hb=>by simp at hb;simp[hb])).V (J.S (λb hb=>Lj _ hb))
theorem QS.of_G {c:Code}{args:LV}{R:O0->OZ->Prop}{rs:List ResultVar}(m:Nat)
  (Y:P.funcs[g]?=some fn) (hb:fn.body=some c) (hn:fn.ntmps=n) (ha:fn.results=rs.toArray) (hl:args.length<=n)
  (h:WG none m P n c (rqG P rs R) [] (ent args) w):QS P g args w R:=by
 unfold QS;refine(callsIn_wide (n:=m)).1 (callsIn_of_wp_marks Y hb Z (wpIn_mono (h _ ?_) ?_))
 ·refine⟨by simp[hn];omega,O,λt=>?_⟩;have key:∀(l:LV) (t:Nat),l[t]?.getD undef=ent l t:=by
   intro l;induction l with
   | nil=>intro t;rfl
   | cons v l ih=>intro t;cases t with|zero=>rfl|succ t=>simpa[ent]using ih t
  rw[<-key];simp only[Array.getD_eq_getD_getElem?,Array.getElem?_append,Od,oR];by_cases S:t<args.length
  ·simp[S]
  simp[S,Array.getElem?_replicate];split <;> rfl
 rintro e J w' ⟨I,f',T,_,E⟩;have fin:((∀D∈I,w'.heap[D]?=some (.deferred (some [])))/\I.Nodup/\∃vs,∀G,O3 I w' G->Uo P f' G rs vs/\R (tup vs) G) ->
   LeavesInM Fence.wide m P fn J.tmps (λe w'=>match e with| .returned v=>R v w'|_=>False) J.defers .returning w':=by
  rintro⟨hd,hc,vs,U⟩;rw[T.defers];refine zt I w' hd hc λG V=>⟨tup vs,?_,(U G V).2⟩;simp only[results,ha,List.mapM_toArray,Sem.run_bind,Sem.run_map];rw[Jz (a:={ J with defers:=[] }) T.rel _ (λ_=>rfl) (λ_ _=>rfl) rs vs (U G V).1]
  cases vs with
  | nil=>rfl
  | cons v vs=>cases vs with|nil=>rfl|cons u us=>rfl
 cases e with
 | normal=>exact fin E
 | ret=>exact fin E
 | exit id=>exact E.elim
 | goto l=>exact E.elim
 | panic c=>exact E.elim
 | outgrown=>exact E.elim
attribute [irreducible] WG
theorem QlC [Fu sV g fn]{q:Ed->Bool}{v:O0}(h:Uq L ↑w v es)
  (G:∀(e:Ed) (E:OZ),sW w E->QS sV g ([sT (Qp e)]++cap) E λr w'=>r=.bool (q e)/\sW E w'):
  QS sV 159 [v,.func (.func g) #[] cap.toArray] w λr w'=>sW w w'/\IxQ q es r :=
 (ixG (c:=Qp) ⟨_,O,func159⟩ (λ_=>O) (ldA λ_=>O) h λe _=>G e).S λ_ _ ⟨I,J⟩=>⟨J,I ▸ QlE q es⟩
theorem Qdk [Fu sV gp fn]{q:Int->Bool}{v:O0}(h:Zs L ↑w v l.length 1 (l.flatMap V7))
  (G:∀e∈l,∀(E:OZ),sW w E->QS sV gp ([sS e]++cap) E λr w'=>r=.bool (q e)/\sW E w'):
  QS sV 142 [v,.func (.func gp) #[] cap.toArray] w λr w'=>r=sS (fix q 0 l)/\sW w w' :=
 ixG ⟨_,O,func142⟩ QiE (ld1 λ_=>O) h G
theorem QdH [Fu sV gp fn]{q:Int->Bool}{v:O0}(h:Zs L ↑w v l.length 1 (l.flatMap V7))
  (G:∀e∈l,∀(E:OZ),sW w E->QS sV gp ([sS e]++cap) E λr w'=>r=.bool (q e)/\sW E w'):
  QS sV 170 [v,.func (.func gp) #[] cap.toArray] w λr w'=>r=.bool (l.any q)/\sW w w':=by
 refine Zl func170 ?_;refine Qc<|Qb<|Ql<|Qa<|Kz<|(Qdk h G).S ?_;rintro J E ⟨rfl,I⟩;refine x (Yh O O)<|Qb<|Qk ⟨[_],La,OT Value.bool (Ue q l 0),I⟩
theorem QaJ [Fu sV g fn]{q:Int->Bool}{v:O0}{es:LI}(h:Qu L ↑w v es)
  (G:∀(e:Int) (E:OZ),sW w E->QS sV g ([sS e]++cap) E λr w'=>r=.bool (q e)/\sW E w'):
  QS sV 170 [v,.func (.func g) #[] cap.toArray] w λr w'=>r=.bool (es.any q)/\sW w w' :=
 QdH (Qu.fl h) λe _=>G e
theorem Qey (es:List Ed)(s v:Int):xd es s v=xd (QO es s) s v:=by
 induction es with
 | nil=>rfl
 | cons e es ih =>
  unfold QO at *;rw[L7];by_cases h:e.1=s
  ·rw[OS (ou h),xd,xd,ih]
  rw[OR (ou h),xd,OR (λc=>h c.1),ih]
theorem Qdd:∀(l:List Ed) (s v:Int) (i:Nat) (hi:i<l.length),(∀e∈l,e.1=s)->(l[i]'hi).2.1=v->(∀m (E:m<i),(l[m]'oa).2.1≠v)->xd l s v=(l[i]'hi).2.2
 | e::l,s,v,0,_,G,I,_=>by rw[xd,OS ⟨G e Ll,I⟩];rfl
 | e::l,s,v,i+1,hi,G,I,E=>by
  rw[xd,OR (λc=>E 0 oa c.2)];exact Qdd l s v i (ou hi) (λe J=>G e (Lj _ J)) I (λm S=>E (m+1) oa)
theorem QhU:∀(l:List Ed) (s v:Int),(∀e∈l,e.2.1≠v)->xd l s v=-1
 | [],_,_,_=>rfl
 | e::l,s,v,h=>by rw[xd,OR (λc=>h e Ll c.2)];exact QhU l s v (λe E=>h e (Lj _ E))
theorem Qh4 {b:Nat}{n:Int}(e:Ed)(w:OZ)(G:QK ↑w b T [sS n]):
  QS sV 160 ([sT (Qp e)]++[sP b]) w λr w'=>r=.bool (decide (e.2.1=n))/\sW w w':=by
 refine Zl func160 ?_;refine Qc<|Zc (Qp e) λJ S E U I=>Qb<|Qc<|Qs O I O O<|ZB (G.I E) O O<|x (Zd O O)<|Qb<|Qk ⟨[_],La,O,E⟩
theorem Qcs {st:Int}(h:Uq L ↑w ve a.ed)(I:Q8 a)(s v:Int)(hc:0<=s)(S:s<a.st):
  QS sV 81 [.agg #[va,sS st,vm,ve],sS s,sS v] w λr w'=>r=sS (xd a.ed s v)/\sW w w':=by
 have hk:=I.st1;refine Zl func81 ?_;refine Qc<|Zc [va,sS st,vm,ve] λb3 w1 S hn hf=>Zc [sS v] λb5 w2 T hp hg=>Qb<|Qc<|Q3 (hf.I T) O O<|Qa<|Qw<|(Qad ((h.I S).I T) I.eds (λe E=>⟨(I.ed e E).1,oo (I.ed e E).2.1⟩) s hc oa).S ?_;rintro vo w3 ⟨U,hE⟩;refine Qb ?_;have hh:∀e∈QO a.ed s,e.1=s:=λe E=>(ZD E).2;rw[Qey];refine Ql<|x (Zk (l:=[]) (l':=[.tmp 5]))<|Qw<|(QlC (q:=λe=>decide (e.2.1=v)) (cap:=[sP b5]) hE (λe V J=>Qh4 e V ((hg.I U).I J))).S ?_;rintro r4 V ⟨J,G⟩;have Y:=((S.D T).D U).D J;refine Or.elim G (λG=>?_) (λG=>?_)
 ·obtain⟨rfl,hq⟩:=G;have e1:xd (QO a.ed s) s v=-1:=QhU _ _ _ λe E=>by
   obtain⟨i,hi,rfl⟩:=LP E;simpa using hq i hi
  rw[e1];refine Qb<|Qe<|Ql<|ZP O O<|xe<|yd O ?_;refine Qc<|Qb<|Qk ⟨[sS (-1)],La,O,Y⟩
 obtain⟨i,hi,rfl,h1,h2⟩:=G;have e1:xd (QO a.ed s) s v=((QO a.ed s)[i]'hi).2.2:=Qdd _ s v i hi hh (ou h1) (λm hm=>ou (h2 m hm));rw[e1];refine Qb<|Qe<|Ql<|ZP O O<|xe<|Zh O (λha=>OU ha oa) (λha=>?_);refine Qf<|Ql<|Qa<|xie (hE.I J) O O hi λhs hj=>x (ZE O)<|x (Qq (hj.fld 2 _ O) O)<|Qb<|Qk ⟨[_],La,O,Y⟩
def flw (a:QD):Int->LI->Int×Nat
 | s,[]=>(s,0)
 | s,v::u=>if xd a.ed s v<0 then(s,0) else((flw a (xd a.ed s v) u).1,(flw a (xd a.ed s v) u).2+1)
theorem QhV (E:Q8 a){v:Int}(h:¬xd a.ed s v<0):xd a.ed s v<a.st:=(E.ed _ (Qai oa)).2.2.2.2
theorem Qf3 {vw:O0}{st:Int}(h:Uq L ↑w ve a.ed)(I:Qu L' ↑w vw u)(U:Q8 a)(s:Int)(hc:0<=s)(V:s<a.st):
  QS sV 280 [.agg #[va,sS st,vm,ve],sS s,vw] w λr w'=>r=.tuple #[sS (flw a s u).1,sS (flw a s u).2]/\sW w w':=by
 have hn:=I.le;refine Zl func280 ?_;refine Qc<|Zc [va,sS st,vm,ve] λb3 w1 V hp he=>x Qd<|Qb<|Qe<|Ql<|QG I O<|Qa<|xe<|QX (α:=Nat×Int) [(1,1),(6,10),(13,27)] (λz=>[(1,sS z.2),(13,sS z.1)]) (λz w'=>z.1<=u.length/\0<=z.2/\z.2<a.st/\sW w1 w'/\flw a s u=((flw a z.2 (u.drop z.1)).1,(flw a z.2 (u.drop z.1)).2+z.1)) (λz=>u.length - z.1) (0,s) ov ⟨Lo _,hc,by assumption,O3.Y _ _,od⟩ ?_;rintro⟨k,t⟩ g w2 ⟨hk,hg,hh,T,E⟩;have J:=V.D T;refine Zi rfl O (λY=>?_) (λY=>?_)
 ·refine Qt<|Ql<|Qa<|QG I O<|x Qd<|Qb ?_;rw[Lr oa]at E;have hj:k=u.length:=by have hq:¬(k:Int)<(u.length:Int):=Y;omega
  refine Qk ⟨[sS t,sS u.length],ov,?_,J⟩;rw[E,hj];simp[flw,tup]
 have G:k<u.length:=oa
 rw[QY G,flw]at E;refine Qf<|Qe<|Qn<|Ql<|xii (I.I J) O O G λhr hm=>x (Qq hm O)<|x Qd<|Qb<|Qc<|Q3 (he.I T) O O<|Qa<|Qa<|Qw<|(Qcs (h.I J) U t (u[k]'G) hg hh).S ?_;rintro r3 w3 ⟨rfl,ha⟩;refine Qb<|Qe<|Ql<|ZP O O<|xe<|Zh rfl (λS=>?_) (λS=>?_)
 ·rw[OS S]at E;refine Ql<|Qa<|x Qd<|Qb<|Qk ⟨[sS t,sS k],ov,?_,J.D ha⟩;rw[E];simp[tup]
 rw[OR S]at E;refine Qf<|Qr<|Qa<|Qb<|Qr<|QB O O<|Qa<|xe<|⟨(k+1,xd a.ed t (u[k]'G)),oe,ov,G,oe,(QhV U S),T.D ha,?_⟩;simp only[];rw[E];simp;omega
def cks (a:QD)(s:Int):Int:=if XX a≠0 then XX a else if s<0\/a.st<=s then 2 else 0
theorem JP (h:Zp L ↑w va vm ve a)(s:Int):
  QS sV 79 [.agg #[va,sS a.st,vm,ve],sS s] w λr w'=>r=sS (cks a s)/\sW w w':=by
 refine Zl func79 ?_;refine Qc<|Zc [va,sS a.st,vm,ve] λY w1 S ha T=>Qb<|Qe<|Qc<|Q3 T O O<|Qw<|(YV (h.I S)).S ?_;rintro r2 V ⟨rfl,U⟩;refine Qb ?_;unfold cks;have E:=S.D U;refine Ql<|ZL O O<|xe<|Zh rfl (λG=>?_) (λG=>?_)
 ·refine Ql<|Qb<|Qk ⟨[_],La,by rw[OS G];rfl,E⟩
 rw[OR G];refine Qf<|Qe<|QW (α:=Unit) [(11,18)] (λz=>[(18,.bool (decide (s<0\/a.st<=s)))]) (λz w'=>w'=V) oh ?_ ?_
 ·refine Qr<|Qa<|xb (Ys O O) (λI=>?_) (λI=>?_)
  ·refine Qa<|Zw<|Jr<|Qz O<|xe ?_;exact⟨(),⟨by rw[OV (Or.inl I)];rfl,Z⟩,O⟩
  refine Qa<|Qa<|Qs O (T.I U) O O<|x (Yh O O)<|Qz O<|xe ?_;exact⟨(),⟨by show Value.bool (decide (a.st<=s))=_;simp[I],Z⟩,rfl⟩
 rintro z g w3 rfl;refine Zh rfl (λJ=>?_) (λJ=>?_)
 ·refine Qc<|Qb<|Qk ⟨[_],La,by rw[OS J];rfl,E⟩
 refine Qf<|Qc<|Qb<|Qk ⟨[_],La,by rw[OR J];rfl,E⟩
theorem Qcd (h:cks a s=0):Q8 a/\0<=s/\s<a.st:=by
 unfold cks at h;split at h
 ·rename_i E;exact OU h E
 rename_i E;split at h
 ·cases h
 rename_i G;exact⟨(Zy a).1 (Lt.1 E),oa,oa⟩
theorem QkH {b:Nat}(e:Int)(w:OZ)(E:QK ↑w b T (va::us))(hA:Qu L ↑w va al):
  QS sV 279 ([sS e]++[sP b]) w λr w'=>r=.bool (decide (e∉al))/\sW w w':=by
 refine Zl func279 ?_;refine Qc<|Qb<|Qc<|Qs O E O O<|Qa<|Qw<|(ZG hA e).S ?_;rintro G I ⟨rfl,rfl⟩;refine x (Zj O)<|Qb<|Qk ⟨[_],La,?_,O3.Y _ _⟩;show Value.bool (!decide (e∈al))=_;rw[decide_not]
def QkG (a:QD)(s:Int)(u:LI):Int:=if cks a s≠0 then cks a s else if(u.any λe=>decide (e∉a.al))=true then 9 else 0
theorem QoM {vw:O0}(h:Zp L ↑w va vm ve a)(V:Qu L' ↑w vw u)(s:Int):
  QS sV 248 [.agg #[va,sS a.st,vm,ve],sS s,vw] w λr w'=>sW w w'/\r=if QkG a s u≠0 then .tuple #[sS 0,sS 0,sS (QkG a s u)]else .tuple #[sS (flw a s u).1,sS (flw a s u).2,sS 0]:=by
 refine Zl func248 ?_;refine Qc<|Zc [va,sS a.st,vm,ve] λb3 w1 Y he S=>x Qd<|x Qd<|Qb<|Qe<|Qc<|Q3 S O O<|Qa<|Qw<|(JP (h.I Y) s).S ?_;rintro r2 w2 ⟨rfl,T⟩;refine Qb ?_;have G:=Y.D T;unfold QkG;refine Ql<|ZL O O<|xe<|Zh rfl (λE=>?_) (λE=>?_)
 ·refine Ql<|x Qd<|x Qd<|Qb<|Qk ⟨[_,_,_],ox,G,by rw[OS E,OS E];rfl⟩
 have hc:cks a s=0:=Lt.1 E;obtain⟨ho,h0,h1⟩:=Qcd hc;rw[OR E];refine Qf<|Qe<|Ql<|x (Zk (l:=[]) (l':=[.tmp 3]))<|Qw<|(QaJ (q:=λe=>decide (e∉a.al)) (cap:=[sP b3]) (V.I G) (λe w4 I=>QkH e w4 ((S.I T).I I) ((h.al.I G).I I))).S ?_;rintro r3 w3 ⟨rfl,ha⟩;refine xe ?_;have J:=G.D ha;refine Q0 rfl (λU=>?_) (λU=>?_)
 ·rw[OS U];refine Qc<|x Qd<|x Qd<|Qb<|Qk ⟨[_,_,_],ox,J,by rw[OS og];rfl⟩
 rw[OR (by rw[U];simp)];refine Qf<|Qc<|Q3 ((S.I T).I ha) O O<|Qa<|Qa<|Qw<|(Qf3 (h.ed.I J) (V.I J) ho s h0 h1).S ?_;rintro r4 w4 ⟨rfl,I⟩;refine Qa<|x (QV O O) <|
  QQ rfl rfl<|x Qd<|Qb<|Ql<|Qa<|x Qd<|x Qd<|Qb<|Qk ⟨[_,_,_],ox,J.D I,O⟩
def enb (a:QD)(s:Int):LI:=(QO a.ed s).map (·.2.1)
theorem Qja {l:List Ed}{k:Nat}(h:k<l.length):(l.take (k+1)).map (·.2.1)=(l.take k).map (·.2.1)++[(l[k]'h).2.1]:=by
 rw[List.take_add_one,LE h,Lv];rfl
theorem Qd2 (h:Zp L ↑w va vm ve a)(s:Int):
  QS sV 32 [.agg #[va,sS a.st,vm,ve],sS s] w λr w'=>sW w w'/\∃v,r=.tuple #[v,sS (cks a s)]/\(cks a s≠0->v=Zo)/\(cks a s=0->Qh 3 ↑w w' v (enb a s)):=by
 refine Zl func32 ?_;refine Qc<|Zc [va,sS a.st,vm,ve] λb2 w1 hf h4 hg=>x Qd<|Qb<|Qe<|Qc<|Q3 hg O O<|Qa<|Qw<|(JP (h.I hf) s).S ?_;rintro r2 w2 ⟨rfl,hh⟩;refine Qb ?_;have T:=hf.D hh;refine Ql<|ZL O O<|xe<|Zh rfl (λU=>?_) (λU=>?_)
 ·refine Ql<|x Qd<|Qb<|Qk ⟨[Zo,_],ov,T,Zo,O,λ_=>O,λe=>OU e U⟩
 have hc:cks a s=0:=Lt.1 U;obtain⟨G,h0,h1⟩:=Qcd hc;have h5:=G.st1;rw[hc];refine Qf<|Qc<|Qb<|Qe<|Qc<|Q3 (hg.I hh) O O<|Qa<|Qw<|(Qad (h.ed.I T) G.eds (λe he=>⟨(G.ed e he).1,oo (G.ed e he).2.1⟩) s h0 oa).S ?_;rintro vo w3 ⟨hm,hE⟩;refine QG hE O<|Qa<|xe ?_;have hj:=T.D hm;have hn:=hj.size;have hp:=Ya a.ed s;have h6:=G.ed_le;refine Zg (QO a.ed s) λos I=>?_;rw[I]at hE hp;refine QX (α:=Nat×O0) [(7,7),(9,9),(20,29)] (λz=>[(7,z.2),(20,sS z.1)]) (λz w'=>z.1<=os.length/\sW w3 w'/\Qh 3 ↑w3 w' z.2 ((os.take z.1).map (·.2.1))) (λz=>os.length - z.1) (0,nS) ⟨O,by rw[I];rfl,Z⟩ ⟨Lo _,O3.Y _ _,QL _ _ _ _⟩ ?_;rintro⟨k,v⟩ g w4 ⟨hk,S,J⟩;simp only[]at hk J;have h7:=S.size;refine Zi rfl O (λV=>?_) (λV=>?_)
 ·refine Qt<|Ql<|x Qd<|Qb ?_;rw[Lq (by rw[I]at V;omega)]at J;refine Qk ⟨[v,_],ov,hj.D S,v,O,λe=>OU O e,λ_=>?_⟩;unfold enb;rw[I];exact Q9 J hn
 have E:k<os.length:=by rw[I]at V;omega
 refine Qf<|Qe<|Qn<|Qc<|xie (hE.I S) O O E λh8 hq=>x (QF hq O O)<|QT [sS 0,sS 0,sS 0] λb9 w5 hr hs ht=>Q5 (Qp (os[k]'E)) ht ox λw6 hu hv =>
  xe ?_
 have Y:sW w4 w6:=hr.Q hu hs;have hw:=Qm J Y;refine Qr<|Qa<|Qs O hv O O<|Qo<|Yd (us:=[[sS (os[k]'E).2.1]]) O O og od ⟨rfl,rfl,Z⟩ λh9 w7 ha hA hy=>?_;have hz:=Qm hw ha;have hB:=(Y.D ha).size;have hC:((os.take k).map (·.2.1)).length<=131072:=by simp;omega
 refine Qo<|QZ (news:=[sS (os[k]'E).2.1]) (L:=[]) hz O O O (hy.at od) om oa oa λv8 w8 h2 h3 hD=>Qb<|Qr<|QB rfl rfl<|Qa<|xe<|⟨(k+1,v8),oe,ov,E,((S.D Y).D ha).O h3 (λb hb=>.inr ((Qi J) b hb).1),?_⟩;simp only[];rw[Qja E];exact Qh.snoc h2
theorem jZ {v:O0}(h:Qu L ↑w v l)(n:Int):
  QS sV 254 [v,sS n] w λr w'=>r=sS (JO n none l)/\w'=w:=by
 have he:=h.le;refine Zl func254 ?_;refine Qc<|Qb<|Qe<|Ql<|QG h O<|Qa<|xe<|QX (α:=Nat) [(4,6),(9,34)] (λk=>[(9,sS k)]) (λk w'=>w'=w/\k<=l.length/\JO n (pv l k) (l.drop k)=JO n none l) (λk=>l.length - k) 0 La ⟨O,Lo _,O⟩ ?_;rintro k g U ⟨rfl,hk,E⟩;refine Zi rfl O (λV=>?_) (λV=>?_)
 ·refine Qt<|Qc<|Qb<|Qk ⟨[sS 0],La,?_,O⟩;rw[<-E,Lr oa];rfl
 have G:k<l.length:=oa
 rw[(QY G),JO]at E;refine Qf<|Qe<|Qn<|Ql<|xii h O O G λhf Y=>x (Qq Y O)<|x Qd<|Qb<|Qn<|QW (α:=Bool) [(14,21)] (λz=>[(14,.bool z)]) (λz w'=>w'=U/\z=decide (l[k]<0\/n<=l[k])) oh ?_ ?_
 ·refine Qr<|Qa<|xb (Ys O O) (λI=>?_) (λI=>?_)
  ·refine Qa<|Zw<|Qz O<|Qb<|⟨true,La,O,by simp[I]⟩
  refine Qa<|Qa<|Qa<|x (Yh O O)<|Qz O<|Qb<|⟨_,La,O,by simp[I]⟩
 rintro z g w2 ⟨rfl,rfl⟩;refine Zh rfl (λJ=>?_) (λJ=>?_)
 ·refine Qc<|Qb<|Qk ⟨[sS 2],La,?_,O⟩;rw[<-E,OS J];rfl
 rw[OR J]at E;refine QW (α:=Bool) [(22,33)] (λz=>[(22,.bool z)]) (λz w'=>w'=w2/\z=zu (pv l k) l[k]) oh ?_ ?_
 ·refine Qr<|Qa<|xb (Z5 O O) (λha=>?_) (λha=>?_)
  ·have hk1:((k:Int) - 1)=((k - 1:Nat):Int):=oa
   refine Qa<|Qa<|Qa<|Qa<|x (Jg O O ⟨oa,oa⟩)<|xii (i:=k - 1) h O (by show Value.int _ ((k:Int) - 1)=_;rw[hk1]) oa λhg hc=>x (Qq hc rfl)<|x (XY rfl rfl)<|Qz rfl<|Qb<|⟨_,⟨rfl,Z⟩,rfl,?_⟩;have:pv l k=some l[k - 1]:=by
    have S:k≠0:=oa
    simp[pv,S,show k - 1<l.length by omega]
   rw[this];rfl
  refine Qa<|Zw<|Zw<|Jr<|Qz O<|Qb ?_;have S:k=0:=oa
  exact⟨false,La,O,by simp[pv,S,zu]⟩
 rintro z g w3 ⟨rfl,rfl⟩;refine Q0 rfl (λT=>?_) (λT=>?_)
 ·refine Qc<|Qb<|Qk ⟨[sS 5],La,?_,O⟩;rw[<-E,OS T];rfl
 rw[OR (by simp[T])]at E;refine Qf<|Qr<|QB O O<|Qa<|xe ?_;exact⟨k+1,oa,La,O,oa,by rw[Ke G];exact E⟩
theorem qb {v:O0}(h:Qu L ↑w v l)(n:Int):
  QS sV 89 [v,sS n] w λr w'=>r=sS (JO n none l)/\w'=w:=by
 have he:=h.le;refine Zl func89 ?_;refine Qc<|Qb<|Qe<|Ql<|QG h O<|Qa<|xe<|QX (α:=Nat) [(4,6),(9,32)] (λk=>[(9,sS k)]) (λk w'=>w'=w/\k<=l.length/\JO n (pv l k) (l.drop k)=JO n none l) (λk=>l.length - k) 0 La ⟨O,Lo _,O⟩ ?_;rintro k g U ⟨rfl,hk,E⟩;refine Zi rfl O (λV=>?_) (λV=>?_)
 ·refine Qt<|Qc<|Qb<|Qk ⟨[sS 0],La,?_,O⟩;rw[<-E,Lr oa];rfl
 have G:k<l.length:=oa
 rw[(QY G),JO]at E;refine Qf<|Qe<|Qn<|Ql<|xii h O O G λhf Y=>x (Qq Y O)<|x Qd<|Qb<|Qe<|QW (α:=Bool) [(14,20)] (λz=>[(20,.bool z)]) (λz w'=>w'=U/\z=decide (l[k]<0\/n<=l[k])) oh ?_ ?_
 ·refine Qr<|Qa<|xb (Ys O O) (λI=>?_) (λI=>?_)
  ·refine Qa<|Zw<|Qz O<|xe ?_;exact⟨true,La,O,by simp[I]⟩
  refine Qa<|Qa<|Qa<|x (Yh O O)<|Qz O<|xe ?_;exact⟨_,La,O,by simp[I]⟩
 rintro z g w2 ⟨rfl,rfl⟩;refine Zh rfl (λJ=>?_) (λJ=>?_)
 ·refine Qc<|Qb<|Qk ⟨[sS 2],La,?_,O⟩;rw[<-E,OS J];rfl
 rw[OR J]at E;refine Qf<|QW (α:=Bool) [(21,31)] (λz=>[(31,.bool z)]) (λz w'=>w'=w2/\z=zu (pv l k) l[k]) oh ?_ ?_
 ·refine Qr<|Qa<|xb (Z5 O O) (λha=>?_) (λha=>?_)
  ·have hk1:((k:Int) - 1)=((k - 1:Nat):Int):=oa
   refine Qa<|Qa<|Qa<|Qa<|x (Jg O O ⟨oa,oa⟩)<|xii (i:=k - 1) h O (by show Value.int _ ((k:Int) - 1)=_;rw[hk1]) oa λhg hc=>x (Qq hc rfl)<|x (XY rfl rfl)<|Qz rfl<|xe<|⟨_,La,O,?_⟩;have:pv l k=some l[k - 1]:=by
    have S:k≠0:=oa
    simp[pv,S,show k - 1<l.length by omega]
   rw[this];rfl
  refine Qa<|Zw<|Zw<|Jr<|Qz O<|xe ?_;have S:k=0:=oa
  exact⟨false,La,O,by simp[pv,S,zu]⟩
 rintro z g w3 ⟨rfl,rfl⟩;refine Q0 rfl (λT=>?_) (λT=>?_)
 ·refine Qc<|Qb<|Qk ⟨[sS 5],La,?_,O⟩;rw[<-E,OS T];rfl
 rw[OR (by simp[T])]at E;refine Qf<|Qr<|QB O O<|Qa<|xe ?_;exact⟨k+1,oa,La,O,oa,by rw[Ke G];exact E⟩
theorem z8 {v:O0}(h:Qu L ↑w v l):
  QS sV 196 [.agg #[va,sS a.st,vm,ve],v] w λr w'=>r=sS (JO a.st none l)/\sW w w':=by
 refine Zl func196 ?_;refine Qc<|Zc [va,sS a.st,vm,ve] λI J E S G=>Qb<|Ql<|Qs O G O O<|Qw<|(jZ (h.I E) a.st).S ?_;rintro r2 T ⟨rfl,rfl⟩;refine Qb<|Qk ⟨[sS (JO a.st none l)],La,O,E⟩
def flg (n:Nat)(l:LI):List Bool:=(oJ n).map λi:Nat=>decide ((i:Int)∈l)
theorem Ud (n:Nat)(l:LI):(flg n l).length=n:=by simp[flg]
theorem QaA (h:i<(flg n l).length):(flg n l)[i]'h=decide ((i:Int)∈l):=by simp[flg]
theorem qL {x:Int}(G:0<=x):(flg n l).set x.toNat true=flg n (l++[x]):=by
 apply LX
 ·simp[flg]
 intro i I E;rw[M1,QaA E];by_cases e:x.toNat=i
 ·have:(i:Int)=x:=oa
  rw[OS e,this];simp
 have:(i:Int)≠x:=oa
 rw[OR e,QaA];simp[this]
theorem QbW {v:O0}(h:Qu L ↑w v l)(U:a.st=(n:Int))(hp:a.st<=4096)(hl:∀s∈l,0<=s/\s<a.st):
  QS sV 197 [.agg #[va,sS a.st,vm,ve],v] w λr w'=>sW w w'/\∃b,r=sL b n n/\↑w<=b/\QK ↑w' b 4 ((flg n l).map Value.bool):=by
 have hq:=h.le;refine Zl func197 ?_;refine Qc<|Zc [va,sS a.st,vm,ve] λb2 w1 G hr ha=>Qb<|Qc<|Qs O ha O O<|Qo<|YS (n:=n) (OT sS U) (OT sS U) oa λb10 w2 V hc he=>Qb ?_;have hf:QK ↑w2 b10 4 ((flg n (l.take 0)).map Value.bool):=by
  have e:(oG n (Value.bool false).cells.toList).flatten=(flg n (l.take 0)).map Value.bool:=by
   simp only[flg,List.take_zero,oH,decide_false,List.map_map];apply LX
   ·simp[Value.cells]
   intro i h1 h2;simp[Value.cells]
  rw[<-e];exact he
 refine Qe<|Ql<|QG (h.I (G.D V)) O<|Qa<|xe<|QX (α:=Nat) [(7,7),(13,20)] (λz=>[(13,sS z)]) (λz w'=>z<=l.length/\sW w1 w'/\QK ↑w' b10 4 ((flg n (l.take z)).map Value.bool)) (λz=>l.length - z) 0 La ⟨Lo _,V,hf⟩ ?_;rintro k g w3 ⟨hk,J,S⟩;refine Zi rfl O (λT=>?_) (λT=>?_)
 ·refine Qt ?_;have hg:l.length<=k:=by have I:¬(k:Int)<(l.length:Int):=T;omega
  rw[Lq hg]at S;refine Ql<|Qb ?_;have ht:=G.size;exact Qk ⟨[sL b10 n n],La,G.D J,b10,O,oa,S⟩
 have E:k<l.length:=by have I:(k:Int)<(l.length:Int):=T;omega
 have hx:=hl _ (Lk E);have Y:l.take (k+1)=l.take k++[l[k]'E]:=Lh E;refine Zg (l[k]'E) λs hs=>?_;rw[hs]at hx Y;have hh:s=(s.toNat:Int):=oa
 refine Qf<|Qe<|Qn<|Qc<|xii (i:=k) ((h.I G).I J) O O E λhu I=>?_;rw[hs]at I;refine x (Qq I O)<|Qb<|Qr<|Qa<|Qa<|x (QE (i:=s.toNat) O (OT sS hh) oa)<|Qo<|Qv (j:=0+s.toNat*1) (u:=.bool true) S O O (by rw[Lm,Ud];omega) O λw4 hj hm=>xe ?_;have ho:QK ↑w4 b10 4 ((flg n (l.take (k+1))).map Value.bool):=by
  rw[Y,<-(qL (n:=n) (l:=l.take k) hx.1),Nw];simpa using hm
 refine Qr<|QB O O<|Qa<|xe ?_;exact⟨k+1,oa,La,E,J.Q hj hc,ho⟩
def Rv (l:LI)(i:Nat)(li:LI):Prop:=∃h:li.length=l.length,∀k (E:k<l.length),li[k]'oa=if k<i\/l.length<=k+i then l[l.length - 1 - k]'oa else l[k]'E
theorem Rv.start (l:LI):Rv l 0 l:=⟨O,λk E=>by rw[OR oa]⟩
theorem Rv.next (h:Rv l i li)(hi:i<l.length - 1 - i):Rv l (i+1) ((li.set i (l[l.length - 1 - i]'oa)).set (l.length - 1 - i) (l[i]'oa)):=by
 obtain⟨E,G⟩:=h;refine⟨by simp[E],λk I=>?_⟩;rw[M1,M1];by_cases e1:l.length - 1 - i=k
 ·rw[OS e1,OS oa];congr 1;omega
 rw[OR e1];by_cases e2:i=k
 ·rw[OS e2,OS oa];subst e2;rfl
 rw[OR e2,G k I];by_cases e3:k<i\/l.length<=k+i
 ·rw[OS e3,OS oa]
 rw[OR e3,OR oa]
theorem Rv.fin (h:Rv l i li)(hi:l.length - 1 - i<=i)(J:2*i<=l.length):li=l.reverse:=by
 obtain⟨E,G⟩:=h;apply LX
 ·simp[E]
 intro k S T;have I:k<l.length:=oa
 rw[G k I,List.getElem_reverse];by_cases e:k<i\/l.length<=k+i
 ·rw[OS e]
 rw[OR e];congr 1;omega
theorem Rv.at_i (h:Rv l i li)(hi:i<l.length - 1 - i):∃(G:i<li.length) (I:l.length - 1 - i<li.length),li[i]'G=l[i]'oa/\li[l.length - 1 - i]'I=l[l.length - 1 - i]'oa:=by
 obtain⟨J,E⟩:=h;refine⟨oa,oa,?_,?_⟩
 ·rw[E i oa,OR oa]
 rw[E _ oa,OR oa]
theorem yi {v:O0}(h:Qh 3 base w v l)(hh:l.length<=1099511627776):
  QS sV 144 [v] w λ_ w'=>Qh 3 base w' v l.reverse/\O3 (ob v) w w':=by
 refine Zl func144 ?_;refine Ql<|QG (QM (L:=[]) h hh od) rfl<|x (Jg rfl rfl ⟨oa,oa⟩)<|x Qd<|Qb<|QX (α:=Nat×LI) [(2,3),(7,27)] (λz=>[(2,sS z.1),(3,sS ((l.length:Int) - 1 - z.1))])
  (λz w'=>Rv l z.1 z.2/\2*z.1<=l.length/\O3 (ob v) w w'/\Qh 3 base w' v z.2) (λz=>l.length - z.1) (0,l) ⟨O,OT sS od,Z⟩ ⟨Rv.start l,od,O3.Y _ _,h⟩ ?_
 rintro⟨i,li⟩ g J ⟨hR,hk,T,E⟩;refine Qe<|Ql<|Qa<|ZP O O<|xe<|Zn rfl (λh9=>?_) (λh9=>?_)
 ·refine Qt ?_;rw[hR.fin oa hk]at E;exact⟨[],Z,E,T⟩
 have U:i<l.length - 1 - i:=oa
 have V:(l.length:Int) - 1 - (i:Int)=((l.length - 1 - i:Nat):Int):=oa
 have hq:li.length=l.length:=hR.1;refine Exists.elim (hR.at_i U) λY G=>Exists.elim G λh3 G=>?_;refine Exists.elim (UF E oa) λgg hg=>Exists.elim hg λcap I=>?_;have ha:Qu [] ↑J v li:=QM E oa od;refine Qf<|Qe<|Qn<|ZH [] (Y0 0 16 [13,15])<|p Qx<|p Qx<|p Qx<|p Qx<|p Qx<|p Qx<|pii (i:=l.length - 1 - i) O ha O (OT sS V) h3 λhs he=>?_;rw[G.2]at he;refine pq (λ_ S=>Qq (he.I S) O)<|p Qx<|p Qx<|pii (i:=i) O ha O O Y λht hf=>?_;rw[G.1]at hf;refine pq (λ_ S=>Qq (hf.I S) O)<|p (λ_=>QE (i:=i) (show ev _ _=_ from I) O oa) <|
  pkk<|y7 (Qm E (O3.X [] J)) I O O Y λw2 hm hn=>p (λ_=>QE (i:=l.length - 1 - i) (show ev _ _=_ from I) (OT sS V) oa) <|
  pkk<|y7 hn (by rw[MV];exact I) O O (by rw[MV];exact h3) λw3 ho hp=>pe ?_
 refine Qr<|Qa<|QB O O<|Qa<|x (Jg O O ⟨oa,oa⟩)<|x Qd<|Qb<|⟨(i+1,_),oe,⟨O,OT sS oa,Z⟩,(hR.next U),oe,((T.D (O3.X [] J)).V hm).V ho,hp⟩
open Go.RowKit
def upY (P:O2)(m:Nat)(dst:xD)(f:Fr)(K:xw):Result Next->Prop
 | .ok (.value v) w'=>K (QN f dst v) w'
 | .ok .skip w'=>K (QN f dst undef) w'
 | .ok (.enter g args) w'=>Calls P g args w' λe E=>match e with| .returned v=>K (QN f dst v) E|_=>False
 | .ok (.round l fn tmps assign body) w'=>RoundIn (fen none) (m - 1) P l fn tmps assign body w' λe E=>match e with| .returned v=>K (QN f dst v) E|_=>False
 | _=>False
def XOY (P:O2)(m:Nat)(o:Oper)(f:Fr)(w:OZ)(K:xw):Prop:=upY P m o.dst f K ((execOp (ev f) o).run P w)
def Jc (P:O2)(m:Nat)(ops:xC)(K:xw):xC->Fr->OZ->Prop
 | [],f,w=>K f w
 | o::l,f,w=>bif Z1 ops f o then XOY P m o f w (Jc P m ops K l) else Jc P m ops K l (QN f o.dst undef) w
theorem XOY.of_XO {o:Oper}{K':xw}(hK:∀f w,K f w->K' f w)(h:XO P o f w K):XOY P m o f w K':=by
 unfold XO at h;unfold XOY;generalize (execOp (ev f) o).run P w=r at h;cases r with
 | ok nx w' =>
  cases nx <;> simp only[upF]at h <;> simp only[upY]
  case value v=>exact hK _ _ h
  case skip=>exact hK _ _ h
  case enter g args =>
   refine Calls.mono h λe G E=>?_;cases e with
   | returned v=>exact hK _ _ E
   | panicked c=>exact E.elim
   | outgrown=>exact E.elim
 | halt x w'=>exact h.elim
theorem Jc.pre {ops:xC}{K:xw}{l2:xC}:∀(E:xC) (f:Fr) (w:OZ),XL P ops (λf w=>Jc P m ops K l2 f w) E f w->Jc P m ops K (E++l2) f w
 | [],f,w,h=>by unfold XL at h;exact h
 | o::E,f,w,h=>by
  unfold XL at h;show(bif Z1 ops f o then XOY P m o f w (Jc P m ops K (E++l2)) else Jc P m ops K (E++l2) (QN f o.dst undef) w);cases G:Z1 ops f o with
  | false=>rw[G]at h;exact Jc.pre E _ _ h
  | true=>rw[G]at h;exact XOY.of_XO (λf w h=>Jc.pre E f w h) h
theorem Jc.pre2 {o1 o2:Oper}{l2:xC}(h:XL P ops (λf w=>Jc P m ops K l2 f w) [o1,o2] f w):Jc P m ops K (o1::o2::l2) f w:=Jc.pre [o1,o2] f w h
theorem Jc.of_XL {l:xC}(h:XL P ops K l f w):Jc P m ops K l f w:=by
 have:=Jc.pre (m:=m) (l2:=[]) l f w h
 rwa [LF]at this
theorem QjP {o:Oper}{a:Act}{K':Act->OZ->Prop}{Q:Exit->Act->OZ->Prop}(h:Y3 n ds a f)
  (hK:∀v w',K (QN f o.dst v) w'->K' (a.put o.dst v) w') (hx:XOY P m o f w K):o.wpIn (fen none) m P a w K' Q:=by
 unfold XOY at hx;refine⟨λ_ _=>trivial,?_⟩;have e:Oper.semAt (fen none).round a.eval o=execOp (ev f) o:=by rw[h.eval];rfl
 rw[e];generalize (execOp (ev f) o).run P w=r at hx;cases r with
 | ok nx w' =>
  cases nx <;> simp only[upY]at hx <;> simp only[Oper.uponIn]
  case value v=>exact hK v w' hx
  case skip=>exact hK _ w' hx
  case enter g args =>
   refine⟨λh=>by simp[Fence.wide]at h,?_⟩;refine(callsIn_wide (n:=m - 1)).2 (Calls.mono hx λe G E=>?_);cases e with
   | returned v=>exact hK v G E
   | panicked c=>exact E.elim
   | outgrown=>exact E.elim
  case round l fn tmps assign body =>
   refine⟨λh=>by simp[Fence.wide]at h,?_⟩;refine RoundIn.mono hx λe G E=>?_;cases e with
   | returned v=>exact hK v G E
   | panicked c=>exact E.elim
   | outgrown=>exact E.elim
 | halt x w'=>exact hx.elim
theorem Qcu {Q:Exit->LN->Fr->OZ->Prop}{all:xC}(G:∀o∈all,∀d,o.dst=some d->d<n)(f0:Fr):
  ∀(l:xC) (k:Nat) (a:Act) (f:Fr) (w:OZ),(∀j,l[j]?=all[k+j]?)->Y3 n ds a f->(∀t,Yj all t=false->f t=f0 t) ->
   Jc P m all (λf w=>Q .normal ds f w) l f w ->
   wpOpsIn (fen none) m P all.toArray (λe V w'=>∃ds' f',Y3 n ds' V f'/\(∀t,Yj all t=false->f' t=f0 t)/\Q e ds' f' w') (oN k l.length) a w
 | [],_,a,f,w,_,E,I,h=>⟨ds,f,E,I,by unfold Jc at h;exact h⟩
 | o::l,k,a,f,w,hl,E,I,h=>by
  have S:all[k]?=some o:=by simpa using(hl 0).symm
  have J:o∈all:=Mj S;have ih:=λa f w=>Qcu (Q:=Q) G f0 l (k+1) a f w (λj=>by have:=hl (j+1);simpa[Nat.add_assoc,Nat.add_comm 1 j]using this);have next:∀v,(∀t,Yj all t=false->QN f o.dst v t=f0 t):=λv t T=>(YX (Jd J T) v).D (I t T);simp only[oQ,Oy,wpOpsIn,oR,S];rw[Vn E G o];unfold Jc at h;cases U:Z1 all f o with
  | false =>
   rw[U]at h;exact⟨λ_ _=>trivial,ih _ _ _ (E.put (G o J) _) (next _) h⟩
  | true =>
   rw[U]at h;exact QjP E (λv w' hx=>ih _ _ _ (E.put (G o J) v) (next v) hx) h
theorem J8 {Q:Exit->LN->Fr->OZ->Prop}{l:xC}(E:Xi n l=true)(h:Jc P m l (λf w=>Q .normal ds f w) l f w):WG none m P n (.region id l.toArray false) Q ds f w:=by
 unfold WG;intro a G;refine wpIn_region ?_;have:=Qcu (m:=m) (Xt E) f l 0 a f w od G (λ_ _=>rfl) h;simpa[List.range_eq_range',X0]using this
theorem xy {rest:xC}{x:O1}{l:Nat}{R:Ending->OZ->Prop}
  (hx:ev f x=.func (.yield l) #[] #[]) (E:YieldAt (fen none) (m - 1) P l #[ev f y] w R) (hK:∀e w',R e w'->∃v,e=.returned v/\Jc P m ops K rest (QN f d v) w')
  (G:Z1 ops f ⟨d,.call ⟨.value x,#[y],at_⟩,ty,pS,af,gd⟩=true:=by rfl):
  Jc P m ops K (⟨d,.call ⟨.value x,#[y],at_⟩,ty,pS,af,gd⟩::rest) f w:=by
 obtain⟨fn,tmps,assign,body,I,J⟩:=E;have S:(execOp (ev f) ⟨d,.call ⟨.value x,#[y],at_⟩,ty,pS,af,gd⟩).run P w=.ok (.round l fn tmps assign body) w:=by
  simp[execOp,resolve,hx,Deferred.ofValue,invoke,I]
 unfold Jc;rw[G];simp only[XOY,S,upY,cond_true];exact J.mono λe w' h=>by obtain⟨v,rfl,T⟩:=hK e w' h;exact T
attribute [irreducible] Jc
structure Lw (B:Nat)(L:LN)(w w':OZ):Prop where
 os:w'.os=w.os
 tape:w'.tape=w.tape
 output:w'.output=w.output
 size:w.heap.size<=↑w'
 low:∀k,k<B->k∉L->w'.heap[k]?=w.heap[k]?
theorem Lw.refl (B:Nat)(L:LN)(w:OZ):Lw B L w w:=⟨O,O,O,Lp _,λ_ _ _=>O⟩
theorem Lw.D {B:Nat}{L:LN}{E w w':OZ}(h:Lw B L E w)(k:Lw B L w w'):Lw B L E w' :=
 ⟨k.os.D h.os,k.tape.D h.tape,k.output.D h.output,Lx h.size k.size,λi hi G=>(k.low i hi G).D (h.low i hi G)⟩
theorem O3.lw {E:OZ}(h:O3 L w w')(k:Lw ↑w L w' E):O3 L w E :=
 ⟨k.os.D h.os,k.tape.D h.tape,k.output.D h.output,Lx h.size k.size,λi hi G=>(k.low i hi G).D (h.block i hi G)⟩
structure XD (B:Nat)(L:LN)(W W':OZ):Prop where
 lw:Lw B L W W'
 other:∀(k:Nat) (o:Obj),W.heap[k]?=some o->o.isCells=false->W'.heap[k]?=some o
theorem XD.refl (B:Nat)(L:LN)(w:OZ):XD B L w w:=⟨Lw.refl _ _ _,λ_ _ h _=>h⟩
theorem XD.D {B:Nat}{L:LN}{E w w':OZ}(h:XD B L E w)(k:XD B L w w'):XD B L E w':=⟨h.lw.D k.lw,λi o hi G=>k.other i o (h.other i o hi G) G⟩
theorem XD.J {X:LN}{W:OZ}(h:O3 X W W')(T:B<=↑W)(hX:∀b∈X,(b∈L\/B<=b)/\∃o:Obj,W.heap[b]?=some o/\o.isCells=true):XD B L W W':=by
 refine⟨⟨h.os,h.tape,h.output,h.size,λk G J=>h.block k oa (λhx=>?_)⟩,λk o G S=>?_⟩
 ·rcases(hX k hx).1 with E|E
  ·exact J E
  omega
 refine(h.block k (LH.1 G).1 (λhx=>?_)).D G;obtain⟨U,E,I⟩:=(hX k hx).2;rw[G]at E;cases E;rw[S]at I;cases I
theorem XD.I {W:OZ}(h:sW W W')(E:B<=↑W):XD B L W W':=XD.J h E (λ_ hb=>by cases hb)
theorem QK.cells {H:xz}{b:Nat}(h:QK H b T cs):∃o:Obj,H[b]?=some o/\o.isCells=true:=⟨_,h,O⟩
theorem XD.blk {W:OZ}{b:Nat}(h:O3 [b] W W')(E:B<=↑W)(hb:QK ↑W b T cs)(G:b∈L\/B<=b):XD B L W W' :=
 XD.J h E (λc I=>by
  have e:c=b:=by simpa using I
  subst e;exact⟨G,hb.cells⟩)
def Z9 (B:Nat)(I:xx):Prop:=∀W W' X,I W->O3 X W W'->(∀r∈X,B<=r/\∃o:Obj,W.heap[r]?=some o/\o.isCells=false)->I W'
theorem Z9.own {I:β->OZ->Prop}(h:∀s,Z9 B (I s)):OwnFrom B I:=λs W W' row G J S =>
 h s W W' _ G (O3.of_grown J) (λr E=>S r (by cases row <;> simp at E ⊢;exact E.symm))
theorem Z9.blk {b:Nat}:Z9 B (λW=>QK ↑W b T cs):=λW W' X h G hX=>h.J G (λhb=>by
 obtain⟨_,o,E,I⟩:=hX b hb;unfold QK at h;rw[h]at E;cases E;cases I)
theorem Z9.and {I J:xx}(h:Z9 B I)(k:Z9 B J):Z9 B (λW=>I W/\J W):=λW W' X hi E hX=>⟨h W W' X hi.1 E hX,k W W' X hi.2 E hX⟩
theorem Z9.ex {I:β->OZ->Prop}(h:∀z,Z9 B (I z)):Z9 B (λW=>∃z,I z W):=λW W' X ⟨z,hi⟩ E hX=>⟨z,h z W W' X hi E hX⟩
theorem Z9.pure (p:Prop):Z9 B (λ_=>p):=λ_ _ _ h _ _=>h
theorem Z9.J (G:↑w<=B):Z9 B (λW=>O3 L w W):=λW W' X h E hX=>h.O E (λb hb=>.inr (oo (hX b hb).1))
theorem Q6 {e:Nat}{v:O0}(h:w.ownsRow base e sz v n cs):∀b∈ob v,∃o:Obj,w.heap[b]?=some o/\o.isCells=true:=by
 intro b hb;rcases h.2 with⟨E,_⟩|⟨g,cap,cur,E,I,G,_⟩
 ·subst E;simp[ob]at hb
 subst E;simp[ob]at hb;subst hb;exact⟨_,G,O⟩
theorem Z9.row {e:Nat}{v:O0}:Z9 B (λW=>W.ownsRow base e sz v n cs):=λW W' X h I hX=>Qg h I (λb hb hx=>by
 obtain⟨_,o,J,S⟩:=hX b hx;obtain⟨T,E,G⟩:=Q6 h b hb;rw[J]at E;cases E;rw[S]at G;cases G)
theorem Qfi {Q:Exit->LN->Fr->OZ->Prop}{g:O1}{p:Nat}{assign body:Code}(L:LN)(Y:1<=m)
  {gf:Nat}  [hF:Fu P gf fn]  (hg:ev f g=.func (.func gf) #[] capt.toArray) {enc:α->O0} {S:List α->Prop}  (hp:p<n)
  (hh:SeqStopsK (fen none) (m - 1) P gf capt.toArray (λx=>#[enc x]) (Lw ↑w L) S (λ_=>True) N w)
  (I:List α->OZ->Prop) (hI:∀s,Z9 ↑w (I s)) (h0:I [] w) (A:Fr->α->Fr->OZ->Prop) (hA:∀x E,Z9 ↑w (A f x E))
  (he:∀l pre x W,I pre W->WG (some l) (m - 1 - 1) P n assign (QcQ (λhc E W'=>hc=[]/\XD ↑w L W W'/\I pre W'/\A f x E W') (λ_ _ _ _=>False)) [] (upd f p (enc x)) W)
  (hf:∀l pre x E W,I pre W->A f x E W->pre.length<N->WG (some l) (m - 1 - 1) P n body (QcQ (λ_ _ W'=>XD ↑w L W W'/\I (pre++[x]) W') (λ_ _ _ _=>False)) [] E W)
  (hj:∀D xs W,↑w<=D->S xs->I xs W->W.heap[D]?=some (.deferred (some []))->Q .normal (D::ds) f W):
  WG none m P n (.rangeFunc g #[p] assign body) Q ds f w:=by
 unfold WG at he hf ⊢;intro a U;have eg:∀args w,(callFunc gf args).run P w=.ok (.enter gf args) w:=by
  intro args w;have Y:¬fn.name = "runtime.NumGoroutine" := by simpa using hF.nm
  have T:¬fn.body=none:=by have:=hF.b;intro e;rw[e]at this;cases this
  simp[callFunc,hF.f,Y,T]
 have keep:∀{W W':OZ},XD ↑w L W W'->KeepsFrom ↑w W W':=λh=>⟨h.lw.size,λk o _ hk ho=>h.other k o hk ho⟩;refine wpIn_rangeFunc_ownH (F:=fen none) O Y (gf:=gf) (lb:=capt.toArray) (by rw[U.eval];exact hg) Z eg hh (λh k=>h.D k)
  (λW l o o' hl ho _ _=>⟨O,O,O,od,λk hk _=>World.putObj_heap_other oa⟩) (Below.refl _ _) (λ_=>rfl) I (λ_ _ _=>False) (Z9.own hI) (λ_ _ _ _ _ hs _ _=>hs) h0
  (λx V W=>∃E,Y3 n [] V E/\A f x E W) (λx V=>Z9.own λ_=>Z9.ex λE=>Z9.and (Z9.pure _) (hA x E)) ?_ ?_ ?_ ?_
 ·intro l pre x W K hi hK;have hr:Y3 n [] { tmps:=((#[p]:Array Nat).zip #[enc x]).foldl (λt (p,v)=>t.setIfInBounds p v) a.tmps,defers:=[] } (upd f p (enc x)):=by
   have T:Y3 n [] { a with defers:=[] } f:=⟨U.size,O,U.get⟩
   have G:=T.put (dst:=some p) (λd e=>by cases e;exact hp) (enc x);have e:((#[p]:Array Nat).zip #[enc x]).foldl (λt (p,v)=>t.setIfInBounds p v) a.tmps=a.tmps.setIfInBounds p (enc x):=od
   rw[e];exact G
  refine wpIn_mono (he l pre x W hi _ hr) ?_;rintro e V W' ⟨hc,E,T,_,G⟩;cases e with
  | normal=>obtain⟨rfl,h4,J,h6⟩:=G;exact hK V W' (keep h4) h4.lw J ⟨E,T,h6⟩
  | exit id=>exact G.elim
  | goto l=>exact G.elim
  | ret=>exact G.elim
  | panic ch=>exact G.elim
  | outgrown=>exact G.elim
 ·rintro l pre x V W _ _ hi ⟨E,T,G⟩ hm;refine wpIn_mono (hf l pre x E W hi G hm V T) ?_;rintro e hn W' ⟨hc,hq,h4,_,J⟩;cases e with
  | normal=>exact⟨keep J.1,J.1.lw,J.2⟩
  | exit id=>exact J.elim
  | goto l=>exact J.elim
  | ret=>exact J.elim
  | panic ch=>exact J.elim
  | outgrown=>exact J.elim
 ·intro D xs W hD hS hi hd;exact⟨D::ds,f,⟨U.size,by rw[show coll (D::ds)={ target:=.collected D,args:=#[] }::coll ds from rfl,U.defers],U.get⟩,λ_ _=>rfl,hj D xs W hD hS hi hd⟩
 intro D c pre W _ _ h _;exact h.elim
def QoA (P:O2)(t:Nat):Option (LV×xt):=match P.info? t,P.underlying t with
 | some it,some (.struct fs)=>match it.zero,fs.toList.mapM (λf=>(P.info? f.type).map λi=>(f.offset,i.size)) with
  | some (.agg zs),some pl=>some (zs.toList,pl)
  | _,_=>none
 | _,_=>none
class Bw (P:O2)(t:Nat)(zs:outParam (LV))(pl:outParam xt):Prop where
 h:QoA P t=some (zs,pl):=by first|kernel_rfl|decide|rfl|exact sX (by kernel_rfl)
 b:pl.all (λx=>x.1+x.2<=zs.length)=true:=by first|kernel_rfl|decide|rfl|exact sX (by kernel_rfl)
def Qbl:LV->Nat->LV->LV
 | zs,_,[]=>zs
 | zs,o,u::us=>Qbl (zs.set o u) (o+1) us
def QjM (pl:xt)(zs:LV):List (Nat×LV)->LV
 | []=>zs
 | (j,us)::ps=>QjM pl (Qbl zs (pl.getD j (0,0)).1 us) ps
def QmA:List (Nat×O0)->List (Nat×LV)->Prop
 | [],[]=>True
 | (j,v)::vs,(j',us)::uss=>v.cells=us.toArray/\j=j'/\QmA vs uss
 | _,_=>False
theorem Qbk:∀(us zs:LV) (o:Nat),(Qbl zs o us).length=zs.length
 | [],_,_=>rfl
 | u::us,zs,o=>by rw[Qbl,Qbk us,MV]
theorem yQ (o:Nat):∀(us:LV) (k:Nat) (zs:LV),(us.zipIdx k).foldl (λ(cs:Array O0) (x:O0×Nat)=>cs.setIfInBounds (o+x.2) x.1) zs.toArray=(Qbl zs (o+k) us).toArray
 | [],_,_=>rfl
 | u::us,k,zs=>by
  rw[NC,LO,Qbl];have:=yQ o us (k+1) (zs.set (o+k) u);rw[<-List.setIfInBounds_toArray]at this;exact this
theorem QiS {pl:xt}:∀(vs:List (Nat×O0)) (uss:List (Nat×LV)) (zs:LV),QmA vs uss->uss.all (λp=>p.1<pl.length && (p.2.length == (pl.getD p.1 (0,0)).2))=true ->
  (∀x∈pl,x.1+x.2<=zs.length)->Instr.fill (pl.toArray[·]?) zs.toArray vs=some (QjM pl zs uss).toArray
 | [],[],zs,_,_,_=>rfl
 | [],_::_,_,h,_,_=>h.elim
 | _::_,[],_,h,_,_=>h.elim
 | (j,v)::vs,(j',us)::uss,zs,I,G,J=>by
  obtain⟨T,rfl,I⟩:=I;simp only[Ob,oI,decide_eq_true_eq,beq_iff_eq]at G;obtain⟨⟨E,hl⟩,G⟩:=G;have S:pl.getD j (0,0)=pl[j]'E:=by simp[oO,E]
  have U:=J _ (Lk E);unfold Instr.fill;simp only[oR,oU E,T];rw[S]at hl;rw[OR (by simp only[Od,hl,ne_eq,not_true,decide_false,Bool.false_or,decide_eq_true_eq];omega)];have e:=yQ (pl[j]'E).1 us 0 zs;rw[MW]at e;have e2:(us.toArray.zipIdx).foldl (λ(cs:Array O0) (x:O0×Nat)=>cs.setIfInBounds ((pl[j]'E).1+x.2) x.1) zs.toArray=(Qbl zs (pl[j]'E).1 us).toArray:=by
   rw[<-e];simp
  rw[e2,QjM,S];simpa only[oR]using(QiS vs uss (Qbl zs (pl[j]'E).1 us) I G (λx hx=>by rw[Qbk];exact J x hx))
theorem QdJ {zs:LV}{pl:xt}(h:QoA P t=some (zs,pl))(hb:pl.all (λx=>x.1+x.2<=zs.length)=true)(vs:List (Nat×O0))(uss:List (Nat×LV))(J:QmA vs uss)
  (S:uss.all (λp=>p.1<pl.length && (p.2.length == (pl.getD p.1 (0,0)).2))=true):P.built t vs=some (QjM pl zs uss).toArray:=by
 have T:∀x∈pl,x.1+x.2<=zs.length:=λo U=>ou (L9.1 hb o U)
 unfold QoA at h;unfold Program.built;cases hi:P.info? t with
 | none=>simp[hi]at h
 | some it =>
  cases I:P.underlying t with
  | none=>simp[hi,I]at h
  | some dd =>
   simp only[hi,I]at h;cases dd <;> simp only[]at h <;> try (cases h)
   case struct fs =>
    cases E:it.zero with
    | none=>simp[E]at h
    | some z =>
     cases z <;> simp only[E]at h <;> try (cases h)
     rename_i za;cases G:fs.toList.mapM (λf=>(P.info? f.type).map λi=>(f.offset,i.size)) with
     | none=>simp[G]at h
     | some pl' =>
      simp only[G,Option.some.injEq,Prod.mk.injEq]at h;obtain⟨rfl,rfl⟩:=h;simp only[E,G,Value.cells];exact QiS vs uss za.toList J S T
theorem ZC {zs:LV}{pl:xt}[h:Bw P t zs pl]{parts:List (Nat×O1)}(uss:List (Nat×LV))
  (E:QmA (parts.map λx=>(x.1,ev f x.2)) uss) (G:uss.all (λp=>p.1<pl.length && (p.2.length == (pl.getD p.1 (0,0)).2))=true:=by rfl):
  (execOp (ev f) ⟨d,.build t parts.toArray,ty,pS,af,gd⟩).run P w=.ok (.value (sT (QjM pl zs uss))) w:=by
 simp only[execOp,Sem.run_bind,(run_build (P:=P) w t (parts.toArray.map λ(i,x)=>(i,ev f x)) _ (by simpa using(QdJ h.h h.b _ uss E G))),Result.andThen_ok,Sem.run_pure]
def cnE (p:Ed->Bool)(es:List Ed):Int:=((es.filter p).length:Int)
theorem Qcc (p:Ed->Bool)(es:List Ed)(e:Ed):cnE p (es++[e])=cnE p es+if p e=true then 1 else 0:=by
 unfold cnE;rw[LR,Lc];by_cases h:p e=true
 ·simp[h]
 simp[h]
theorem Vx (p:Ed->Bool)(es:List Ed):0<=cnE p es/\cnE p es<=es.length:=by
 unfold cnE;have:=LJ p es;omega
def gA (n:Nat)(f:Nat->Int):LI:=(oJ n).map f
theorem Qn9 (n:Nat)(f:Nat->Int):(gA n f).length=n:=by simp[gA]
theorem QiL {f:Nat->Int}(h:i<(gA n f).length):(gA n f)[i]'h=f i:=by simp[gA]
theorem Qds {f g:Nat->Int}{u:Int}(G:u=g i)(h:∀j,j<n->j≠i->g j=f j):(gA n f).set i u=gA n g:=by
 apply LX
 ·simp[gA]
 intro k I E;rw[M1,QiL E];by_cases e:i=k
 ·rw[OS e,G,e]
 rw[OR e,QiL];exact(h k (by simpa[gA]using E) (Ne.symm e)).symm
theorem QbT {f g:Nat->Int}(h:∀j,j<n->f j=g j):gA n f=gA n g:=List.map_congr_left (λj E=>h j (MD.1 E))
def cN (es:List Ed)(s:Nat):Int:=cnE (λe=>decide (e.1+1=(s:Int))) es
def fS (es:List Ed)(s:Nat):Int:=cnE (λe=>decide (e.1<(s:Int))) es
theorem QeS (es:List Ed)(s:Nat):fS es (s+1)=cN es (s+1)+fS es s:=by
 unfold fS cN cnE;induction es with
 | nil=>rfl
 | cons e es ih =>
  simp only[OF];by_cases I:e.1<(s:Int)
  ·have G:e.1<((s+1:Nat):Int):=oa
   have E:¬e.1+1=((s+1:Nat):Int):=oa
   simp only[I,G,E,decide_true,decide_false,if_true,oQ]at ih ⊢;simp only[Oi,if_false]at ih ⊢;omega
  by_cases G:e.1+1=((s+1:Nat):Int)
  ·have E:e.1<((s+1:Nat):Int):=oa
   simp only[I,G,E,decide_true,decide_false,if_true,oQ]at ih ⊢;simp only[Oi,if_false]at ih ⊢;omega
  have E:¬e.1<((s+1:Nat):Int):=oa
  simp only[I,G,E,decide_false,Oi,if_false]at ih ⊢;exact ih
theorem QeR (h:∀e∈es,0<=e.1):fS es 0=0/\cN es 0=0:=by
 unfold fS cN cnE;refine⟨?_,?_⟩
 ·have:(es.filter λe=>decide (e.1<((0:Nat):Int)))=[]:=MJ.2 (λe E=>by have:=h e E;simp;omega);rw[this];rfl
 have:(es.filter λe=>decide (e.1+1=((0:Nat):Int)))=[]:=MJ.2 (λe E=>by have:=h e E;simp;omega);rw[this];rfl
def mX (es:List Ed)(s j:Nat):Int:=if j<=s then fS es j else cN es j
theorem Qlh (h:∀e∈es,0<=e.1)(n:Nat):gA n (cN es)=gA n (mX es 0):=QbT λj _=>by
 unfold mX;by_cases e:j<=0
 ·have:j=0:=oa
  subst this;rw[OS (Lp _),(QeR h).1,(QeR h).2]
 rw[OR e]
theorem Qli (es:List Ed)(s n:Nat):(gA n (mX es s)).set (s+1) (mX es s (s+1)+mX es s s)=gA n (mX es (s+1)):=by
 refine Qds ?_ λj _ E=>?_
 ·unfold mX;rw[OR oa,OS (Lp _),OS (Lp _),QeS]
 unfold mX;by_cases e:j<=s
 ·rw[OS oa,OS e]
 rw[OR oa,OR e]
theorem Qme (es:List Ed)(e:Ed)(E:0<=e.1)(n:Nat):(gA n (cN es)).set (e.1.toNat+1) (cN es (e.1.toNat+1)+1)=gA n (cN (es++[e])):=by
 refine Qds ?_ λj _ G=>?_
 ·unfold cN;rw[Qcc,OS (by simp;omega)]
 unfold cN;rw[Qcc,OR (by simp;omega)];simp
theorem jd (n:Nat):(oG n (sS 0).cells.toList).flatten=(gA n (cN [])).map (Value.int .i64):=by
 apply LX
 ·simp[Value.cells,gA]
 intro i E G;simp[Value.cells,gA,cN,cnE]
theorem VS [Xx P t]{x:O1}{b:Nat}{g:Nat->Int}(h:QK ↑w b T ((gA n g).map (.int .i64)))(hx:ev f x=.pointer (some ⟨b,0+i*1,none⟩))(hi:i<n):
  (execOp (ev f) ⟨d,.load t x,ty,pS,af,gd⟩).run P w=.ok (.value (sS (g i))) w:=Qj h hx (by simp[gA,hi])
theorem zj [h1:Xx P t]{x:O1}{b:Nat}{g E:Nat->Int}{u:Int}(G:QK ↑w b T ((gA n g).map (.int .i64)))(hx:ev f x=.pointer (some ⟨b,0+i*1,none⟩))(I:ev f y=sS u)(hi:i<n)(J:(gA n g).set i u=gA n E)
  (hK:∀w',O3 [b] w w'->QK ↑w' b T ((gA n E).map (.int .i64))->K (QN f d undef) w'):XO P ⟨d,.store t x y,ty,pS,af,gd⟩ f w K :=
 JX G hx I (by rw[Qn9];exact hi) λw' S U=>hK w' S (by rw[<-J];exact U)
instance:Bw sV 304 [nS,sS 0,nS,nS,nS] [(0,4),(4,1)]:={}
theorem QbG (h:Zp [] ↑w va vm ve a)(hn:a.st=(n:Int))(hS:a.st<=4096)(h4:∀e∈a.ed,0<=e.1/\e.1<a.st):
  QS sV 198 [.agg #[va,sS a.st,vm,ve]] w λr w'=>sW w w'/\∃b,r=.agg #[va,sS a.st,vm,ve,sL b (n+1) (n+1)]/\↑w<=b/\QK ↑w' b 3 ((gA (n+1) (fS a.ed)).map (Value.int .i64)):=by
 have hT:=h.ed.le;refine Zl func198 ?_;refine Qc<|Zc [va,sS a.st,vm,ve] λb1 w1 hv hD hE=>QT [nS,sS 0,nS,nS,nS] λb2 G hw hU h5=>xe ?_;have ha:=hE.I hw;have hp:a.st+1=((n+1:Nat):Int):=oa
 have hy:sW G { G with drawn:=G.drawn+1 }:=O3.X [] G
 have hV:=hy.size;refine QW (α:=Nat×Nat) [(3,3),(7,12)] (λz=>[(3,.pointer (some ⟨z.1,0,none⟩))]) (λz w'=>sW G w'/\QK ↑w' z.1 304 [va,sS a.st,vm,ve,.slice (some ⟨z.2,0,none⟩) (n+1) (n+1)]/\QK ↑w' z.2 3 ((gA (n+1) (cN [])).map (Value.int .i64))/\↑G<=z.1/\↑G<=z.2/\z.1≠z.2) oh ?_ ?_
 ·refine Qff (sW G) (.f2 [oz 0,oz 1,oz 2,oz 3] 4 6 (.pl [oz 5,oA 6,oA 7]) (.pl [oA 4,oz 5,oA 7])) mixed oh oc (O3.X _ _) ?_;refine u2<|pq (λ_ E=>Zb (ha.I E) O O)<|p (QH O)<|pq (λ_ E=>Qj (ha.I E) O O)<|p (λ_=>Xd O O ⟨oa,oa⟩)<|pe ⟨?_,?_⟩
  ·refine ue<|YS (n:=n+1) (OT sS hp) (OT sS hp) oa λb11 w3 hz hF hq=>?_;have hf:=hy.D hz;have hW:=hq.lt;refine⟨hf,?_⟩;refine uP<|p (λ_=>ZC [(0,[va,sS a.st,vm,ve]),(1,[sL b11 (n+1) (n+1)])] ⟨O,O,O,O,Z⟩)<|pk<|YN (us:=[nS,sS 0,nS,nS,nS]) O λT w4 hg h6 U=>?_;have I:=hf.D hg;refine⟨I,?_⟩;refine pk<|UG [va,sS a.st,vm,ve,sL b11 (n+1) (n+1)] U ⟨h.al.one,O,h.mr.one,h.ed.one,O,Z⟩ λw5 J hh=>⟨I.Q J oa,pe ?_⟩;have h0:QK ↑w3 b11 3 ((gA (n+1) (cN [])).map (Value.int .i64)):=by rw[<-jd];exact hq
   exact⟨(T,b11),La,I.Q J oa,hh,(h0.I hg).J J (by simp;omega),oe,oe,oe⟩
  refine ue<|YN (us:=[nS,sS 0,nS,nS,nS]) O λT w3 hz h6 U=>?_;have hf:=hy.D hz;have hX:=U.lt;refine⟨hf,?_⟩;refine uP<|pk<|YS (n:=n+1) (OT sS hp) (OT sS hp) oa λb11 w4 hg hF hq=>?_;have I:=hf.D hg;refine⟨I,?_⟩;refine p (λ_=>ZC [(0,[va,sS a.st,vm,ve]),(1,[sL b11 (n+1) (n+1)])] ⟨O,O,O,O,Z⟩)<|pk<|UG [va,sS a.st,vm,ve,sL b11 (n+1) (n+1)] (U.I hg) ⟨h.al.one,O,h.mr.one,h.ed.one,O,Z⟩ λw5 J hh=>⟨I.Q J oa,pe ?_⟩;have h0:QK ↑w4 b11 3 ((gA (n+1) (cN [])).map (Value.int .i64)):=by rw[<-jd];exact hq
  exact⟨(T,b11),La,I.Q J oa,hh,h0.J J (by simp;omega),oe,oe,oe⟩
 rintro⟨T,bF⟩ g6 w6 ⟨h7,U,hG,h6,h8,hY⟩;have hZ:=ha.lt;have ga:=h5.lt;refine Qe<|Qc<|Qs O (ha.I h7) O O<|QG h.ed O<|Qa<|xe ?_;have hH:∀e∈a.ed,0<=e.1:=λe he=>(h4 e he).1;refine QX (α:=Nat) [(5,5),(16,29)] (λz=>[(16,sS z)]) (λz w'=>z<=a.ed.length/\sW G w'/\QK ↑w' T 304 [va,sS a.st,vm,ve,sL bF (n+1) (n+1)]/\QK ↑w' bF 3 ((gA (n+1) (cN (a.ed.take z))).map (Value.int .i64))) (λz=>a.ed.length - z) 0 La
  ⟨Lo _,h7,U,hG⟩ ?_
 rintro k g w7 ⟨hk,hr,h1,hs⟩;refine Zi rfl O (λh2=>?_) (λh2=>?_)
 ·refine Qt ?_;have hI:a.ed.length<=k:=by have ht:¬(k:Int)<(a.ed.length:Int):=h2;omega
  rw[Lq hI,Qlh hH (n+1)]at hs;refine Qe<|Qc<|Qs O (ha.I hr) O O<|Qa<|xe<|QX (α:=Nat) [(6,6),(32,48)] (λz=>[(32,sS z)]) (λz w'=>z<=n/\sW G w'/\QK ↑w' T 304 [va,sS a.st,vm,ve,sL bF (n+1) (n+1)]/\QK ↑w' bF 3 ((gA (n+1) (mX a.ed z)).map (Value.int .i64))) (λz=>n - z) 0 La
   ⟨Lo _,hr,h1,hs⟩ ?_
  rintro j g w8 ⟨hj,hm,hu,V⟩;refine Zi O O (λh9=>?_) (λh9=>?_)
  ·refine Qt ?_;have h3:j=n:=oa
   rw[h3]at V;have hJ:gA (n+1) (mX a.ed n)=gA (n+1) (fS a.ed):=QbT λi hi=>by unfold mX;rw[OS oa]
   rw[hJ]at V;refine Qc<|Q3 hu O O<|Q5 [va,sS a.st,vm,ve,sL bF (n+1) (n+1)] (h5.I hm) ⟨h.al.one,O,h.mr.one,h.ed.one,O,Z⟩ λw9 S hK=>xe ?_;have gb:=hv.size;refine Qk ⟨[_],⟨JN hK,Z⟩,((hv.D hw).D hm).Q S oa,bF,O,oa,V.J S (by simp;omega)⟩
  have h3:j<n:=by have gc:(j:Int)<a.st:=h9;omega
  have ge:=Vx (λe:Ed=>decide (e.1<(j:Int))) a.ed;have gg:=Vx (λe:Ed=>decide (e.1+1=((j+1:Nat):Int))) a.ed;have hL:mX a.ed j (j+1)=cN a.ed (j+1):=by unfold mX;rw[OR oa]
  have hM:mX a.ed j j=fS a.ed j:=by unfold mX;rw[OS (Lp _)]
  have hD:0<=mX a.ed j (j+1)/\mX a.ed j (j+1)<=1099511627776:=by rw[hL];unfold cN;omega
  have gh:0<=mX a.ed j j/\mX a.ed j j<=1099511627776:=by rw[hM];unfold fS;omega
  refine Qf<|Qe<|Qn<|Ql<|Qb<|ZH [] (Y0 0 14 [13])<|p (QH O)<|pq (λ_ E=>Qj (hu.I E) O O)<|p Qx<|p (λ_=>Xd O O ⟨oa,oa⟩) <|
   p (λ_=>QE (i:=j+1) O O oa)<|pq (λ_ E=>VS (i:=j+1) (V.I E) O oa)<|p (QH O)<|pq (λ_ E=>Qj (hu.I E) O O) <|
   p Qx<|p (λ_=>QE (i:=j) O O oa)<|pq (λ_ E=>VS (i:=j) (V.I E) O oa)<|p (λ_=>Xd O O ⟨oa,oa⟩) <|
   p (λ_=>QE (i:=j+1) O O oa)<|pkk<|zj (i:=j+1) (V.I (O3.X [] w8)) O O oa (Qli a.ed j (n+1)) λw9 S hN=>pe ?_
  refine Qr<|QB O O<|Qa<|xe ?_;exact⟨j+1,oa,La,h3,(hm.D (O3.X [] w8)).Q S h8,(hu.I (O3.X [] w8)).J S (by simp;omega),hN⟩
 have Y:k<a.ed.length:=by have ht:(k:Int)<(a.ed.length:Int):=h2;omega
 have hA:a.ed.take (k+1)=a.ed.take k++[a.ed[k]'Y]:=Lh Y;have hB:=h4 _ (Lk Y);refine Zg (a.ed[k]'Y) λe he=>?_;rw[he]at hA hB;have hfr:e.1+1=((e.1.toNat+1:Nat):Int):=oa
 have hO:=Vx (λd:Ed=>decide (d.1+1=((e.1.toNat+1:Nat):Int))) (a.ed.take k);have gi:0<=cN (a.ed.take k) (e.1.toNat+1)/\cN (a.ed.take k) (e.1.toNat+1)<=1099511627776:=by unfold cN;rw[LA]at hO;omega
 refine Qf<|Qe<|Qn<|Qc<|xie ((h.I (hv.D hw)).ed.I hr) O O Y λgj ht=>?_;rw[he]at ht;refine x (QF ht O O)<|QT [sS 0,sS 0,sS 0] λb5 w8 hm hP hh=>Q5 (Qp e) hh ox λw9 S hQ=>xe ?_;have ho:sW w7 w9:=hm.Q S hP;refine Qr<|Qs O (h1.I ho) O O<|Qs O hQ O O<|QB O O<|x (QE (i:=e.1.toNat+1) O (OT sS hfr) oa) <|
  x (VS (i:=e.1.toNat+1) (hs.I ho) O oa)<|QB O O<|x (QE (i:=e.1.toNat+1) O (OT sS hfr) oa) <|
  Qo<|zj (i:=e.1.toNat+1) (hs.I ho) O O oa (Qme (a.ed.take k) e hB.1 (n+1)) λgk hC hR=>xe ?_
 refine Qr<|QB O O<|Qa<|xe<|⟨k+1,oa,La,Y,(hr.D ho).Q hC h8,(h1.I ho).J hC (by simp;omega),?_⟩;rw[hA];exact hR
open Go.RowKit
section
variable {l:xC}
end
def Xf {α:Type}(f:Nat->α)(i:Nat)(x:α):Nat->α:=λj=>if j=i then x else f j
theorem Zt (f:Nat->α)(i:Nat)(x:α):Xf f i x i=x:=by simp[Xf]
theorem ZM (f:Nat->α)(x:α)(h:j≠i):Xf f i x j=f j:=by simp[Xf,h]
theorem JR (k:α->β)(n:Nat)(f:Nat->α)(i:Nat)(x:α):((oJ n).map λj=>k (f j)).set i (k x)=(oJ n).map λj=>k (Xf f i x j):=by
 apply LX
 ·simp
 intro j E G;rw[M1];by_cases e:i=j
 ·subst e;simp[Zt]
 rw[OR e];simp[ZM _ _ (Ne.symm e)]
structure Vl (base:Nat)(w:OZ)(n:Nat)(f:Nat->O0)(g:Nat->LI):Prop where
 own:∀i,i<n->Qh 3 base w (f i) (g i)
 dj:∀i j,i<n->j<n->i≠j->Dj (f i) (f j)
theorem Vl.app {f:Nat->O0}{g:Nat->LI}(h:Vl base w n f g)(hi:i<n)(T:Qh 3 base w' v' l)(U:O3 (ob (f i)) w w')
  (V:∀b∈ob v',b∈ob (f i)\/↑w<=b):Vl base w' n (Xf f i v') (Xf g i l):=by
 refine⟨λj E=>?_,λj k E I G=>?_⟩
 ·by_cases e:j=i
  ·subst e;rw[Zt,Zt];exact T
  rw[ZM _ _ e,ZM _ _ e];exact Qg (h.own j E) U (h.dj j i E hi e)
 have key:∀j,j<n->j≠i->Dj v' (f j):=λj E e b hb J=>by
  rcases V b hb with S|S
  ·exact h.dj i j hi E (Ne.symm e) b S J
  have:=QU (h.own j E) b J;omega
 by_cases e1:j=i
 ·subst e1;rw[Zt,ZM _ _ (Ne.symm G)];exact key k I (Ne.symm G)
 rw[ZM _ _ e1];by_cases e2:k=i
 ·subst e2;rw[Zt];exact(key j E e1).symm
 rw[ZM _ _ e2];exact h.dj j k E I G
theorem Vl.J {X:LN}{f:Nat->O0}{g:Nat->LI}(h:Vl base w n f g)(E:O3 X w w')(hX:∀i,i<n->∀b∈ob (f i),b∉X):Vl base w' n f g :=
 ⟨λi hi=>Qg (h.own i hi) E (hX i hi),h.dj⟩
theorem Vl.I {f:Nat->O0}{g:Nat->LI}(h:Vl base w n f g)(E:sW w w'):Vl base w' n f g:=h.J E (λ_ _ _ _=>od)
def YU (es:List Ed)(s:Nat):LI:=(es.filter λe=>decide (e.2.2=(s:Int))).map (·.1)
theorem Qdn (es:List Ed)(e:Ed)(E:0<=e.2.2):∀s,Xf (YU es) e.2.2.toNat (YU es e.2.2.toNat++[e.1]) s=YU (es++[e]) s:=by
 intro s;unfold YU;rw[LR,Lv];by_cases h:s=e.2.2.toNat
 ·subst h;rw[Zt];have:e.2.2=(e.2.2.toNat:Int):=oa
  simp[<-this]
 rw[ZM _ _ h];have:¬e.2.2=(s:Int):=oa
 simp[this]
theorem QfY {s:Nat}{p:Int}(h:p∈YU es s):∃e∈es,e.1=p/\e.2.2=(s:Int):=by
 unfold YU at h;simp only[Ow,Ot,decide_eq_true_eq]at h;obtain⟨e,⟨E,G⟩,I⟩:=h;exact⟨e,E,I,G⟩
theorem UM (es:List Ed)(s:Nat):(YU es s).length<=es.length:=by
 unfold YU;rw[Lm];exact LJ _ _
def bwE (s:Int)(st:LI×LI)(p:Int):LI×LI:=if O4 st.1 p.toNat<0 then(st.1.set p.toNat (O4 st.1 s.toNat+1),st.2++[p]) else st
def qn (n:Nat)(to:LI):LI:=(oJ n).map λi:Nat=>if(i:Int)∈to then 0 else -1
structure Qj5 (n:Nat)(o q:LI):Prop where
 len:o.length=n
 q:∀x∈q,0<=x/\x<(n:Int)
 le:∀x∈o,-1<=x/\x+(neg o:Int)<=n
theorem QnD (l:LI):neg l<=l.length:=LJ _ _
theorem QoB {p:Int}{st:LI×LI}(h:Qj5 n st.1 st.2)(Y:0<=s/\s<(n:Int))(E:0<=O4 st.1 s.toNat)(S:0<=p/\p<(n:Int)):
  Qj5 n (bwE s st p).1 (bwE s st p).2/\neg (bwE s st p).1+(bwE s st p).2.length=neg st.1+st.2.length/\0<=O4 (bwE s st p).1 s.toNat:=by
 unfold bwE;have hl:=h.len;have G:p.toNat<st.1.length:=oa
 have T:s.toNat<st.1.length:=oa
 by_cases I:O4 st.1 p.toNat<0
 ·rw[OS I];have U:st.1[p.toNat]'G<0:=by rw[Zu G];exact I
  have hv:=h.le _ (Xj T);have ha:=V0 st.1 p.toNat (O4 st.1 s.toNat+1) G U oa;refine⟨⟨by simp[hl],λx hx=>?_,λx hx=>?_⟩,?_,?_⟩
  ·simp only[oV,oF]at hx;rcases hx with hx|rfl
   ·exact h.q x hx
   exact S
  ·simp only[]at hx ⊢;rcases Nu hx with J|J
   ·have:=h.le x J;omega
   subst J;omega
  ·simp only[oM,oL];omega
  simp only[];have V:s.toNat≠p.toNat:=λe=>by rw[e]at E;omega
  have:O4 (st.1.set p.toNat (O4 st.1 s.toNat+1)) s.toNat=O4 st.1 s.toNat:=by
   unfold O4;simp[oO,List.getElem?_set_ne (Ne.symm V)]
  rw[this];exact E
 rw[OR I];exact⟨h,rfl,E⟩
theorem Uk (n:Nat)(to:LI):(qn n to).length=n:=by simp[qn]
theorem QoC {to:LI}(h:∀x∈to,0<=x/\x<(n:Int)):Qj5 n (qn n to) to:=by
 refine⟨Uk n to,h,λx hx=>?_⟩;have E:=QnD (qn n to);rw[Uk]at E;unfold qn at hx;simp only[Ow]at hx;obtain⟨i,_,rfl⟩:=hx;split <;> omega
theorem Qmh {to:LI}{x:Int}(h:0<=x/\x<(n:Int))(hx:x∈to):O4 (qn n to) x.toNat=0:=by
 have E:x.toNat<(qn n to).length:=by rw[Uk];omega
 rw[<-Zu E];have:((x.toNat:Nat):Int)=x:=oa
 simp[qn,this,hx]
def QoL (o q:LI):Prop:=∀x∈q,0<=O4 o x.toNat
theorem QjI {p:Int}{st:LI×LI}(h:Qj5 n st.1 st.2)(J:0<=O4 st.1 s.toNat)(S:0<=p/\p<(n:Int))(E:QoL st.1 st.2):QoL (bwE s st p).1 (bwE s st p).2:=by
 unfold bwE;have I:p.toNat<st.1.length:=by have:=h.len;omega
 by_cases G:O4 st.1 p.toNat<0
 ·rw[OS G];intro x hx;have e1:O4 (st.1.set p.toNat (O4 st.1 s.toNat+1)) x.toNat=if x.toNat=p.toNat then O4 st.1 s.toNat+1 else O4 st.1 x.toNat:=by
   by_cases e:x.toNat=p.toNat
   ·rw[OS e,e];unfold O4;simp[oO,I]
   rw[OR e];unfold O4;simp[oO,List.getElem?_set_ne (Ne.symm e)]
  rw[e1];split
  ·omega
  rename_i e;simp only[oV,oF]at hx;rcases hx with hx|rfl
  ·exact E x hx
  exact OU O e
 rw[OR G];exact E
theorem VP (n:Nat):(oG n (nS).cells.toList).flatten=(oJ n).map (λ_=>nS):=by
 apply LX
 ·simp[Value.cells]
 intro i E G;simp[Value.cells]
theorem QfX (n:Nat):(oG n (sS 0).cells.toList).flatten=(gA n (λj=>if j<0 then -1 else 0)).map (Value.int .i64):=by
 apply LX
 ·simp[Value.cells,gA]
 intro i E G;simp[Value.cells,gA]
theorem KD {rv:Nat->O0}(hi:i<n):((oJ n).map rv)[0+i*1]?=some (rv i):=by simp[hi]
theorem QqO {C:xx}{pl:xq}
  {e bys:Nat}  {x G I:O1}  {v:O0}   {H:xz} {k:IntKind}  [h:Sl P t e sz bys z]
  (J:QR ops E=⟨d,.slice t x (some G) (some I) none,ty,pS,af,gd⟩) (hA:Zs L H v n sz cs) (hx:ev f x=v) (hl:ev f G=.int k lo) (S:ev f I=.int k' hi) (T:lo<=hi) (U:hi<=n)
  (hK:∀v',Zs L H v' (hi - lo) sz ((cs.drop (lo*sz)).take ((hi - lo)*sz))->XP P ops C K pl (QN f d v') w)
  (V:Z1 ops f (QR ops E)=true:=by rfl):XP P ops C K ((E,true)::pl) f w:=by
 obtain⟨v',Y,h4⟩:=Qem (P:=P) (d:=d) (ty:=ty) (pS:=pS) (af:=af) (gd:=gd) (t:=t) hA hx hl S T U;exact Lg.p (λw'=>by rw[J];exact h4 w') (by rw[J];exact hK v' Y) V
theorem QeT (G:es.Pairwise λx y=>x.1<=y.1)(s:Nat):∀(m:Nat) (E:m<es.length),(m:Int)<fS es s↔(es[m]'E).1<(s:Int):=by
 unfold fS cnE;induction es with
 | nil=>intro m E;simp at E
 | cons e es ih =>
  intro m E;simp only[OA]at G;have ih:=ih G.2;simp only[OF];by_cases I:e.1<(s:Int)
  ·simp only[I,decide_true,if_true,oQ];cases m with
   | zero=>simp only[Om];omega
   | succ m =>
    have:=ih m (ou E);simp only[List.getElem_cons_succ];rw[<-this];omega
  have J:(es.filter λe=>decide (e.1<(s:Int)))=[]:=MJ.2 (λd hd=>by have:=G.1 d hd;simp;omega);simp only[I,decide_false,Oi,if_false,J,List.length_nil];cases m with
  | zero=>simp only[Om];omega
  | succ m =>
   have hd:es[m]'(ou E)∈es:=Lk _;have:=G.1 _ hd;simp only[List.getElem_cons_succ];omega
theorem QlS (es:List Ed)(s:Nat):fS es s<=fS es (s+1):=by
 have h:=QeS es s;have:=(Vx (λe:Ed=>decide (e.1+1=((s+1:Nat):Int))) es).1;unfold cN at h;omega
theorem QkF (G:es.Pairwise λx y=>x.1<=y.1)(s lo hi:Nat)(U:fS es s=(lo:Int))(J:fS es (s+1)=(hi:Int)):(es.drop lo).take (hi - lo)=QO es s/\hi<=es.length/\lo<=hi:=by
 have E:=QlS es s;have hl:=(Vx (λe:Ed=>decide (e.1<((s+1:Nat):Int))) es).2;have I:hi<=es.length:=by unfold fS at J;omega
 refine⟨?_,I,oa⟩;exact zT (λe:Ed=>decide (e.1=(s:Int))) es lo hi oa I
  (λm E V=>by have:=(QeT G s m E).1 oa;simp;omega)
  (λm E S Y=>by
   have h5:¬(es[m]'E).1<(s:Int):=λh=>oo ((QeT G s m E).2 h)
   have T:=(QeT G (s+1) m E).1 oa;simp;omega)
  (λm E S=>by
   have T:¬(es[m]'E).1<((s+1:Nat):Int):=λh=>oo ((QeT G (s+1) m E).2 h)
   simp;omega)
theorem jp:∀(l:List Ed) (k:Nat),(l.flatMap Qp).drop (k*3)=(l.drop k).flatMap Qp
 | [],k=>od
 | e::l,0=>od
 | e::l,k+1=>by
  simp only[oT,List.drop_succ_cons,On,OJ];rw[MS,<-List.drop_drop,show(Qp e++l.flatMap Qp).drop 3=l.flatMap Qp from rfl,jp l k]
theorem jo:∀(l:List Ed) (k:Nat),(l.flatMap Qp).take (k*3)=(l.take k).flatMap Qp
 | [],k=>od
 | e::l,0=>od
 | e::l,k+1=>by
  simp only[oT,List.take_succ_cons,On,OJ];rw[MS,NA,show(Qp e).length=3 from rfl,show 3+k*3 - 3=k*3 by omega,jo l k,Lq (by rw[show(Qp e).length=3 from rfl];omega)]
theorem Qjb {vf:O0}{st:Int}:
  QS sV 255 [.agg #[va,sS st,vm,ve,vf],sS s] w λr w'=>sW w w'/\∃b1 E,r=.func (.func 285) #[] #[sP b1,sP E] /\
   ↑w<=b1/\↑w<=E/\QK ↑w' b1 304 [va,sS st,vm,ve,vf]/\QK ↑w' E 3 [sS s]:=by
 refine Zl func255 ?_;refine Qc<|Zc [va,sS st,vm,ve,vf] λE V G J S=>Zc [sS s] λT Y I ha U=>Qb<|Qc<|x Zk<|Qb ?_;have hc:=G.size;exact Qk ⟨[_],La,G.D I,E,T,O,J,oa,S.I I,U⟩
theorem Qdz {U V bF s:Nat}(h4:QK ↑w U 304 [va,sS a.st,vm,ve,sL bF (n+1) (n+1)])(h5:QK ↑w V 3 [sS s])
  (h6:QK ↑w bF 3 ((gA (n+1) (fS a.ed)).map (Value.int .i64))) (hE:Uq L ↑w ve a.ed) (h7:a.ed.Pairwise λx y=>x.1<=y.1) (hs:s<n) (hn:n<=4096):
  SeqStopsK (fen none) m sV 285 #[sP U,sP V] (λx:{ e:Ed // e∈a.ed }=>#[sT (Qp x.1)]) (Lw ↑w L)
   (λys=>ys.map (·.1)=QO a.ed s) (λ_=>True) (a.ed.length+1) w:=by
 intro l J Jx W h8 hJ h9 hY h0;have hf:sW w W:=O3.of_below h8;have ab:∀{ys:List { e:Ed // e∈a.ed }} {W1 W2:OZ},J ys W1->sW W1 W2->J ys W2:=λ{ys W1 W2} hj Y=>hJ ys W1 W2 none hj ⟨Y.os,Y.tape,Y.output,Y.size,λk hk _=>Y.block k hk od⟩ (λr e=>by cases e);have hO:=Vx (λe:Ed=>decide (e.1<(s:Int))) a.ed;have hP:=Vx (λe:Ed=>decide (e.1<((s+1:Nat):Int))) a.ed;obtain⟨lo,hq⟩:∃lo:Nat,fS a.ed s=(lo:Int):=⟨(fS a.ed s).toNat,by unfold fS;omega⟩;obtain⟨hi,hr⟩:∃hi:Nat,fS a.ed (s+1)=(hi:Int):=⟨(fS a.ed (s+1)).toNat,by unfold fS;omega⟩;obtain⟨ht,hA,hB⟩:=QkF h7 s lo hi hq hr;have hQ:=hE.le;have hC:(QO a.ed s).length=hi - lo:=by rw[<-ht,LA,Ml];omega
 have hD:∀e∈QO a.ed s,e∈a.ed:=λe G=>(ZD G).1;have key:QS sV 285 [.func (.yield l) #[] #[],sP U,sP V] W (λ_ W'=>(∃ys,ys.map (·.1)=QO a.ed s/\J ys W')\/(∃pre,True/\Jx pre W')):=by
  refine QS.of_G m func285 O ntmps285 results285 od ?_;have hm:=h4.I hf;have hu:=h5.I hf;have hv:=h6.I hf;refine QP<|VE (sW W) [oz 0,oz 1,oz 2,oz 3,oz 4,oz 5,oz 6,oz 7,oz 8,oz 9,oz 10,oz 11,oz 12,oz 13,oz 14,oz 15,oz 16] mixed oh oh oc (O3.X _ _) ?_;refine p (QH O)<|p (QH O)<|pq (λ_ E=>Qj (hm.I E) O O)<|p (QH O)<|pq (λ_ E=>Qj (hm.I E) O O)<|pq (λ_ E=>Qj (hu.I E) O O) <|
   p (λ_=>QE (i:=s) O O oa)<|pq (λ_ E=>VS (i:=s) (hv.I E) O oa)<|p (QH O)<|pq (λ_ E=>Qj (hm.I E) O O) <|
   pq (λ_ E=>Qj (hu.I E) O O)<|p (λ_=>Xd O O ⟨oa,oa⟩)<|p (λ_=>QE (i:=s+1) O O oa)<|pq (λ_ E=>VS (i:=s+1) (hv.I E) O oa) <|
   QqO (lo:=lo) (hi:=hi) O hE O (OT sS hq) (OT sS hr) hB hA λhF hw=>p (λ_=>YR hw O)<|p Qx<|pe ?_
  have hS:Uq L ↑w hF (QO a.ed s):=by
   unfold Uq;rw[hC,<-ht,<-jo,<-jp];exact hw
  have hy:sW W { W with drawn:=W.drawn+1 }:=O3.X _ _
  refine ZI<|Kn (α:=Nat×List { e:Ed // e∈a.ed }) [(5,5),(22,30)] (λz=>[(22,sS z.1)]) (λz ds W'=>ds=[]/\z.1<=(QO a.ed s).length/\O3 L w W'/\z.2.map (·.1)=(QO a.ed s).take z.1/\J z.2 W') (λz=>(QO a.ed s).length - z.1) oh (0,[]) La
   ⟨O,Lo _,(hf.D hy).any,O,ab h0 hy⟩ ?_
  rintro⟨k,ys⟩ g ds w1 ⟨rfl,hk,hz,ha,ho⟩;simp only[]at hk ha ho;refine QP<|Qy oh oh<|ZP O O<|xe<|QP<|Up O (λhp=>?_) (λhp=>?_)
  ·refine Jq ?_;have hG:(QO a.ed s).length<=k:=by
    have hg:¬(k:Int)<((hi - lo:Nat):Int):=hp;omega
   rw[Lq hG]at ha;exact⟨λ_ h=>(by cases h),Mn,[],λW' I=>⟨Z,.inl ⟨ys,ha,ab ho I⟩⟩⟩
  refine Z6 ?_;have S:k<(QO a.ed s).length:=by
   have hg:(k:Int)<((hi - lo:Nat):Int):=hp;omega
  have hR:=Ya a.ed s;have h2:(QO a.ed s).take (k+1)=(QO a.ed s).take k++[(QO a.ed s)[k]'S]:=Lh S;have hh:=hD _ (Lk S);have hT:ys.length=k:=by have:=OT oW ha;rw[Lm,LA]at this;omega
  refine Zg ((QO a.ed s)[k]'S) λe G=>?_;rw[G]at h2 hh;refine QP<|ZI<|QP<|Qy oh oh<|xie (i:=k) (hS.st hz) O O S λhU hg=>?_;rw[G]at hg;refine x (QF hg O O)<|QT [sS 0,sS 0,sS 0] λb5 w2 hH hI hK=>Q5 (Qp e) hK ox λw3 hL hM=>xe ?_;have h3:sW w1 w3:=hH.Q hL hI;refine QP<|J8 oh ?_;refine Jc.pre2 ?_;refine Qa<|Q3 hM O O<|xe<|xy (l:=l) O (hY ys ⟨e,hh⟩ w3 (ab ho h3) oa) λen W3 hN=>Or.elim hN (λT=>⟨.bool true,T.1,?_⟩) (λT=>⟨.bool false,T.1,?_⟩)
  ·refine Jc.of_XL<|x (Zj O)<|xe<|JK O<|Z6 ?_;refine Qy oh oh<|QB O O<|Qa<|xe ?_;exact⟨(k+1,ys++[⟨e,hh⟩]),oe,La,O,S,(hz.D h3).lw T.2.2,by rw[h2,Lv,ha];rfl,T.2.1⟩
  refine Jc.of_XL<|x (Zj O)<|xe<|yo O ?_;refine JJ ⟨λ_ h=>(by cases h),Mn,[],λW' I=>⟨Z,.inr ⟨ys++[⟨e,hh⟩],Z,?_⟩⟩⟩;exact h9 _ W3 W' none T.2 ⟨I.os,I.tape,I.output,I.size,λk hk _=>I.block k hk od⟩ (λr e=>by cases e)
 refine(callsIn_wide (n:=m)).2 ?_;have ea:(#[.func (.yield l) #[] #[]]++[sP U,sP V].toArray:Array O0)=#[.func (.yield l) #[] #[],sP U,sP V]:=od
 rw[ea];unfold QS at key;refine Calls.mono key λe w' G=>?_;cases e with
 | returned v=>exact⟨⟨v,O⟩,G⟩
 | panicked c=>exact G.elim
 | outgrown=>exact G.elim
def stS (st:List Ed):LI:=st.map (·.1)
def gE (st:List Ed)(k:Nat):Ed:=st.getD k (0,-1,0)
theorem QiK {st:List Ed}{k:Nat}(h:k<st.length):st[k]'h=gE st k:=by simp[gE,oO,h]
theorem Qn8 {st:List Ed}{k:Nat}(h:k<st.length):gE st k∈st:=by rw[<-QiK h];exact Lk h
def Km (pm:Ed->Bool)(i:Nat)(st:List Ed)(e:Ed):List Ed:=if e.2.2∉stS st/\pm e=true then st++[(e.2.2,(i:Int),e.2.1)]else st
def wrd (st:List Ed):Nat->Nat->LI
 | 0,_=>[]
 | f+1,k=>if 0<=(gE st k).2.1 then(gE st k).2.2::wrd st f (gE st k).2.1.toNat else[]
def Qaa (wt:Int->Bool)(pm:Ed->Bool)(es:List Ed):Nat->Nat->List Ed->LI×Bool
 | 0,_,_=>([],false)
 | f+1,i,st=>if i<st.length then(if wt (gE st i).1=true then((wrd st (i+1) i).reverse,true) else Qaa wt pm es f (i+1) ((QO es (gE st i).1).foldl (Km pm i) st)) else([],false)
def pth (wt:Int->Bool)(pm:Ed->Bool)(es:List Ed)(n from0:Nat):LI×Bool:=Qaa wt pm es (n+1) 0 [((from0:Int),-1,-1)]
structure QdU (n:Nat)(st:List Ed):Prop where
 nd:(stS st).Nodup
 rg:∀x∈st,0<=x.1/\x.1<(n:Int)
 par:∀k,k<st.length->(gE st k).2.1=-1\/(0<=(gE st k).2.1/\(gE st k).2.1<(k:Int))
theorem QdU.le {st:List Ed}(h:QdU n st):st.length<=n:=by
 have:=xG n (stS st) h.nd (λx hx=>by
  unfold stS at hx;obtain⟨y,E,rfl⟩:=Ly.1 hx;exact h.rg y E)
 simpa[stS]using this
theorem QlK {st:List Ed}{x:Ed}{k:Nat}(h:k<st.length):gE (st++[x]) k=gE st k:=by
 unfold gE;simp[oO,Oa h]
theorem QlL (st:List Ed)(x:Ed):gE (st++[x]) st.length=x:=by
 unfold gE;simp[oO]
theorem Qmq {pm:Ed->Bool}{st:List Ed}{e:Ed}(h:QdU n st)(hi:i<st.length)(I:0<=e.2.2/\e.2.2<(n:Int)):QdU n (Km pm i st e)/\i<(Km pm i st e).length:=by
 unfold Km;split
 ·rename_i E;refine⟨⟨?_,λx hx=>?_,λk J=>?_⟩,by simp;omega⟩
  ·unfold stS at E ⊢;rw[Lv];exact Kg h.nd E.1
  ·simp only[oV,oF]at hx;rcases hx with hx|rfl
   ·exact h.rg x hx
   exact I
  by_cases G:k<st.length
  ·rw[QlK G];exact h.par k G
  have:k=st.length:=by simp at J;omega
  subst this;rw[QlL];simp only[];omega
 exact⟨h,hi⟩
theorem Qnm {from0:Nat}(h:from0<n):QdU n [((from0:Int),-1,-1)]:=by
 refine⟨by simp[stS],λx hx=>?_,λk E=>?_⟩
 ·simp at hx;subst hx;simp only[];omega
 simp at E;subst E;exact .inl O
theorem QfE {wt:Int->Bool}{pm:Ed->Bool}{f:Nat}{st:List Ed}(h:¬i<st.length):Qaa wt pm es f i st=([],false):=by
 cases f with
 | zero=>rfl
 | succ f=>rw[Qaa,OR h]
abbrev Lf:=List Bool
def lft (l:Lf)(s:Int):Bool:=l.getD s.toNat false
def cut (l:Lf)(s:Int):Lf:=l.set s.toNat false
def KJ (ul:LI)(lf:Lf)(out:xu)(e:Ed):xu:=
 if lft lf e.1=false\/lft lf e.2.2=true\/e.2.1∉ul then out else if out.getLast?.map (·.1)=some e.1 then out else out++[(e.1,e.2.1)]
def lost (a:QD)(ul:LI)(lf:Lf):xu:=a.ed.foldl (KJ ul lf) []
def dsE (lf:Lf)(x:Int)(z:LI×LI)(y:Int):LI×LI:=if lft lf y=true/\O4 z.1 y.toNat<0 then(z.1.set y.toNat (O4 z.1 x.toNat+1),z.2++[y]) else z
def dsL (es:List Ed)(lf:Lf):Nat->Nat->LI×LI->LI×LI
 | 0,_,z=>z
 | f+1,i,z=>if i<z.2.length then dsL es lf f (i+1) ((YU es (O4 z.2 i).toNat).foldl (dsE lf (O4 z.2 i)) z) else z
def ds1 (lf:Lf)(z:LI×LI)(x:Int):LI×LI:=if lft lf x=true then(z.1.set x.toNat 0,z.2++[x]) else z
def ds0 (a:QD)(lf:Lf):LI×LI:=a.mr.foldl (ds1 lf) (oG a.st.toNat (-1),[])
def dsts (a:QD)(lf:Lf):LI:=(dsL a.ed lf a.st.toNat 0 (ds0 a lf)).1
def Vh (lf:Lf):Nat->LI->LI
 | _,[]=>[]
 | i,d::l=>if lf.getD i false=true/\d<0 then(i:Int)::Vh lf (i+1) l else Vh lf (i+1) l
def nxs (a:QD)(ul:LI)(lf:Lf):LI:=if(lost a ul lf).length≠0 then(lost a ul lf).map (·.1) else Vh lf 0 (dsts a lf)
def zb (a:QD)(ul:LI):Nat->Lf->Lf
 | 0,lf=>lf
 | f+1,lf=>if(nxs a ul lf).length=0 then lf else zb a ul f ((nxs a ul lf).foldl cut lf)
def lf0 (n:Nat)(fb:LI):Lf:=fb.foldl cut (oG n true)
def Qbr (a:QD)(fb ul:LI):Lf:=zb a ul (a.st.toNat+1) (lf0 a.st.toNat fb)
def rstr (a:QD)(lf:Lf):QD:=⟨a.al,a.st,a.mr,a.ed.filter λe=>lft lf e.2.2⟩
def QcU (a:QD)(lf:Lf):QD:=if a.st=0\/lft lf 0=false then⟨a.al,0,[],[]⟩else XM (rstr a lf)
def jO (a:QD)(fb ul:LI):QD:=QcU a (Qbr a fb ul)
def fbs (s:Spc):LI:=s.fb.map (·.st)
def yL (c:Z3):Int:=YQ c
def qy (c:Z3):QD:=jO (spc c).a (fbs (spc c)) (unc c.ev)
def orB (b:Nat)(k:Nat):Nat:=b ||| (1 <<< k)
def rqB (x:Jp):Nat->Nat->List Jp->Nat
 | _,b,[]=>b
 | k,b,y::l=>rqB x (k+1) (if(y.a.al.any λe=>decide (e∈x.a.al))=true then orB b k else b) l
def prB (ls:xu):Nat:=ls.foldl (λb l=>orB b l.1.toNat) 0
def srR (c:Z3):LN:=c.rq.map λx=>rqB x 0 0 c.co
def srX (c:Z3):LN:=c.ex.map λx=>prB x.ls
def srC (c:Z3):LN:=c.cs.map λx=>prB x.ts
structure Mdl where
 kd:Int
 ix:Int
 co:LI
def Qlg (k:Int):Nat->LN->List Mdl
 | _,[]=>[]
 | i,b::l=>⟨k,i,setK b 8⟩::Qlg k (i+1) l
def O7 (c:Z3):List Mdl:=Qlg 1 0 (srR c)++(Qlg 2 0 (srX c)++Qlg 3 0 (srC c))
def sets (c:Z3):LN:=srR c++(srX c++srC c)
def QqI (c:Z3):Nat:=(sets c).foldl (λl b=>l &&& (65535 ^^^ b)) (2 ^ c.co.length - 1)
def rem (c:Z3):LI:=setK (QqI c) 8
structure Prt where
 co:LI
 rq:LI
 ex:LI
 cs:LI
def chs (l:List Jp)(ix:LI):List Jp:=ix.map λi=>l.getD i.toNat ⟨.empty,⟨[],0,[],[]⟩⟩
def ixP (co:LI)(ls:xu):xu:=ls.map λl=>((co.idxOf l.1:Int),l.2)
def QqE (c:Z3)(p:Prt):List Exc:=p.ex.map λi=>⟨(c.ex.getD i.toNat ⟨.empty,[]⟩).nm,ixP p.co (c.ex.getD i.toNat ⟨.empty,[]⟩).ls⟩
def QqF (c:Z3)(p:Prt):List xK:=p.cs.map λi=>⟨(c.cs.getD i.toNat ⟨.empty,[],0⟩).nm,ixP p.co (c.cs.getD i.toNat ⟨.empty,[],0⟩).ts,(c.cs.getD i.toNat ⟨.empty,[],0⟩).bd⟩
def QqG (c:Z3)(p:Prt):Z3:=⟨c.ev,chs c.co p.co,chs c.rq p.rq,QqE c p,QqF c p⟩
def prt (m:Mdl):Prt:=⟨m.co,if m.kd=1 then[m.ix]else[],if m.kd=2 then[m.ix]else[],if m.kd≠1/\m.kd≠2 then[m.ix]else[]⟩
def mcC (c:Z3)(m:Mdl):Z3:=QqG c (prt m)
def msA (c:Z3)(m:Mdl):QD:=qy (mcC c m)
def QqB (c:Z3):List QD:=(O7 c).map (msA c)++(rem c).map λi=>(c.co.getD i.toNat ⟨.empty,⟨[],0,[],[]⟩⟩).a
def Ve (l:List QD):Int:=if Vd l≠0 then Vd l else match xj l with|none=>3|some _=>0
def tgA (c:Z3):QD:=JS (QqB c)
theorem Qoh (lf:Lf)(x:Int)(z:LI×LI)(y:Int):dsE lf x z y=if lft lf y=true then bwE x z y else z:=by
 unfold dsE bwE;by_cases h:lft lf y=true <;> by_cases E:O4 z.1 y.toNat<0 <;> simp[h,E]
structure DsI (n:Nat)(z:LI×LI):Prop where
 ok:Qj5 n z.1 z.2
 cnt:neg z.1+z.2.length=n
 s0:QoL z.1 z.2
theorem DsI.le {z:LI×LI}(h:DsI n z):z.2.length<=n:=by have:=h.cnt;omega
theorem Qjf {lf:Lf}{x y:Int}{z:LI×LI}(h:DsI n z)(hx:0<=x/\x<(n:Int))(E:0<=O4 z.1 x.toNat)(G:0<=y/\y<(n:Int)):
  DsI n (dsE lf x z y)/\0<=O4 (dsE lf x z y).1 x.toNat:=by
 rw[Qoh];split
 ·obtain⟨I,S,J⟩:=QoB h.ok hx E G;exact⟨⟨I,oo h.cnt,QjI h.ok E G h.s0⟩,J⟩
 exact⟨h,E⟩
theorem QlZ (lf:Lf)(x:Int)(z:LI×LI)(y:Int):∃r,(dsE lf x z y).2=z.2++r:=by
 unfold dsE;split
 ·exact⟨[y],O⟩
 exact⟨[],od⟩
theorem QlY {n:Nat}{lf:Lf}{x:Int}(hx:0<=x/\x<(n:Int)):∀(l:LI) (z:LI×LI),DsI n z->0<=O4 z.1 x.toNat->(∀y∈l,0<=y/\y<(n:Int)) ->
  DsI n (l.foldl (dsE lf x) z)/\∃r,(l.foldl (dsE lf x) z).2=z.2++r
 | [],z,h,_,_=>⟨h,[],od⟩
 | y::l,z,h,E,hl=>by
  obtain⟨G,I⟩:=Qjf (lf:=lf) h hx E (hl y Ll);obtain⟨J,r2,S⟩:=QlY hx l _ G I (λy T=>hl y (Lj _ T));obtain⟨U,V⟩:=QlZ lf x z y;exact⟨J,U++r2,by rw[LO,S,V,LC]⟩
theorem Qje {lf:Lf}{f:Nat}{z:LI×LI}(h:¬i<z.2.length):dsL es lf f i z=z:=by
 cases f with
 | zero=>rfl
 | succ f=>rw[dsL,OR h]
theorem Qfa {x:Int}(E:0<=x):(qn n l).set x.toNat 0=qn n (l++[x]):=by
 apply LX
 ·simp[qn]
 intro i G I;rw[M1];by_cases e:x.toNat=i
 ·have:(i:Int)=x:=oa
  rw[OS e];simp[qn,this]
 have:(i:Int)≠x:=oa
 rw[OR e];simp[qn,this]
theorem Qb9 {lf:Lf}(G:∀x∈a.mr,0<=x)(k:Nat):(a.mr.take k).foldl (ds1 lf) (oG a.st.toNat (-1),[])=(qn a.st.toNat ((a.mr.take k).filter (lft lf)),(a.mr.take k).filter (lft lf)):=by
 induction k with
 | zero =>
  simp only[List.take_zero,List.foldl_nil,List.filter_nil];congr 1;apply LX
  ·simp[qn]
  intro i I J;simp[qn]
 | succ k ih =>
  by_cases E:k<a.mr.length
  ·rw[Lh E,Mh,ih,LR];simp only[List.foldl_cons,List.foldl_nil,ds1];by_cases hl:lft lf (a.mr[k]'E)=true
   ·rw[OS hl,Qfa (G _ (Lk E))];simp[hl]
   rw[OR hl];simp[hl]
  have e:a.mr.take (k+1)=a.mr.take k:=by rw[Lq oa,Lq oa]
  rw[e];exact ih
theorem Qoj {lf:Lf}(E:∀x∈a.mr,0<=x):ds0 a lf=(qn a.st.toNat (a.mr.filter (lft lf)),a.mr.filter (lft lf)):=by
 have:=Qb9 (lf:=lf) E a.mr.length;rw[OH]at this;exact this
theorem Qle (l:LI)(G:l.Nodup)(hb:∀x∈l,0<=x/\x<(n:Int)):neg (qn n l)+l.length=n:=by
 have key:∀k,k<=l.length->neg (qn n (l.take k))+k=n:=by
  intro k;induction k with
  | zero =>
   intro _;have e:qn n (l.take 0)=oG n (-1):=by
    apply LX
    ·simp[qn]
    intro i I V;simp[qn]
   rw[e];unfold neg;simp
  | succ k ih =>
   intro Y;have I:=ih oa;have hx:=hb _ (Lk (show k<l.length by omega));rw[Lh (show k<l.length by omega),<-Qfa hx.1];have J:(l[k]'oa).toNat<(qn n (l.take k)).length:=by rw[Uk];omega
   have ha:=V0 (qn n (l.take k)) (l[k]'oa).toNat 0 J (by
    have e:(((l[k]'oa).toNat:Nat):Int)=l[k]'oa:=oa
    have S:(l[k]'oa)∉l.take k:=λh=>by
     obtain⟨j,T,E⟩:=LP h;rw[M5]at E;have U:j<k:=by simp at T;omega
     have:=(Mg.1 G) j k oa oa U;exact this E
    simp[qn,e,S]) (Mx _)
   omega
 have:=key l.length (Lp _)
 rwa [OH]at this
theorem Qoi {lf:Lf}(E:Q8 a)(G:a.st=(n:Int)):DsI n (ds0 a lf):=by
 have hb:∀x∈a.mr.filter (lft lf),0<=x/\x<(n:Int):=λx hx=>by rw[<-G];exact E.mr x (LW.1 hx).1
 have e:a.st.toNat=n:=oa
 rw[Qoj (λx hx=>(E.mr x hx).1),e];refine⟨QoC hb,Qle _ ((E.mri.imp (λh=>oa)).filter _) hb,λx hx=>?_⟩;rw[Qmh (hb x hx) hx];exact Mx _
def Vw (l:Lf):Nat:=l.countP (· == true)
theorem Ql5 (l:Lf):Vw l<=l.length:=List.countP_le_length
theorem Qe0 (l:Lf)(s:Int):(cut l s).length=l.length:=by simp[cut]
theorem zS:∀(xs:LI) (l:Lf),(xs.foldl cut l).length=l.length
 | [],_=>rfl
 | x::xs,l=>by rw[LO,zS xs,Qe0]
theorem Qe1:∀(l:Lf) (i:Nat),Vw (l.set i false)+(if l.getD i false=true then 1 else 0)=Vw l
 | [],i=>by simp[Vw]
 | b::l,0=>by cases b <;> simp[Vw]
 | b::l,i+1=>by
  have ih:=Qe1 l i;unfold Vw at *;simp only[List.set_cons_succ,List.countP_cons,List.getD_cons_succ];omega
theorem Qe2 (l:Lf)(s:Int):Vw (cut l s)+(if lft l s=true then 1 else 0)=Vw l:=Qe1 l s.toNat
theorem Qcb:∀(xs:LI) (l:Lf),Vw (xs.foldl cut l)<=Vw l
 | [],_=>Lp _
 | x::xs,l=>by
  have E:=Qcb xs (cut l x);have G:=Qe2 l x;rw[LO];omega
theorem Qjq {xs:LI}{l:Lf}(h:0<xs.length)(E:∀x∈xs,lft l x=true):Vw (xs.foldl cut l)<Vw l:=by
 cases xs with
 | nil=>simp at h
 | cons x xs =>
  have I:=Qcb xs (cut l x);have G:=Qe2 l x;rw[OS (E x Ll)]at G;rw[LO];omega
def Qj0 (a:QD)(lf:Lf)(out:xu):Prop:=∀p∈out,lft lf p.1=true/\∃e∈a.ed,e.1=p.1/\e.2.1=p.2
theorem Qlk {lf:Lf}{out:xu}{e:Ed}(h:Qj0 a lf out)(G:e∈a.ed):Qj0 a lf (KJ ul lf out e)/\(KJ ul lf out e).length<=out.length+1:=by
 unfold KJ;split
 ·exact⟨h,oa⟩
 rename_i I;split
 ·exact⟨h,oa⟩
 refine⟨λp E=>?_,od⟩;simp only[oV,oF]at E;rcases E with E|rfl
 ·exact h p E
 exact⟨by cases hl:lft lf e.1 with|true=>rfl|false=>exact OU (.inl hl) I,e,G,rfl,rfl⟩
theorem zq {a:QD}{ul:LI}{lf:Lf}:∀(l:List Ed) (out:xu),(∀e∈l,e∈a.ed)->Qj0 a lf out->Qj0 a lf (l.foldl (KJ ul lf) out)/\(l.foldl (KJ ul lf) out).length<=out.length+l.length
 | [],out,_,h=>⟨h,od⟩
 | e::l,out,hl,h=>by
  obtain⟨E,J⟩:=Qlk (ul:=ul) h (hl e Ll);obtain⟨G,S⟩:=zq l _ (λe I=>hl e (Lj _ I)) E;exact⟨G,by rw[LO,LL];omega⟩
theorem Qan (a:QD)(ul:LI)(lf:Lf):Qj0 a lf (lost a ul lf)/\(lost a ul lf).length<=a.ed.length:=by
 have:=zq (ul:=ul) (lf:=lf) a.ed [] (λ_ h=>h) (λp E=>by cases E);unfold lost;simpa using this
theorem Ul (lf:Lf):∀(l:LI) (i:Nat),(∀x∈Vh lf i l,lft lf x=true/\(i:Int)<=x/\x<(i:Int)+l.length)/\(Vh lf i l).length<=l.length
 | [],i=>⟨λx hx=>(by cases hx),Lp _⟩
 | d::l,i=>by
  obtain⟨E,I⟩:=Ul lf l (i+1);unfold Vh;split
  ·rename_i G;refine⟨λx hx=>?_,by simp;omega⟩;rcases Ln.1 hx with rfl|hx
   ·exact⟨by unfold lft;simpa using G.1,Mx _,by simp;omega⟩
   have:=E x hx;exact⟨this.1,oa,by simp only[oQ];omega⟩
  refine⟨λx hx=>?_,by simp;omega⟩;have:=E x hx;exact⟨this.1,oa,by simp only[oQ];omega⟩
theorem QhZ {lf:Lf}(x:Int)(hx:x∈nxs a ul lf):lft lf x=true:=by
 unfold nxs at hx;split at hx
 ·obtain⟨p,E,rfl⟩:=Ly.1 hx;exact((Qan a ul lf).1 p E).1
 exact((Ul lf (dsts a lf) 0).1 x hx).1
theorem QfA {f:Nat}{lf:Lf}(h:(nxs a ul lf).length=0):zb a ul f lf=lf:=by
 cases f with
 | zero=>rfl
 | succ f=>rw[zb,OS h]
theorem Qfz {f:Nat}{lf:Lf}(h:(nxs a ul lf).length≠0):zb a ul (f+1) lf=zb a ul f ((nxs a ul lf).foldl cut lf):=by rw[zb,OR h]
theorem Qh0 {lf:Lf}(h:(nxs a ul lf).length≠0):Vw ((nxs a ul lf).foldl cut lf)<Vw lf:=Qjq oa (λx hx=>QhZ x hx)
theorem yU (h:Q8 a)(lf:Lf):Q8 (rstr a lf):=
 ⟨h.al,h.ali,h.st0,h.st1,h.mr,h.mri,λe E=>h.ed e (LW.1 E).1,h.edi.filter _⟩
structure PI (w0:OZ)(b4 b7 b10 b11 bS n:Nat)(gc:LV)(pf:O0)(bi i:Nat)(vs:O0)(st:List Ed)(W:OZ):Prop where
 stp:sW w0 W
 B4:QK ↑W b4 304 gc
 B7:QK ↑W b7 275 [pf]
 B10:QK ↑W b10 356 [vs]
 B11:QK ↑W b11 301 [sL bS n n]
 BS:QK ↑W bS 4 ((flg n (stS st)).map Value.bool)
 BI:QK ↑W bi 3 [sS i]
 R:Z8 355 ↑w0 W vs st
 ne:∀b∈ob vs,b≠b4/\b≠b7/\b≠b10/\b≠b11/\b≠bS/\b≠bi
theorem PI.I {G:OZ}{I J b10 b11 bS n:Nat}{gc:LV}{pf:O0}{bi i:Nat}{vs:O0}{st:List Ed}{W W':OZ}(h:PI G I J b10 b11 bS n gc pf bi i vs st W)(E:sW W W'):PI G I J b10 b11 bS n gc pf bi i vs st W' :=
 ⟨h.stp.D E,h.B4.I E,h.B7.I E,h.B10.I E,h.B11.I E,h.BS.I E,h.BI.I E,Qm h.R E,h.ne⟩
theorem PI.stb {G:OZ}{I J b10 b11 bS:Nat}{gc:LV}{pf:O0}{bi:Nat}{st:List Ed}(S:↑G<=B):Z9 B (λW=>PI G I J b10 b11 bS n gc pf bi i vs st W):=λW W' X h E hX =>
 ⟨Z9.J S W W' X h.stp E hX,Z9.blk W W' X h.B4 E hX,Z9.blk W W' X h.B7 E hX,Z9.blk W W' X h.B10 E hX,Z9.blk W W' X h.B11 E hX,Z9.blk W W' X h.BS E hX,Z9.blk W W' X h.BI E hX,Z9.row W W' X h.R E hX,h.ne⟩
def Kp (lo hi:Nat)(ds:LN)(W:OZ):Prop:=ds.Nodup/\∀D∈ds,lo<=D/\D<hi/\W.heap[D]?=some (.deferred (some []))
theorem Kp.J {W:OZ}{X:LN}(h:Kp lo hi ds W)(I:O3 X W W')(hX:∀b∈X,∃o:Obj,W.heap[b]?=some o/\o.isCells=true):Kp lo hi ds W':=by
 refine⟨h.1,λD hD=>⟨(h.2 D hD).1,(h.2 D hD).2.1,?_⟩⟩;have E:=(h.2 D hD).2.2;refine(I.block D (LH.1 E).1 (λhx=>?_)).D E;obtain⟨o,G,J⟩:=hX D hx;rw[E]at G;cases G;cases J
theorem Kp.I {W:OZ}(h:Kp lo hi ds W)(E:sW W W'):Kp lo hi ds W':=h.J E (λ_ hb=>by cases hb)
theorem Kp.blk {W:OZ}{b:Nat}(h:Kp lo hi ds W)(E:O3 [b] W W')(hb:QK ↑W b T cs):Kp lo hi ds W' :=
 h.J E (λc G=>by
  have e:c=b:=by simpa using G
  subst e;exact hb.cells)
theorem Kp.up {hi':Nat}{W:OZ}(h:Kp lo hi ds W)(E:hi<=hi'):Kp lo hi' ds W:=⟨h.1,λD hD=>⟨(h.2 D hD).1,oo (h.2 D hD).2.1,(h.2 D hD).2.2⟩⟩
theorem Kp.cons {W:OZ}{D:Nat}(h:Kp lo hi ds W)(hl:lo<=hi)(hD:hi<=D)(hd:W.heap[D]?=some (.deferred (some []))):Kp lo ↑W (D::ds) W:=by
 have G:=(LH.1 hd).1;refine⟨List.nodup_cons.2 ⟨λI=>oo (h.2 D I).2.1,h.1⟩,λE hE=>?_⟩;rcases Ln.1 hE with rfl|hE
 ·exact⟨oa,G,hd⟩
 have:=h.2 E hE;exact⟨this.1,(LH.1 this.2.2).1,this.2.2⟩
theorem Kp.stb (I:hi<=B):Z9 B (λW=>Kp lo hi ds W):=λW W' X h G hX=>by
 refine⟨h.1,λD hD=>⟨(h.2 D hD).1,(h.2 D hD).2.1,?_⟩⟩;have E:=(h.2 D hD).2.2;refine(G.block D (LH.1 E).1 (λhx=>?_)).D E;have:=(hX D hx).1;have:=(h.2 D hD).2.1;omega
theorem Kp.own {W:OZ}{e:Nat}{v:O0}(h:Kp lo hi ds W)(G:W.ownsRow base e sz v n cs):∀b∈ob v,b∉ds:=λb hb hd=>by
 obtain⟨o,E,I⟩:=Go.Lg.Q6 G b hb;rw[(h.2 b hd).2.2]at E;cases E;cases I
theorem Kp.rst {W:OZ}(h:Kp lo hi ds W)(E:XD B L W W'):Kp lo hi ds W':=⟨h.1,λD hD=>⟨(h.2 D hD).1,(h.2 D hD).2.1,E.other D _ (h.2 D hD).2.2 O⟩⟩
theorem PI.add {J:OZ}{S U b10 b11 bS:Nat}{gc:LV}{pf:O0}{bi:Nat}{v:O0}{st:List Ed}{x:Ed}{W W1 W2 W3 W4:OZ}{L0:LN}(h:PI J S U b10 b11 bS n gc pf bi i v st W)
  (hd:bS≠S/\bS≠U/\bS≠b10/\bS≠b11/\bS≠bi/\b10≠S/\b10≠U/\b10≠b11/\b10≠bi) (hB:B<=↑W) (ha:↑J<=bS) (he:↑J<=b10) (hk:S<↑W/\U<↑W/\b11<W.heap.size/\bi<↑W)
  (V:O3 [bS] W W1) (hS:QK ↑W1 bS 4 ((flg n (stS (st++[x]))).map Value.bool)) (I:sW W1 W2) (Y:O3 (ob v) W2 W3) (hR:Z8 355 ↑J W3 v' (st++[x])) (hn:∀b∈ob v',b∈ob v\/↑W2<=b)
  (h4:O3 [b10] W3 W4) (hf:QK ↑W4 b10 356 [v']) (hv:∀b∈ob v,b∈L0\/B<=b):
  PI J S U b10 b11 bS n gc pf bi i v' (st++[x]) W4/\XD B (bS::b10::L0) W W4/\(∀b∈ob v',b∈L0\/B<=b):=by
 have ho:=V.size;have hp:=I.size;have hq:=Y.size;have hr:=h.BS.lt;have hs:=h.B10.lt;have key:∀b T cs,QK ↑W b T cs->b≠bS->b∉ob v->b≠b10->QK ↑W4 b T cs:=λb T cs hb e1 e2 e3=>(((hb.J V (ou e1)).I I).J Y e2).J h4 (ou e3);have G:=h.ne;have nin:∀b,(∀c∈ob v,c≠b)->b∉ob v:=λb hb hm=>hb b hm O;have hg:b10∉ob v:=nin _ λc E=>(G c E).2.2.1;have hh:bS∉ob v:=nin _ λc E=>(G c E).2.2.2.2.1;have hj:W2.ownsRow ↑J 355 3 v st.length (st.flatMap Qp):=Qm (Qg h.R V (λb hb=>by have:=(G b hb).2.2.2.2.1;simpa using this)) I;have hge:∀b∈ob v',b≠S/\b≠U/\b≠b10/\b≠b11/\b≠bS/\b≠bi:=λb hb=>by
  rcases hn b hb with hb|hb
  ·exact G b hb
  omega
 refine⟨⟨?_,key _ _ _ h.B4 hd.1.symm (nin _ λc E=>(G c E).1) hd.2.2.2.2.2.1.symm,key _ _ _ h.B7 hd.2.1.symm (nin _ λc E=>(G c E).2.1) hd.2.2.2.2.2.2.1.symm,hf,
  key _ _ _ h.B11 hd.2.2.2.1.symm (nin _ λc E=>(G c E).2.2.2.1) hd.2.2.2.2.2.2.2.1.symm,((hS.I I).J Y hh).J h4 (by have:=hd.2.2.1;simpa using this),key _ _ _ h.BI hd.2.2.2.2.1.symm (nin _ λc E=>(G c E).2.2.2.2.2) hd.2.2.2.2.2.2.2.2.symm,
  Qg hR h4 (λb hb=>by have:=(hge b hb).2.2.1;simpa using this),hge⟩,?_,λb hb=>?_⟩
 ·exact(((h.stp.Q V ha).D I).O Y (λb hb=>.inr (Qi h.R b hb).1)).Q h4 he
 ·have r1:XD B (bS::b10::L0) W W1:=XD.blk V hB h.BS (.inl od);have r2:XD B (bS::b10::L0) W1 W2:=XD.I I oa;have r3:XD B (bS::b10::L0) W2 W3:=XD.J Y oa (λb hb=>⟨(hv b hb).imp (λh=>by simp[h]) id,Go.Lg.Q6 hj b hb⟩);have r4:XD B (bS::b10::L0) W3 W4:=XD.blk h4 oa ((((h.B10.J V (by have:=hd.2.2.1;simpa using this.symm)).I I).J Y hg)) (.inl od);exact((r1.D r2).D r3).D r4
 rcases hn b hb with hb|hb
 ·exact hv b hb
 exact .inr oa
theorem zJ {x:Int}(G:0<=x)(I:x<(n:Int)):((flg n l).map Value.bool)[0+x.toNat*1]?=some (.bool (decide (x∈l))):=by
 have E:x.toNat<(flg n l).length:=by rw[Ud];omega
 have e:((x.toNat:Nat):Int)=x:=oa
 simp only[oX,OO,List.getElem?_map,oU E,OC,QaA,e]
theorem QkX {bF from0 gw:Nat}{fw fp:Func}[Fu sV gw fw][Fu sV gp fp]{cw cp:LV}{wt:Int->Bool}{pm:Ed->Bool}
  (hA:Zp [] ↑w va vm ve a) (hn:a.st=(n:Int)) (kn:n<=4096) (ko:∀e∈a.ed,0<=e.2.2/\e.2.2<(n:Int)) (kq:a.ed.Pairwise λx y=>x.1<=y.1) (kr:QK ↑w bF 3 ((gA (n+1) (fS a.ed)).map (Value.int .i64))) (hf:from0<n)
  (kt:∀(s:Int) (w':OZ),0<=s->s<(n:Int)->sW w w'->QS sV gw (sS s::cw) w' λr hQ=>r=.bool (wt s)/\sW w' hQ)
  (ku:∀(e:Ed) (w':OZ),e∈a.ed->sW w w'->QS sV gp (sT (Qp e)::cp) w' λr hQ=>r=.bool (pm e)/\sW w' hQ):
  QS sV 199 [.agg #[va,sS a.st,vm,ve,sL bF (n+1) (n+1)],sS from0,.func (.func gw) #[] cw.toArray,.func (.func gp) #[] cp.toArray] w λr w' =>
   sW w w'/\∃v,r=.tuple #[v,.bool (pth wt pm a.ed n from0).2]/\Qh 3 ↑w w' v (pth wt pm a.ed n from0).1:=by
 refine QS.of_G 3 func199 O ntmps199 results199 od ?_;refine QP<|Qy oh oh<|Zc [va,sS a.st,vm,ve,sL bF (n+1) (n+1)] λb4 w1 kv j4 hR=>Zc [.func (.func gp) #[] cp.toArray] λb7 w2 kw za gk=>x Qd<|Qb<|QP<|Qy oh oh<|Qa<|x (QC ⟨O,O,O,Z⟩)<|Qo<|Q2 [[sS from0,sS (-1),sS (-1)]] λbL w3 gl z0 gm =>
  QT [nS] λb10 w4 hS z2 gn=>Qo<|Qv (u:=sL bL 1 1) gn O O og O λw5 hB hC=>xe ?_
 have z3:=hR.lt;have z4:=gk.lt;have z5:=gm.lt;have hl10:=gn.lt;have hz5:=hB.size;have hT:sW w1 w5:=((kw.D gl).D hS).Q hB oa;have kx:sW w2 w5:=(gl.D hS).Q hB oa;have kz:sW w3 w5:=hS.Q hB oa;refine QP<|Qy oh oh<|Q7 O<|Qs O (hR.I hT) O O<|Qo<|YS (n:=n) (OT sS hn) (OT sS hn) oa λbS w6 k0 hbS go=>QT [nS] λb11 w7 gq hb11 gr =>
  Qo<|Qv (u:=sL bS n n) gr O O og O λw8 hU gs=>xe ?_
 have hlS:=go.lt;have hl11:=gr.lt;have hz8:=hU.size;have h4:sW w5 w8:=(k0.D gq).Q hU oa;have k4:sW w6 w8:=gq.Q hU oa;have k5:QK ↑w6 bS 4 ((flg n []).map Value.bool):=by
  have e:(oG n (Value.bool false).cells.toList).flatten=(flg n []).map Value.bool:=by
   simp only[flg,oH,decide_false,List.map_map];apply LX
   ·simp[Value.cells]
   intro i h1 h2;simp[Value.cells]
  rw[<-e];exact go
 refine QP<|Qy oh oh<|ZB gs O O<|Qa<|x (QE (i:=from0) O O hf)<|Qo<|Qv (j:=0+from0*1) (u:=.bool true) (k5.I k4) O O (by rw[Lm,Ud];omega) O λw9 ho k6=>xe ?_;have hz9:=ho.size;have k9:QK ↑w9 bS 4 ((flg n [(from0:Int)]).map Value.bool):=by
  have e1:=qL (n:=n) (l:=[]) (x:=(from0:Int)) oa;rw[Mr]at e1;rw[<-e1,Nw];simpa using k6
 refine QP<|QP<|Qy oh oh<|QT [sS 0] λgt w10 ma mc gu=>Qo<|Qv (u:=sS 0) gu O O og O λhE gv mf=>xe ?_;have hl12:=gu.lt;have hz11:=gv.size;have hq:sW w9 hE:=ma.Q gv mc;have mg:sW w hE:=(((kv.D hT).D h4).Q ho oa).D hq;have mh:PI w b4 b7 b10 b11 bS n [va,sS a.st,vm,ve,sL bF (n+1) (n+1)] (.func (.func gp) #[] cp.toArray) gt 0 (sL bL 1 1) [((from0:Int),-1,-1)] hE:=by
  refine⟨mg,(((hR.I hT).I h4).J ho (by simp;omega)).I hq,(((gk.I kx).I h4).J ho (by simp;omega)).I hq,((hC.I h4).J ho (by simp;omega)).I hq,
   (gs.J ho (by simp;omega)).I hq,k9.I hq,mf,?_,λb hb=>?_⟩
  ·have mj:=(((gm.I kz).I h4).J ho (by simp;omega)).I hq;exact mj.own (n:=1) (sz:=3) O oa oa
  have e:b=bL:=by simpa[ob]using hb
  subst e;omega
 refine ZI<|Kn (α:=Nat×Nat×Nat×O0×List Ed) [(8,9),(12,15),(26,68),(70,94)] (λz=>[(12,.pointer (some ⟨z.2.1,0,none⟩))])
  (λz ds W=>PI w b4 b7 b10 b11 bS n [va,sS a.st,vm,ve,sL bF (n+1) (n+1)] (.func (.func gp) #[] cp.toArray) z.2.1 z.1 z.2.2.2.1 z.2.2.2.2 W/\QdU n z.2.2.2.2/\Kp ↑w ↑W ds W/\hE.heap.size<=↑W /\
   (z.2.1≠b4/\z.2.1≠b7/\z.2.1≠b10/\z.2.1≠b11/\z.2.1≠bS)/\↑w<=z.2.1/\z.1<=z.2.2.2.2.length/\n+1<=z.2.2.1+z.1/\Qaa wt pm a.ed z.2.2.1 z.1 z.2.2.2.2=pth wt pm a.ed n from0)
  (λz=>n+1 - z.1) oh (0,gt,n+1,sL bL 1 1,[((from0:Int),-1,-1)]) La
  ⟨mh,Qnm hf,⟨Mn,λ_ h=>by cases h⟩,Lp _,oe,oe,od,od,rfl⟩ ?_
 rintro⟨i,bi,fu,vs,st⟩ g ds hF ⟨Y,hok,h5,hz12,mo,mq,ms,mt,S⟩;simp only[]at Y hok h5 mo mq ms mt S;have hstl:=hok.le;refine QP<|QP<|Qy oh oh<|ZB Y.BI O O<|ZB Y.B10 O O<|QG (QM (L:=[]) Y.R oa od) rfl<|ZP rfl rfl<|xe<|Up rfl (λhV=>?_) (λhV=>?_)
 ·refine Jq ?_;have mu:¬i<st.length:=by have mv:¬(i:Int)<(st.length:Int):=hV;omega
  rw[QfE mu]at S;refine QP<|Qy oh oh<|x Qd<|Qb<|JJ ⟨λD hD=>(h5.2 D hD).2.2,h5.1,[nS,.bool false],λw' hG=>⟨ov,Y.stp.O hG (λD hD=>.inr (h5.2 D hD).1),_,by rw[<-S];rfl,?_⟩⟩;rw[<-S];exact QL _ _ _ _
 have hr:i<st.length:=by have mv:(i:Int)<(st.length:Int):=hV;omega
 refine Exists.elim (Nh (show fu≠0 by omega)) λmw hW=>?_;subst hW;rw[Qaa,OS hr]at S;have hX:=hok.rg _ (Qn8 hr);have hge:=QiK hr;refine Zg (gE st i) λs0 my=>?_;rw[my]at S hX hge;refine Z6<|QP<|ZI<|QP<|QP<|Qy oh oh<|Qa<|ZB Y.B10 O O<|ZB Y.BI O O<|xie (i:=i) (QM (L:=[]) Y.R oa od) rfl rfl hr λa35 gx=>?_;rw[hge]at gx;refine x (ZE O)<|x (Qq (gx.fld 0 (sS s0.1) O) O)<|Qo<|xc (first:=[]) (capt:=cw) O<|(kt s0.1 _ hX.1 hX.2 Y.stp).S ?_;rintro r13 hj ⟨rfl,hY⟩;have hz13:=hY.size;have hk:=Y.I hY;have gy:=h5.I hY;refine xe<|Ko rfl (λhZ=>?_) (λhZ=>?_)
 ·rw[OS hZ]at S;have mz:Kp ↑w ↑hF ds hj:=gy;refine QP<|Qy oh oh<|Qb<|QP<|QP<|Qy oh oh<|ZB hk.BI O O<|Qb<|ZI<|Kn (α:=Nat×Nat×O0×LI) [(13,14),(40,58)] (λz=>[(13,z.2.2.1),(14,sS z.2.1)])
   (λz gz W=>gz=ds/\sW hj W/\Kp ↑w ↑hF ds W/\z.2.1<z.1/\z.2.1<st.length/\Qh 3 ↑hj W z.2.2.1 z.2.2.2/\z.2.2.2.length+z.1<=i+1/\z.2.2.2++wrd st z.1 z.2.1=wrd st (i+1) i)
   (λz=>z.1) oh (i+1,i,nS,[]) ov ⟨O,O3.Y _ _,mz,od,hr,QL _ _ _ _,od,rfl⟩ ?_
  rintro⟨f,k,v,acc⟩ g gz hg ⟨rfl,h6,hH,m0,hy,ht,m1,hu⟩;simp only[]at m0 hy ht m1 hu;refine Exists.elim (Nh (show f≠0 by omega)) λf' hW=>?_;subst hW;rw[wrd]at hu;have hI:=QiK hy;have m2:=hok.par k hy;refine Zg (gE st k) λs1 m3=>?_;rw[m3]at hu hI m2;have J:=hk.I h6;have m4:=h6.size;refine QP<|QP<|Qy oh oh<|ZB J.B10 O O<|Qa<|xie (i:=k) (QM (L:=[]) J.R oa od) rfl rfl hy λa42 g0=>?_;rw[hI]at g0;refine x (ZE O)<|x (Qq (g0.fld 1 (sS s1.2.1) O) O)<|x (Yh O O)<|xe<|Up O (λga=>?_) (λga=>?_)
  ·refine Jq ?_;rw[OR ga,LF]at hu;refine QP<|Qy oh oh<|Qa<|Kz<|(yi ht oa).S ?_;rintro r15 g2 ⟨g3,V⟩;have hJ:=hH.J V (Go.Lg.Q6 ht);refine xe<|QP<|Qy oh oh<|Qa<|x Qd<|Qb<|JJ ⟨λD hD=>(hJ.2 D hD).2.2,hJ.1,[v,.bool true],λw' hG=>⟨ov,?_,v,by rw[<-S];rfl,?_⟩⟩
   ·exact((J.stp).O V (λb hb=>.inr (oo (Qi ht b hb).1))).O hG (λD hD=>.inr (hJ.2 D hD).1)
   rw[<-S,<-hu];exact Q9 (Qg g3 hG (hJ.own g3)) oa
  rw[OS ga]at hu;refine Z6<|QP<|ZI<|Qy oh oh<|Qa<|ZB J.B10 O O<|Qa<|xie (i:=k) (QM (L:=[]) J.R oa od) rfl rfl hy λa54 g4=>?_;rw[hI]at g4;refine x (ZE O)<|x (Qq (g4.fld 2 (sS s1.2.2) O) O)<|Qo<|Q2 [[sS s1.2.2]] λb57 h7 I hb57 m5=>Qo<|QZ (m:=1) (news:=[sS s1.2.2]) (Qm ht I) O O O (m5.at (L:=[]) od) om oa (oo I.size) λm6 g5 m7 hv hn17 =>
   Qb ?_
  have g6:sW hj g5:=(h6.D I).O hv (λb hb=>.inr (Qi ht b hb).1);have g7:=hk.I g6;have m8:=(hH.I I).J hv (Go.Lg.Q6 (Qm ht I));refine Qy oh oh<|ZB g7.B10 O O<|Qa<|xie (i:=k) (QM (L:=[]) g7.R oa od) rfl rfl hy λa48 g8=>?_;rw[hI]at g8;refine x (ZE O)<|x (Qq (g8.fld 1 (sS s1.2.1) O) O)<|Qb ?_;have m9:s1.2.1=(s1.2.1.toNat:Int):=oa
  refine⟨(f',s1.2.1.toNat,m6,acc++[s1.2.2]),oe,⟨O,OT sS m9,Z⟩,O,g6,m8,oe,oe,Qh.snoc m7,?_,?_⟩
  ·simp only[oM,oL];omega
  rw[LC];exact hu
 rw[OR (by rw[hZ];decide)]at S;have g9:s0.1=(s0.1.toNat:Int):=oa
 refine Z6 ?_;have pc:sW hj { hj with drawn:=hj.drawn+1 }:=O3.X _ _
 refine QP<|VE (sW hj) [oz 0,oz 1,oz 2,oz 3,oz 4,oz 5,oA 6] mixed oh oh oc (O3.X _ _) ?_;refine pq (λ_ hc=>Zb (hk.B4.I hc) O O)<|pq (λ_ hc=>Qj (hk.B10.I hc) O O)<|pq (λ_ hc=>Qj (hk.BI.I hc) O O) <|
  pie (i:=i) O (QM (L:=[]) hk.R oa od) rfl rfl hr λa65 ka=>?_
 rw[hge]at ka;refine p (λ_=>ZE O)<|pq (λ_ hc=>Qq ((ka.fld 0 (sS s0.1) O).I hc) O)<|pk<|xf<|(Qjb (va:=va) (vm:=vm) (ve:=ve) (vf:=sL bF (n+1) (n+1)) (st:=a.st) (s:=s0.1)).S ?_;rintro r18 hg ⟨h6,b1,b2,rfl,hb1,hb2,pd,kb⟩;have hK:=pc.D h6;refine⟨hK,pe ?_⟩;have J:=hk.I hK;have hH:Kp ↑w ↑hF ds hg:=gy.I hK;have m4:=hK.size;have pf:Uq (bS::b10::ob vs) ↑hg ve a.ed:=by
  refine(hA.ed.up (L':=bS::b10::ob vs) (λb hb=>.inr ?_)).J J.stp (λ_ hb=>by cases hb);rcases Ln.1 hb with rfl|hb
  ·omega
  rcases Ln.1 hb with rfl|hb
  ·omega
  exact(Qi J.R b hb).1
 rw[g9]at kb;have pg:w.heap.size<=hg.heap.size:=J.stp.size;have gb:bS≠b4/\bS≠b7/\bS≠b10/\bS≠b11/\bS≠bi/\b10≠b4/\b10≠b7/\b10≠b11/\b10≠bi:=oa
 have hqS:=J.BS.lt;have hqi:=J.BI.lt;refine ZI<|Qfi (α:={ e:Ed // e∈a.ed }) (bS::b10::ob vs) oa (capt:=[sP b1,sP b2]) O (enc:=λx=>sT (Qp x.1)) og
  (Qdz pd kb (kr.I J.stp) pf kq oa kn)
  (λpre W=>∃v,PI w b4 b7 b10 b11 bS n [va,sS a.st,vm,ve,sL bF (n+1) (n+1)] (.func (.func gp) #[] cp.toArray) bi i v ((pre.map (·.1)).foldl (Km pm i) st) W/\QdU n ((pre.map (·.1)).foldl (Km pm i) st)/\i<((pre.map (·.1)).foldl (Km pm i) st).length /\
   (∀b∈ob v,b∈ob vs\/↑hg<=b)/\Kp ↑w ↑hF ds W/\hg.heap.size<=↑W)
  (λpre=>Z9.ex λv=>(PI.stb pg).and ((Z9.pure _).and ((Z9.pure _).and ((Z9.pure _).and ((Kp.stb oa).and (λW W' X h hs _=>Lx h hs.size))))))
  ⟨vs,J,hok,hr,λb hb=>.inl hb,hH,Lp _⟩
  (λf x f' W=>∃b,f'=upd (upd f 69 (sT (Qp x.1))) 15 (sP b)/\↑hg<=b/\QK ↑W b 179 (Qp x.1))
  (λx f'=>Z9.ex λb=>(Z9.pure _).and ((Z9.pure _).and Z9.blk)) ?_ ?_ ?_
 ·rintro l pre ⟨e,he⟩ W ⟨v,E,T,ha,hz,hw,h0⟩;refine Qy oh oh<|QT [sS 0,sS 0,sS 0] λb15 g2 V kc h3=>Q5 (Qp e) h3 ox λh7 I ph=>xe ?_;have hL:sW W h7:=V.Q I kc;have pj:=hL.size;exact⟨O,XD.I hL h0,⟨v,E.I hL,T,ha,hz,hw.I hL,oa⟩,b15,O,oa,ph⟩
 ·rintro l pre ⟨e,he⟩ f' W ⟨v,E,T,ha,hz,hw,h0⟩ ⟨b15,rfl,kc,h3⟩ _;have h8:((pre++[(⟨e,he⟩:{ e:Ed // e∈a.ed })]).map (·.1)).foldl (Km pm i) st=Km pm i ((pre.map (·.1)).foldl (Km pm i) st) e:=by rw[Lv,Mh];rfl
  refine Zg ((pre.map (·.1)).foldl (Km pm i) st) λG gc=>?_;rw[gc]at E T ha h8;have hM:=ko e he;have ge:e.2.2=(e.2.2.toNat:Int):=oa
  have gg:=Qmq (pm:=pm) T ha hM;have hN:=zJ (l:=stS G) hM.1 hM.2;have pn:=T.le;have pj:=E.stp.size;refine ZI<|QP<|Qy oh oh ?_;by_cases hO:e.2.2∈stS G
  ·rw[OV hO]at hN;have h9:Km pm i G e=G:=by unfold Km;rw[OR (λh=>h.1 hO)]
   refine ZB E.B11 O O<|Qs O h3 O O<|x (QE (i:=e.2.2.toNat) O (OT sS ge) oa)<|ZB E.BS O hN<|x (Zj O)<|x Kd <|
    Zw<|Qz rfl<|xe ?_
   refine JK O<|Z6 ?_;refine⟨XD.refl _ _ _,v,?_⟩;rw[h8,h9];exact⟨E,T,ha,hz,hw,h0⟩
  rw[OX hO]at hN;refine ZB E.B11 O O<|Qs O h3 O O<|x (QE (i:=e.2.2.toNat) O (OT sS ge) oa)<|ZB E.BS O hN<|x (Zj O)<|x Kd <|
   ZB E.B7 O O<|Q3 h3 O O<|Qo<|xc (first:=[]) (capt:=cp) O<|(ku e _ he E.stp).S ?_
  rintro r19 g2 ⟨rfl,V⟩;refine Qz O<|xe ?_;have hh:=E.I V;have hz15:=V.size;refine Ko O (λhp=>?_) (λhp=>?_)
  ·have h9:Km pm i G e=G++[(e.2.2,(i:Int),e.2.1)]:=by unfold Km;rw[OS ⟨hO,hp⟩]
   rw[h9]at h8 gg;have ke:=h3.I V;refine QP<|Qy oh oh<|ZB hh.B11 O O<|Qs O ke O O<|x (QE (i:=e.2.2.toNat) O (OT sS ge) oa)<|Qo<|Qv (j:=0+e.2.2.toNat*1) (u:=.bool true) hh.BS O O (by rw[Lm,Ud];omega) O λh7 I po=>xe ?_;have pp:QK ↑h7 bS 4 ((flg n (stS (G++[(e.2.2,(i:Int),e.2.1)]))).map Value.bool):=by
    have e1:=qL (n:=n) (l:=stS G) hM.1;have e2:stS (G++[(e.2.2,(i:Int),e.2.1)])=stS G++[e.2.2]:=by unfold stS;rw[Lv];rfl
    rw[e2,<-e1,Nw];simpa using po
   have hz16:=I.size;have hC:=hh.B10.J I (by have:=gb.2.2.1;simpa using this.symm);have pt:=hh.BI.J I (by have:=gb.2.2.2.2.1;simpa using this.symm);have pu:Z8 355 ↑w h7 v G:=Qg hh.R I (λb hb=>by have:=(hh.ne b hb).2.2.2.2.1;simpa using this);have kf:=ke.J I (by simp;omega);refine Qy oh oh<|ZB hC O O<|Qs O kf O O<|ZB pt O O<|Qs O kf O O<|x (QC ⟨O,O,O,Z⟩) <|
    Qo<|Q2 [[sS e.2.2,sS i,sS e.2.1]] λb92 g5 hv hb92 pw =>
    Qo<|QZ (m:=1) (news:=[sS e.2.2,sS i,sS e.2.1]) (Qm pu hv) O O O (pw.at (L:=[]) od) om oa (oo hv.size) λkg w18 kh ki pz=>?_
   have p0:b10∉ob v:=λhm=>(hh.ne b10 hm).2.2.1 O;refine Qo<|Qv (u:=kg) ((hC.I hv).J ki p0) O O od (QM (L:=[]) kh oa od).one λp4 p5 p6=>xe ?_;have gh:=hh.add (B:=↑hg) (L0:=ob vs) gb oa oa oa ⟨oa,oa,oa,oa⟩ I pp hv ki (Z8.snoc kh) pz p5 p6 hz;have gi:XD ↑hg (bS::b10::ob vs) W p4:=(XD.I V h0).D gh.2.1;have hzf:=gi.lw.size;refine⟨gi,kg,?_⟩;rw[h8];exact⟨gh.1,gg.1,gg.2,gh.2.2,hw.rst gi,oa⟩
  have h9:Km pm i G e=G:=by unfold Km;rw[OR (λh=>by rw[hp]at h;exact OU h.2 og)]
  refine Z6<|⟨XD.I V h0,v,?_⟩;rw[h8,h9];exact⟨hh,T,ha,hz,hw.I V,oa⟩
 rintro D xs W hD p7 ⟨v,E,T,ha,hz,hw,h0⟩ p8;rw[p7,<-g9]at E T ha;refine Zg ((QO a.ed s0.1).foldl (Km pm i) st) λG gc=>?_;rw[gc]at E T ha S;have pn:=T.le;have p9:=hw.cons oa oa p8;refine QP<|QP<|Qy oh oh<|ZB E.BI O O<|xe<|Qy oh oh<|QT [sS 0] λbj w20 qf kj qj=>Qo<|Qv (u:=sS i) qj O O od rfl λw21 ql kk=>xe ?_;refine Qy oh oh<|ZB kk O O<|QB O O<|Qo<|Qv (u:=sS ((i:Int)+1)) kk O O od rfl λq0 q4 q5=>xe ?_;have gj:sW W q0:=(qf.Q ql kj).Q q4 kj;have j1:=gj.size;have U:=E.I gj;have j2:=(p9.I gj).up j1;have j3:∀b∈ob v,b≠bj:=λb hb e=>oo (QU E.R b hb)
 refine⟨(i+1,bj,mw,v,G),oe,La,⟨U.stp,U.B4,U.B7,U.B10,U.B11,U.BS,q5,U.R,λb hb=>⟨(U.ne b hb).1,(U.ne b hb).2.1,(U.ne b hb).2.2.1,(U.ne b hb).2.2.2.1,(U.ne b hb).2.2.2.2.1,j3 b hb⟩⟩,T,j2,oa,?_,oe,ha,oe,S⟩;have t4:=E.B4.lt;have t7:=E.B7.lt;have t10:=E.B10.lt;have t11:=E.B11.lt;have tS:=E.BS.lt;simp only[];omega
open Go.RowKit
def sl (d:xD)(f:Fr):O0:=match d with|some d=>f d|none=>undef
def ow:O0->LN
 | .slice (some a) _ _=>[a.block]
 | .pointer (some a)=>[a.block]
 | .map (some b)=>[b]
 | _=>[]
def Fa (p:Nat->Prop):LN->Prop
 | []=>True
 | i::l=>p i/\Fa p l
theorem Fa.all {p:Nat->Prop}:∀{l:LN},Fa p l->∀i∈l,p i
 | [],_,_,hi=>by cases hi
 | j::l,h,i,hi=>by
  rcases Ln.1 hi with rfl|hi
  ·exact h.1
  exact Fa.all h.2 i hi
theorem Fa.of {p:Nat->Prop}:∀{l:LN},(∀i∈l,p i)->Fa p l
 | [],_=>trivial
 | i::_,h=>⟨h i Ll,Fa.of λj E=>h j (Lj _ E)⟩
def undup:List (Array Bool)->List (Array Bool)->List (Array Bool)
 | [],acc=>acc
 | x::l,acc=>if acc.contains x then undup l acc else undup l (x::acc)
theorem Uu {x:Array Bool}:∀{l acc:List (Array Bool)},(x∈l\/x∈acc)->x∈undup l acc
 | [],acc,h=>h.elim (λh=>by cases h) id
 | y::l,acc,h=>by
  unfold undup;split
  ·rename_i E;refine Uu ?_;rcases h with h|h
   ·rcases Ln.1 h with e|h
    ·exact .inr (e ▸ List.contains_iff_mem.1 E)
    exact .inl h
   exact .inr h
  refine Uu ?_;rcases h with h|h
  ·rcases Ln.1 h with e|h
   ·exact .inr (e ▸ Ll)
   exact .inl h
  exact .inr (Lj _ h)
def alv (tk:Nat->LN)(opn:LN)(ls:Array Bool)(j:Nat):Bool:=ls.getD j false && opn.all λk=>!(ls.getD k false && (tk k).contains j)
def zv (all:Array Oper)(dp tk:Nat->LN)(opn fn nb:LN)(rest:xq):Nat->List (Array Bool)->Bool
 | 0,L=>L.all λls=>Y8 all rest ls && fn.all λi=>opn.contains i && alv tk opn ls i
 | k+1,L=>(L.all λls=>!(Region.ready .any all ls).isEmpty && (Region.ready .any all ls).all λi=>opn.contains i && ((dp i).all λj=>opn.contains j && alv tk opn ls j) && ((tk i).all λj=>(dp i).contains j) && ((tk i).isEmpty || nb.all λj=>!ls.getD j false)) &&
  zv all dp tk opn fn nb rest k (undup (L.flatMap λls=>(Region.ready .any all ls).map λi=>ls.setIfInBounds i true) [])
def QbD (all:xC)(D:xt):LN->Bool
 | []=>true
 | i::l=>(QR all i).guard.isNone && (match (QR all i).dst with|some d=>JM D d && l.all (λj=>!((QR all j).dst == some d))|none=>false) && !l.contains i && QbD all D l
theorem Kf {all:xC}{D:xt}:∀{l:LN},QbD all D l=true->(∀i∈l,(QR all i).guard=none/\∃d,(QR all i).dst=some d/\JM D d=true)/\∀i∈l,∀j∈l,i≠j->(QR all i).dst≠(QR all j).dst
 | [],_=>⟨λ_ h=>(by cases h),λ_ h=>(by cases h)⟩
 | i::l,h=>by
  simp only[QbD,oI,Option.isNone_iff_eq_none]at h;obtain⟨⟨⟨U,hd⟩,V⟩,hl⟩:=h;have ih:=Kf hl;cases G:(QR all i).dst with
  | none=>rw[G]at hd;cases hd
  | some d =>
   rw[G]at hd;simp only[oI,Oh,Oe,beq_eq_false_iff_ne,ne_eq]at hd;have I:∀j∈l,(QR all j).dst≠some d:=λj E=>hd.2 j E;refine⟨λj E=>?_,λj E k S T=>?_⟩
   ·rcases Ln.1 E with rfl|E
    ·exact⟨U,d,G,hd.1⟩
    exact ih.1 j E
   rcases Ln.1 E with hj1|hj1
   ·rcases Ln.1 S with hk1|hk1
    ·exact OU (hj1.D hk1.symm) T
    rw[hj1,G];exact λe=>I k hk1 e.symm
   rcases Ln.1 S with hk1|hk1
   ·rw[hk1,G];exact I j hj1
   exact ih.2 j hj1 k hk1 T
def QeX (all:xC)(dp tk:Nat->LN)(pre:xq)(opn fn nb:LN)(rest:xq)(D:xt):Bool :=
 Region.noSelect all.toArray && (pre.length+(opn.length+rest.length) == all.length) && X1 all.toArray pre (oP all.length false) && QbD all D opn && zv all.toArray dp tk opn fn nb rest opn.length [ZN pre (oP all.length false)]
  && opn.all λi=>!((ZN pre (oP all.length false)).getD i false)
theorem JG {tk:Nat->LN}{opn:LN}{ls:Array Bool}(hi:i∈opn)(E:i<ls.size)(S:j≠i)(h:alv tk opn (ls.setIfInBounds i true) j=true):alv tk opn ls j=true/\j∉tk i:=by
 unfold alv at *;simp only[oI,Oh,Oe,Bool.and_eq_false_iff]at *;refine⟨⟨by rw[getD_set_ne false (Ne.symm S)]at h;exact h.1,λk G=>?_⟩,λT=>?_⟩
 ·by_cases I:k=i
  ·subst I;refine .inr ((h.2 k G).resolve_left λe=>?_);simp[Array.getD_eq_getD_getElem?,E]at e
  have:=h.2 k G;rw[getD_set_ne false (Ne.symm I)]at this;exact this
 rcases h.2 i hi with e|e
 ·simp[Array.getD_eq_getD_getElem?,E]at e
 rw[List.contains_iff_mem.2 T]at e;cases e
section
variable {all:xC}{C J:xx}
theorem zG {o:Oper}(h:o.guard=none):Z1 all f o=true:=by unfold Z1;rw[h]
abbrev tkn (all:xC)(tk:Nat->LN)(i:Nat)(g:Fr):LN:=(tk i).flatMap λj=>ow (sl (QR all j).dst g)
theorem Qcv {α:Type}{N:Nat}{D:xt}{dp tk:Nat->LN}{opn fn nb:LN}{rest:xq}{Φ:Nat->O0->OZ->Prop}{S:α->List (Nat×O0)}{I:α->OZ->Prop}{f1:Fr}(hs:Region.noSelect all.toArray=true)(hop:QbD all D opn=true)
  (h4:∀w,J w->C w) (h7:∀i∈opn,∀own w w',J w->O3 own w w'->(∀b∈own,N<=b)->(tk i=[]->own=[])->J w') (hN:∀w,J w->N<=↑w) (stab:∀i∈opn,∀v own w w',Φ i v w->O3 own w w'->(∀b∈ow v,b∉own)->(i∈nb->own=[])->Φ i v w')
  (h8:∀(g:Fr) w,Fa (λi=>Φ i (sl (QR all i).dst g) w) fn->(∀i∈fn,∀j∈fn,i≠j->∀b∈ow (sl (QR all i).dst g),b∉ow (sl (QR all j).dst g))->(∀i∈fn,∀b∈ow (sl (QR all i).dst g),N<=b)->∃z,YW g (S z)/\I z w)
  (spec:Fa (λi=>∀g w,J w->Fa (λj=>Φ j (sl (QR all j).dst (mix D f1 g)) w) (dp i)->(∀j∈dp i,∀b∈ow (sl (QR all j).dst (mix D f1 g)),N<=b/\b<↑w)->XO P (QR all i) (mix D f1 g) w (λf' w'=>O3 (tkn all tk i (mix D f1 g)) w w'/\Φ i (sl (QR all i).dst f') w'/\∀b∈ow (sl (QR all i).dst f'),(↑w<=b\/b∈tkn all tk i (mix D f1 g))/\b<↑w')) opn)
  (fin:∀z g w,J w->I z w->XP P all C K rest (Vp (S z) (mix D f1 g)) w):
  ∀(k:Nat) {L:List (Array Bool)} (_:zv all.toArray dp tk opn fn nb rest k L=true) (ls:Array Bool) (f:Fr) (w:OZ),ls∈L->ls.size=all.length->J w->(∀t,JM D t=false->f t=f1 t)->(∀i∈opn,alv tk opn ls i=true->Φ i (sl (QR all i).dst f) w) ->
   (∀i∈opn,alv tk opn ls i=true->(∀b∈ow (sl (QR all i).dst f),N<=b/\b<↑w)/\∀j∈opn,alv tk opn ls j=true->i≠j->∀b∈ow (sl (QR all i).dst f),b∉ow (sl (QR all j).dst f))->XA P all C K (k+rest.length) ls f w
 | 0,L,T,ls,f,w,hu,hv,hC,hf,hw,V=>by
  simp only[zv,oI,Oh,List.contains_iff_mem]at T;have T:=T ls hu;obtain⟨z,h1,Y⟩:=h8 f w (Fa.of λi hi=>hw i (T.2 i hi).1 (T.2 i hi).2) (λi hi j E G=>(V i (T.2 i hi).1 (T.2 i hi).2).2 j (T.2 j E).1 (T.2 j E).2 G) (λi hi b hb=>((V i (T.2 i hi).1 (T.2 i hi).2).1 b hb).1);have h3:=fin z f w hC Y;rw[KH hf,Xo h1]at h3;rw[LS];exact Ym hs rest ls f w hv (.inl (h4 _ hC)) T.1 h3
 | k+1,L,T,ls,f,w,hu,hv,hC,hf,hw,V=>by
  simp only[zv,oI,Oh,List.contains_iff_mem,Bool.or_eq_true,Oe]at T;obtain⟨T,hD⟩:=T;obtain⟨hy,T⟩:=T ls hu;rw[Nat.add_right_comm];refine JH (λh0=>(by rw[h0]at hy;cases hy)) ?_;intro i hi o ho;obtain⟨⟨⟨U,ha⟩,hq⟩,hE⟩:=T i hi;obtain⟨hg,d,hd,hF⟩:=(Kf hop).1 i U;have hsp:=Fa.all spec i U f w hC;rw[KH hf]at hsp;have hsp:=hsp (Fa.of λj E=>hw j (ha j E).1 (ha j E).2) (λj E=>(V j (ha j E).1 (ha j E).2).1);have hr:=ZF ho;have he:i<ls.size:=by rw[hv];exact(Mf.1 (ou ho)).1
  rw[hr]at hg hd hsp;rw[zG hg,cond_true];refine hsp.S λv w' hx=>?_;have hT:∀b∈tkn all tk i f,∃j,j∈tk i/\b∈ow (sl (QR all j).dst f):=λb hb=>by
   obtain⟨j,E,hb⟩:=Ma.1 hb;exact⟨j,E,hb⟩
  have h9:=h7 i U _ w w' hC hx.1 (λb hb=>by
   obtain⟨j,E,hb⟩:=hT b hb;exact((V j (ha j (hq j E)).1 (ha j (hq j E)).2).1 b hb).1) λe=>by rw[tkn,e];rfl
  have hz:=hx.1.size;have old:∀j∈opn,j≠i->sl (QR all j).dst (QN f o.dst v)=sl (QR all j).dst f:=λj E G=>by
   obtain⟨_,dj,hA,_⟩:=(Kf hop).1 j E;have hy:o.dst≠some dj:=λe=>((Kf hop).2) j E i U G (by rw[hA,hr];exact e.symm);rw[hA];exact YX hy v
  have apt:∀j∈opn,j≠i->alv tk opn (ls.setIfInBounds i true) j=true->∀b∈ow (sl (QR all j).dst f),b∉tkn all tk i f:=λj E G hc b hb hm=>by
   obtain⟨h1,Y⟩:=JG U he G hc;obtain⟨t,ht,h5⟩:=hT b hm;exact(V j E h1).2 t (ha t (hq t ht)).1 (ha t (hq t ht)).2 (λe=>Y (e ▸ ht)) b hb h5
  refine⟨.inr (.inr (h4 _ h9)),Qcv hs hop h4 h7 hN stab h8 spec fin k hD _ _ _ (Uu (.inl (Ma.2 ⟨ls,hu,Ly.2 ⟨i,hi,O⟩⟩))) (ou hv) h9 (λt ht=>?_) (λj E hc=>?_) (λj E hc=>⟨λb hb=>?_,λk hk h6 hB b hb hh=>?_⟩)⟩
  ·rw[YX (by rw[hd];intro e;cases e;rw[hF]at ht;cases ht)];exact hf t ht
  ·by_cases G:j=i
   ·subst G;have Y:=hx.2.1;rw[hr];exact Y
   rw[old j E G];refine stab j E _ _ _ _ (hw j E (JG U he G hc).1) hx.1 (apt j E G hc) λhG=>?_;rcases hE with e|e
   ·rw[List.isEmpty_iff]at e;show(tk i).flatMap _=[];rw[e];rfl
   have h1:=(JG U he G hc).1;unfold alv at h1;rw[e j hG]at h1;cases h1
  ·by_cases G:j=i
   ·subst G;rw[hr]at hb;refine⟨(hx.2.2 b hb).1.elim (λh=>Lx (hN w hC) h) λh=>?_,(hx.2.2 b hb).2⟩;obtain⟨t,ht,h5⟩:=hT b h;exact((V t (ha t (hq t ht)).1 (ha t (hq t ht)).2).1 b h5).1
   rw[old j E G]at hb;have:=(V j E (JG U he G hc).1).1 b hb;exact⟨this.1,oa⟩
  by_cases G:j=i
  ·subst G;have hn:k≠j:=Ne.symm hB;rw[old k hk hn]at hh;rw[hr]at hb;have h1:=((V k hk (JG U he hn h6).1).1 b hh).2;rcases(hx.2.2 b hb).1 with Y|Y
   ·omega
   exact apt k hk hn h6 b hh Y
  rw[old j E G]at hb;have h1:=((V j E (JG U he G hc).1).1 b hb).2;by_cases hn:k=i
  ·subst hn;rw[hr]at hh;rcases(hx.2.2 b hh).1 with Y|Y
   ·omega
   exact apt j E G hc b hb Y
  rw[old k hk hn]at hh;exact(V j E (JG U he G hc).1).2 k hk (JG U he hn h6).1 hB b hb hh
theorem ye {Q:Exit->Fr->OZ->Prop}(C J:xx)(N:Nat)(pre:xq)(dp tk:Nat->LN)(opn fn nb:LN)(rest:xq)(D:xt)(Φ:Nat->O0->OZ->Prop)(S:α->List (Nat×O0))(I:α->OZ->Prop)
  (hm:P.follows .mixedOrders=true) (hn:Xi n all=true) (G:QeX all dp tk pre opn fn nb rest D=true) (hC:J { w with drawn:=w.drawn+1 }) (T:∀w,J w->C w) (ha:∀i∈opn,∀own w w',J w->O3 own w w'->(∀b∈own,N<=b)->(tk i=[]->own=[])->J w') (hN:∀w,J w->N<=↑w) (stab:∀i∈opn,∀v own w w',Φ i v w->O3 own w w'->(∀b∈ow v,b∉own)->(i∈nb->own=[])->Φ i v w')
  (hc:∀(g:Fr) w,Fa (λi=>Φ i (sl (QR all i).dst g) w) fn->(∀i∈fn,∀j∈fn,i≠j->∀b∈ow (sl (QR all i).dst g),b∉ow (sl (QR all j).dst g))->(∀i∈fn,∀b∈ow (sl (QR all i).dst g),N<=b)->∃z,YW g (S z)/\I z w)
  (h:XP P all C (λf1 _=>(Fa (λi=>∀g w,J w->Fa (λj=>Φ j (sl (QR all j).dst (mix D f1 g)) w) (dp i)->(∀j∈dp i,∀b∈ow (sl (QR all j).dst (mix D f1 g)),N<=b/\b<↑w)->XO P (QR all i) (mix D f1 g) w (λU w'=>O3 (tkn all tk i (mix D f1 g)) w w'/\Φ i (sl (QR all i).dst U) w'/\∀b∈ow (sl (QR all i).dst U),(↑w<=b\/b∈tkn all tk i (mix D f1 g))/\b<↑w')) opn) /\
   ∀z g w,J w->I z w->XP P all C (λf w=>Q .normal f w) rest (Vp (S z) (mix D f1 g)) w) pre f { w with drawn:=w.drawn+1 }):W P n (.region id all.toArray true) Q f w:=by
 simp only[QeX,oI,beq_iff_eq,Oh,Oe]at G;obtain⟨⟨⟨⟨⟨V,hl⟩,hq⟩,hop⟩,he⟩,hf⟩:=G;refine Jn C hm hn ?_;rw[<-hl];have hg:(oP all.length false).size=all.length:=od
 have Y:∀i∈opn,alv tk opn (ZN pre (oP all.length false)) i=true->False:=λi hi E=>by
  unfold alv at E;rw[hf i hi]at E;cases E
 have h1:=Yz (K:=λf w=>Q .normal f w) (m:=opn.length+rest.length) V pre (oP all.length false) f _ (T _ hC) hq (λf1 hB=>Qcv (P:=P) (C:=C) V hop T ha hN stab hc hB.1 hB.2 opn.length he (ZN pre (oP all.length false)) f1 _ Ll (by rw[YD];exact hg) hC (λ_ _=>O) (λi hi E=>(Y i hi E).elim) (λi hi E=>(Y i hi E).elim)) h;rw[hl]at h1 ⊢;exact h1
theorem XP.keeps_mono {K':xw}:∀(l:xq) (f:Fr) (w:OZ),XP P all C K l f w->(∀f w,K f w->K' f w)->XP P all C K' l f w
 | [],f,w,h,E=>by simp only[XP]at h ⊢;exact E _ _ h
 | (j,q)::l,f,w,h,E=>by
  simp only[XP]at h ⊢;cases G:Z1 all f (QR all j) with
  | false=>rw[G]at h;exact XP.keeps_mono l _ _ h E
  | true =>
   rw[G]at h;cases q with
   | true=>obtain⟨v,I,hx⟩:=h;exact⟨v,I,XP.keeps_mono l _ _ hx E⟩
   | false=>exact XO.S (λv w' hx=>⟨hx.1,XP.keeps_mono l _ _ hx.2 E⟩) h
theorem Qcx {Q:Exit->Fr->OZ->Prop}(C J:xx)(pre:xq)(dp:Nat->LN)(opn:LN)(rest:xq)(D:xt)(Φ:Nat->O0->OZ->Prop)(S:α->List (Nat×O0))(I:α->OZ->Prop)
  (T:P.follows .mixedOrders=true) (U:Xi n all=true) (V:QeX all dp (λ_=>[]) pre opn opn opn rest D=true) (hC:J { w with drawn:=w.drawn+1 }) (Y:∀w,J w->C w) (ha:∀w w',J w->sW w w'->J w') (stab:∀i v w w',Φ i v w->sW w w'->Φ i v w')
  (hc:∀(g:Fr) w,Fa (λi=>Φ i (sl (QR all i).dst g) w) opn->(∀i∈opn,∀j∈opn,i≠j->∀b∈ow (sl (QR all i).dst g),b∉ow (sl (QR all j).dst g))->∃z,YW g (S z)/\I z w)
  (h:XP P all C (λf1 _=>Fa (λi=>∀g w,J w->Fa (λj=>Φ j (sl (QR all j).dst (mix D f1 g)) w) (dp i)->XO P (QR all i) (mix D f1 g) w (λG w'=>sW w w'/\Φ i (sl (QR all i).dst G) w'/\∀b∈ow (sl (QR all i).dst G),↑w<=b/\b<↑w')) opn /\
   ∀z g w,J w->I z w->XP P all C (λf w=>Q .normal f w) rest (Vp (S z) (mix D f1 g)) w) pre f { w with drawn:=w.drawn+1 }):W P n (.region id all.toArray true) Q f w:=by
 refine ye C J 0 pre dp (λ_=>[]) opn opn opn rest D Φ S I T U V hC Y (λ_ _ _ w w' h E _ e=>?_) (λ_ _=>Lo _) (λi hi v _ w w' h E _ e=>?_) (λg w h1 h2 _=>hc g w h1 h2) (XP.keeps_mono _ _ _ h λf1 w1 hx=>⟨Fa.of λi hi g w hJ hd _=>(Fa.all hx.1 i hi g w hJ hd).S λ_ _ h=>⟨h.1,h.2.1,λb hb=>⟨.inl (h.2.2 b hb).1,(h.2.2 b hb).2⟩⟩,hx.2⟩)
 ·rw[e rfl]at E;exact ha w w' h E
 rw[e hi]at E;exact stab i v w w' h E
theorem KT {Q:Exit->Fr->OZ->Prop}(C:xx)(pre:xq)(dp:Nat->LN)(opn:LN)(rest:xq)(D:xt)(Φ:Nat->O0->OZ->Prop)(S:α->List (Nat×O0))(I:α->OZ->Prop)
  (G:P.follows .mixedOrders=true) (T:Xi n all=true) (U:QeX all dp (λ_=>[]) pre opn opn opn rest D=true) (hC:C { w with drawn:=w.drawn+1 }) (V:∀w w',C w->sW w w'->C w') (stab:∀i v w w',Φ i v w->sW w w'->Φ i v w')
  (Y:∀(g:Fr) w,Fa (λi=>Φ i (sl (QR all i).dst g) w) opn->(∀i∈opn,∀j∈opn,i≠j->∀b∈ow (sl (QR all i).dst g),b∉ow (sl (QR all j).dst g))->∃z,YW g (S z)/\I z w)
  (h:XP P all C (λf1 _=>Fa (λi=>∀g w,C w->Fa (λj=>Φ j (sl (QR all j).dst (mix D f1 g)) w) (dp i)->XO P (QR all i) (mix D f1 g) w (λE w'=>sW w w'/\Φ i (sl (QR all i).dst E) w'/\∀b∈ow (sl (QR all i).dst E),↑w<=b/\b<↑w')) opn /\
   ∀z g w,C w->I z w->XP P all C (λf w=>Q .normal f w) rest (Vp (S z) (mix D f1 g)) w) pre f { w with drawn:=w.drawn+1 }):W P n (.region id all.toArray true) Q f w :=
 Qcx C C pre dp opn rest D Φ S I G T U hC (λ_ h=>h) V stab Y h
end
theorem flA [Ze P t z]{E:OZ}{e:Nat}(us:LV)(hC:sW E w)(T:z.cells=us.toArray:=by rfl):XO P ⟨some e,.alloc t,ty,pS,af,gd⟩ f w λG w'=>sW w w'/\sW E w'/\(∃b,G e=sP b/\↑E<=b/\QK ↑w' b t us)/\∀b∈ow (G e),↑w<=b/\b<w'.heap.size:=YN T λb w' I hb S=>by
 have e1:QN f (some e) (sP b) e=sP b:=by simp[QN,upd]
 show sW w w'/\sW E w'/\(∃b',QN f (some e) (sP b) e=sP b'/\↑E<=b'/\QK ↑w' b' t us)/\∀b'∈ow (QN f (some e) (sP b) e),↑w<=b'/\b'<↑w';rw[e1];exact⟨I,hC.D I,⟨b,O,Lx hC.size hb,S⟩,λx hx=>by rw[show x=b by simpa using(show x∈[b] from hx)];exact⟨hb,S.lt⟩⟩
theorem Qbx {x:O1}{e:Nat}[h:Ay P t m e 1][h1:Xx P e]{k:IntKind}{u:O0}(hx:ev f x=sT cs)(E:ev f y=.int k i)(hi:i<m)(G:cs[i]?=some u):
  (execOp (ev f) ⟨d,.index t x y,ty,pS,af,gd⟩).run P w=.ok (.value u) w:=by
 have I:=qZ (P:=P) (w:=w) (t:=e);have J:=jj (P:=P) (w:=w) (t:=e);simp[execOp,hx,E,Instr.index,asIntOf,run_underlying h.u,I,part,J,G];intro S;omega
theorem QjX {b:Nat}(G:QK ↑w b 301 [sL E n n])(hS:QK ↑w E 4 ((flg n l).map Value.bool))(I:0<=s)(J:s<(n:Int)):
  QS sV 200 [sS s,sP b] w λr w'=>r=.bool (decide (s∈l))/\sW w w':=by
 refine Zl func200 ?_;have S:s=(s.toNat:Int):=oa
 refine Qc<|Qb<|Qc<|ZB G O O<|Qa<|x (QE (i:=s.toNat) O (OT sS S) oa)<|ZB hS O (zJ I J)<|Qb<|Qk ⟨[_],La,O,O3.Y _ _⟩
theorem QjW {b:Nat}{e:Ed}(I:QK ↑w b 301 [sL G n n])(hS:QK ↑w G 4 ((flg n l).map Value.bool))(J:0<=e.2.2)(S:e.2.2<(n:Int)):
  QS sV 201 [sT (Qp e),sP b] w λr w'=>r=.bool (decide (e.2.2∈l))/\sW w w':=by
 refine Zl func201 ?_;have T:e.2.2=(e.2.2.toNat:Int):=oa
 refine Qc<|Zc (Qp e) λV Y E ha U=>Qb<|Qc<|ZB (I.I E) O O<|Qs O U O O<|x (QE (i:=e.2.2.toNat) O (OT sS T) oa)<|ZB (hS.I E) O (zJ J S)<|Qb<|Qk ⟨[_],La,O,E⟩
instance ayJk1:Ay sV 300 2 47 1:=⟨oc,oc⟩
def ptR (a:QD)(n from0:Nat)(tg wi:LI):LI×Bool:=pth (λs=>decide (s∈tg)) (λe=>decide (e.2.2∈wi)) a.ed n from0
theorem Qd7 (st:List Ed):∀(f k:Nat),(wrd st f k).length<=f
 | 0,_=>by simp[wrd]
 | f+1,k=>by
  rw[wrd];split
  ·have:=Qd7 st f (gE st k).2.1.toNat;simp only[oQ];omega
  simp
theorem Qby (wt:Int->Bool)(pm:Ed->Bool)(es:List Ed):∀(f i:Nat) (st:List Ed),(Qaa wt pm es f i st).1.length<=f+i
 | 0,_,_=>by simp[Qaa]
 | f+1,i,st=>by
  rw[Qaa];split
  ·split
   ·have:=Qd7 st (i+1) i;simp only[List.length_reverse];omega
   have:=Qby wt pm es f (i+1) ((QO es (gE st i).1).foldl (Km pm i) st);omega
  simp
theorem QkN (a:QD)(n:Nat)(tg wi:LI):(ptR a n 0 tg wi).1.length<=n+1:=Qby _ _ _ (n+1) 0 _
def phP (N n:Nat)(tg wi:LI)(i:Nat)(v:O0)(w:OZ):Prop :=
 if i=2 then ∃b,v=sL b n n/\N<=b/\QK ↑w b 4 ((flg n wi).map Value.bool)
 else if i=5 then ∃b,v=sL b n n/\N<=b/\QK ↑w b 4 ((flg n tg).map Value.bool)
 else ∃b,v=sP b/\N<=b/\QK ↑w b 301 [nS]
theorem QkU {tg wi:LI}(i:Nat)(v:O0)(w w':OZ)(h:phP N n tg wi i v w)(J:sW w w'):phP N n tg wi i v w':=by
 unfold phP at *;split
 ·rename_i e;rw[OS e]at h;obtain⟨b,E,G,I⟩:=h;exact⟨b,E,G,I.I J⟩
 rename_i e;rw[OR e]at h;split
 ·rename_i e2;rw[OS e2]at h;obtain⟨b,E,G,I⟩:=h;exact⟨b,E,G,I.I J⟩
 rename_i e2;rw[OR e2]at h;obtain⟨b,E,G,I⟩:=h;exact⟨b,E,G,I.I J⟩
structure PhZ where
 bi:Nat
 bt:Nat
 b15:Nat
 b16:Nat
theorem Qmv {vi:O0}{from0:Nat}{tg wi:LI}(h:Zp [] ↑w va vm ve a)(hck:XX a=0)(hn:a.st=(n:Int))(hf:from0<n)(ht:Qu [] ↑w vt tg)(hi:Qu [] ↑w vi wi)
  (h6:JO a.st none tg=0) (h7:JO a.st none wi=0) (hM:(from0:Int)∈wi):
  QS sV 127 [.agg #[va,sS a.st,vm,ve],sS from0,vt,vi] w λr w'=>sW w w'/\∃v,r=.tuple #[v,.bool (ptR a n from0 tg wi).2,sS 0]/\Qh 3 ↑w w' v (ptR a n from0 tg wi).1:=by
 have J:=(Zy a).1 hck;have hz:=J.st1;refine Zl func127 ?_;refine Qc<|Zc [va,sS a.st,vm,ve] λb4 w1 h8 hZ h9=>x Qd<|x Qd<|Qb<|Qe<|Qc<|Q3 h9 O O<|Qw<|(YV (h.I h8)).S ?_;rintro r2 w2 ⟨rfl,hA⟩;refine Qb<|Ql<|ZL O O<|xe<|Zh rfl (λhC=>OU hck hC) (λhC=>?_);refine Qf ?_;have hD:=h8.D hA;have h3:=h9.I hA;have hN:¬(from0:Int)≥a.st:=oa
 refine Qe<|Ql<|xb (Ys O O) (λhE=>OU hE oa) (λhE=>?_);refine Qa<|Qa<|Qs O h3 O O<|x (Yh O O)<|Qz O<|xe<|Zh rfl (λhF=>OU hF hN) (λhF=>?_);refine Qf<|Qe<|Ql<|Qa<|x (QC ⟨ht.cells,hi.cells,Z⟩)<|Qa<|xe<|QX (α:=Nat) [(8,10),(13,14),(33,42)] (λz=>[(33,sS z)]) (λz w'=>z<=2/\sW w2 w') (λz=>2 - z) 0 La ⟨oa,O3.Y _ _⟩ ?_;rintro k g w4 ⟨hk,ha⟩;refine Zi rfl O (λhG=>?_) (λhG=>?_)
 ·refine Qt ?_;have hg:=hD.D ha;have hH:=h.I hg;have ga:=hg.size;have h4:=h3.I ha;have hO:=((Y4 a.st tg none).1 h6).1;have hP:=((Y4 a.st wi none).1 h7).1;refine Qe<|KT (α:=PhZ) (sW w4) [oz 0,oz 1,oz 3,oz 4] (λ_=>[]) [2,5,6,7] [oA 8,oA 9] [(15,16),(45,45),(48,48)] (phP ↑w4 n tg wi)
   (λz=>[(45,.slice (some ⟨z.bi,0,none⟩) n n),(48,.slice (some ⟨z.bt,0,none⟩) n n),(15,.pointer (some ⟨z.b15,0,none⟩)),(16,.pointer (some ⟨z.b16,0,none⟩))])
   (λz w'=>QK ↑w' z.bi 4 ((flg n wi).map Value.bool)/\QK ↑w' z.bt 4 ((flg n tg).map Value.bool)/\QK ↑w' z.b15 301 [nS]/\QK ↑w' z.b16 301 [nS]/\(z.b15≠z.b16/\z.bi≠z.b15/\z.bi≠z.b16/\z.bt≠z.b15/\z.bt≠z.b16)/\↑w4<=z.b15/\↑w4<=z.b16)
   mixed oh oc (O3.X _ _) (λ_ _ h1 h2=>h1.D h2) QkU ?_ ?_
  ·rintro g w' ⟨⟨bi,e1,_,hq⟩,⟨bt,e2,_,hr⟩,⟨b15,e3,U,hs⟩,⟨b16,e4,hh,hw⟩,_⟩ hj;refine⟨⟨bi,bt,b15,b16⟩,⟨e1,e2,e3,e4,Z⟩,hq,hr,hs,hw,?_,U,hh⟩;have d1:=hj 6 od 7 od og;have d2:=hj 2 od 6 od og;have d3:=hj 2 od 7 od og;have d4:=hj 5 od 6 od og;have d5:=hj 5 od 7 od og;rw[e3,e4]at d1;rw[e1,e3]at d2;rw[e1,e4]at d3;rw[e2,e3]at d4;rw[e2,e4]at d5;simp only[ow,oF,forall_eq]at d1 d2 d3 d4 d5;exact⟨d1,d2,d3,d4,d5⟩
  refine pq (λ_ E=>Zb (h4.I E) O O)<|p Qx<|pq (λ_ E=>Zb (h4.I E) O O)<|p Qx<|pe ⟨⟨?_,?_,?_,?_,Z⟩,?_⟩
  ·intro g w' E _;refine xg<|(QbW ((hi.I hg).I E) hn hz hP).S ?_;rintro r5 w5 ⟨I,b,rfl,hb,G⟩;exact⟨I,⟨b,O,Lx E.size hb,G⟩,λc S=>by rw[Lb.1 (show c∈[b] from S)];exact⟨hb,G.lt⟩⟩
  ·intro g w' E _;refine xg<|(QbW ((ht.I hg).I E) hn hz hO).S ?_;rintro r5 w5 ⟨I,b,rfl,hb,G⟩;exact⟨I,⟨b,O,Lx E.size hb,G⟩,λc S=>by rw[Lb.1 (show c∈[b] from S)];exact⟨hb,G.lt⟩⟩
  ·intro g w' E _;exact YN (us:=[nS]) O λb w5 I hb G=>⟨I,⟨b,O,Lx E.size hb,G⟩,λc S=>by rw[Lb.1 (show c∈[b] from S)];exact⟨hb,G.lt⟩⟩
  ·intro g w' E _;exact YN (us:=[nS]) O λb w5 I hb G=>⟨I,⟨b,O,Lx E.size hb,G⟩,λc S=>by rw[Lb.1 (show c∈[b] from S)];exact⟨hb,G.lt⟩⟩
  rintro⟨bi,bt,b15,b16⟩ g w5 h5 ⟨hq,hr,hs,hw,hQ,U,hh⟩;simp only[]at hq hr hs hw hQ U hh;refine pk<|Qv (u:=sL bi n n) hs O O od rfl λw6 V hR=>⟨h5.Q V U,?_⟩;refine pk<|Qv (u:=sL bt n n) (hw.J V (by simp;omega)) O O od rfl λw7 hm hS=>⟨(h5.Q V U).Q hm hh,pe ?_⟩;have hy:sW w4 w7:=(h5.Q V U).Q hm hh;have hI:=hR.J hm (by simp;omega);have hJ:=(hq.J V (by simp;omega)).J hm (by simp;omega);have hT:=(hr.J V (by simp;omega)).J hm (by simp;omega);have gb:=hy.size;have hU:((flg n wi).map Value.bool)[0+from0*1]?=some (.bool true):=by
   have e1:=zJ (n:=n) (l:=wi) (x:=(from0:Int)) oa oa;rw[OV hM]at e1;exact e1
  refine Qe<|Qc<|ZB hI O O<|Qa<|x (QE (i:=from0) O O hf)<|ZB hJ O hU<|x (Zj O)<|xe<|Zz O<|Qf<|Qc<|Q3 (h4.I hy) O O<|Qw<|(QbG (hH.I hy) hn hz (λe T=>⟨(J.ed e T).1,(J.ed e T).2.1⟩)).S ?_;rintro r8 w8 ⟨Y,bF,rfl,gc,hV⟩;have hK:=hy.D Y;have ge:=Y.size;refine Qa<|x (Zk (l:=[]) (l':=[_]))<|x (Zk (l:=[]) (l':=[_]))<|Qo<|xg <|
   (QkX (wt:=λs=>decide (s∈tg)) (pm:=λe=>decide (e.2.2∈wi)) (cw:=[sP b16]) (cp:=[sP b15]) (gw:=200) (gp:=201) (hH.I hK) hn oa (λe T=>oo (J.ed e T).2.2.2) J.eds hV hf
    (λs w' h0 h1 hp=>QjX ((hS.I Y).I hp) ((hT.I Y).I hp) h0 h1) (λe w' T hp=>QjW ((hI.I Y).I hp) ((hJ.I Y).I hp) (oo (J.ed e T).2.2.2) (oo (J.ed e T).2.2.2))).S ?_
  rintro r9 w9 ⟨hW,v,rfl,hv⟩;refine Qa<|QQ O O<|QQ O O<|x Qd<|Qb<|Ql<|Qa<|x Qd<|x Qd<|Qb<|Qk ⟨[_,_,_],ox,hg.D (hK.D hW),v,O,Q9 hv oa⟩
 refine Qf ?_;have hX:k<2:=by have gg:(k:Int)<2:=hG;omega
 have hY:∃u l,[vt,vi][k]?=some u/\Qu [] ↑w u l/\JO a.st none l=0:=by
  rcases k with _|k
  ·exact⟨vt,tg,O,ht,h6⟩
  have:k=0:=oa
  subst this;exact⟨vi,wi,O,hi,h7⟩
 refine Exists.elim hY λu hu=>Exists.elim hu λl hl=>?_;refine Qe<|Qn<|Qc<|x (Qbx (i:=k) (cs:=[vt,vi]) O O hX hl.1)<|Qb<|Qc<|Q3 (h3.I ha) O O<|Qa<|Qw<|(z8 (va:=va) (vm:=vm) (ve:=ve) (a:=a) ((hl.2.1.I hD).I ha)).S ?_;rintro r5 w5 ⟨rfl,I⟩;refine Qb<|Ql<|ZL O O<|xe<|Zh rfl (λhL=>OU hl.2.2 hL) (λhL=>?_);refine Qf<|Qr<|QB O O<|Qa<|xe ?_;exact⟨k+1,oa,La,oa,ha.D I⟩
theorem QkL [hm:Mp P t kt et (sS 0)][hk:jI P kt Yl]{x:O1}{b:Nat}{s:QD}{q v:Int}(h:ZO Yl ↑w b (Kt [] s.ed))
  (E:s.ed.Pairwise λx y=>x.1<y.1\/(x.1=y.1/\x.2.1<y.2.1)) (hx:ev f x=.map (some b)) (G:ev f y=Yl (q,v)):
  (execOp (ev f) ⟨d,.lookup t x y true,ty,pS,af,gd⟩).run P w=.ok (.value (.tuple #[sS ((xh s.ed q v).getD 0),.bool (decide ((xh s.ed q v).isSome=true))])) w:=by
 rw[KE h hx G,UQ s.ed [] q v E];cases xh s.ed q v <;> rfl
def Xh (k:Nat):LI:=(oJ k).map λi:Nat=>(i:Int)
theorem zo (k:Nat):(Xh k).length=k:=by simp[Xh]
theorem y9 (k:Nat):Xh (k+1)=Xh k++[(k:Int)]:=by unfold Xh;rw[Nb,Lv];rfl
theorem zn (k:Nat)(x:Int):x∈Xh k↔0<=x/\x<(k:Int):=by
 unfold Xh;simp only[Ow,List.mem_range];constructor
 ·rintro⟨i,hi,rfl⟩;omega
 intro h;exact⟨x.toNat,oa,oa⟩
theorem Qh7 (k:Nat):Yw (Xh k):=by
 induction k with
 | zero=>exact List.Pairwise.nil
 | succ k ih =>
  rw[y9];refine Me.2 ⟨ih,M2 _ _,λx hx y E=>?_⟩;have:=(zn k x).1 hx;simp at E;omega
theorem QaM {n:Int}(E:∀x∈l,0<=x/\x<n)(G:Yw l):JO n none l=0:=(Y4 n l none).2 ⟨E,G,λy I=>by cases I⟩
structure Vs where
 x:Int
 y:Int
 b:Int
 v:Int
def Vs.ky (p:Vs):Int×Int:=(p.x,p.y)
def jg (a b:QD)(i:Nat)(p:Vs)(v:Int):Vs:=⟨xd a.ed p.x v,xd b.ed p.y v,(i:Int),v⟩
def zr (a:QD)(kd x:Int):Bool:=decide (0<=x) && (decide (kd=1) || decide (x∈a.mr))
def lgC (a b:QD)(kd:Int)(p:Vs):Bool:=!(zr a kd p.x == zr b kd p.y)
def lgA (a b:QD)(i:Nat)(p:Vs)(V:List Vs)(v:Int):List Vs:=if(jg a b i p v).ky≠(-1,-1)/\(jg a b i p v).ky∉V.map Vs.ky then V++[jg a b i p v]else V
def vs0:Vs:=⟨-1,-1,-1,0⟩
def gV (V:List Vs)(k:Nat):Vs:=V.getD k vs0
def lgW (V:List Vs):Nat->Nat->LI
 | 0,_=>[]
 | f+1,k=>if 0<=(gV V k).b then(gV V k).v::lgW V f (gV V k).b.toNat else[]
def lgL (a b:QD)(kd:Int)(al:LI):Nat->Nat->List Vs->Option (LI)
 | 0,_,_=>none
 | f+1,i,V=>if i<V.length then(if lgC a b kd (gV V i)=true then some (lgW V (i+1) i).reverse else lgL a b kd al f (i+1) (al.foldl (lgA a b i (gV V i)) V)) else none
def fst (a:QD):Int:=if a.st=0 then -1 else 0
def lgq (a b:QD)(kd:Int):Option (LI):=lgL a b kd (mrg (· || ·) a.al b.al) ((a.st.toNat+1)*(b.st.toNat+1)+1) 0 [⟨fst a,fst b,-1,0⟩]
def lgE (a b:QD)(kd:Int):Int:=if XX a≠0 then XX a else if XX b≠0 then XX b else if kd≠1/\kd≠2 then 11 else 0
def cdA (c:Z3):QD:=jO (tgA c) [] (unc c.ev)
def ccA (c:Z3):QD:=JS [tgA c,cdA c]
def own (c:Z3)(k:Bool):QD:=if k=true then ccA c else tgA c
abbrev Zf (p:Int×Int):LV:=[sS p.1,sS p.2]
theorem XR (p:Int×Int):(Zf p).length=2:=rfl
abbrev P2s (L:LN)(H:xz)(v:O0)(l:xu):Prop:=Zs L H v l.length 2 (l.flatMap Zf)
abbrev Zr (e:J9):LV:=[.string e.nm,.bool e.co,.bool e.ob,.bool e.fo,sS e.fl]
theorem QaD (e:J9):(Zr e).length=5:=rfl
abbrev yr (s:ByteArray):Prop:=s.size<=9223372036854775807
structure UY (L:LN)(H:xz)(v:O0)(l:List J9):Prop where
 arr:Zs L H v l.length 5 (l.flatMap Zr)
 nm:∀e∈l,yr e.nm
theorem UY.I {L:LN}{w w':OZ}{v:O0}{l:List J9}(h:UY L ↑w v l)(E:sW w w'):UY L ↑w' v l:=⟨h.arr.I E,h.nm⟩
theorem UY.st {L:LN}{w w':OZ}{v:O0}{l:List J9}(h:UY L ↑w v l)(E:O3 L w w'):UY L ↑w' v l:=⟨h.arr.st E,h.nm⟩
theorem UY.up {L L':LN}{H:xz}{v:O0}{l:List J9}(h:UY L H v l)(E:∀b∈L',b∈L\/H.size<=b):UY L' H v l:=⟨h.arr.up E,h.nm⟩
structure IV where
 nm:ByteArray
 p:AV
def IV.it (q:IV):Jp:=⟨q.nm,q.p.a⟩
abbrev Zm (q:IV):LV:=[.string q.nm,q.p.va,sS q.p.a.st,q.p.vm,q.p.ve]
theorem UL (q:IV):(Zm q).length=5:=rfl
structure KY (L:LN)(H:xz)(v:O0)(qs:List IV):Prop where
 arr:Zs L H v qs.length 5 (qs.flatMap Zm)
 each:∀q∈qs,Zp L H q.p.va q.p.vm q.p.ve q.p.a
 nm:∀q∈qs,yr q.nm
structure XV where
 nm:ByteArray
 v:O0
 ls:xu
def XV.x (q:XV):Exc:=⟨q.nm,q.ls⟩
abbrev ZV (q:XV):LV:=[.string q.nm,q.v]
theorem qR (q:XV):(ZV q).length=2:=rfl
structure yA (L:LN)(H:xz)(v:O0)(qs:List XV):Prop where
 arr:Zs L H v qs.length 2 (qs.flatMap ZV)
 each:∀q∈qs,P2s L H q.v q.ls
 nm:∀q∈qs,yr q.nm
structure KV where
 nm:ByteArray
 v:O0
 ts:xu
 bd:Int
def KV.k (q:KV):xK:=⟨q.nm,q.ts,q.bd⟩
abbrev Yf (q:KV):LV:=[.string q.nm,q.v,sS q.bd]
theorem zw (q:KV):(Yf q).length=3:=rfl
structure ym (L:LN)(H:xz)(v:O0)(qs:List KV):Prop where
 arr:Zs L H v qs.length 3 (qs.flatMap Yf)
 each:∀q∈qs,P2s L H q.v q.ts
 nm:∀q∈qs,yr q.nm
theorem KY.I {L:LN}{w w':OZ}{v:O0}{qs:List IV}(h:KY L ↑w v qs)(E:sW w w'):KY L ↑w' v qs:=⟨h.arr.I E,λq G=>(h.each q G).I E,h.nm⟩
theorem KY.st {L:LN}{w w':OZ}{v:O0}{qs:List IV}(h:KY L ↑w v qs)(E:O3 L w w'):KY L ↑w' v qs:=⟨h.arr.st E,λq G=>(h.each q G).st E,h.nm⟩
theorem KY.up {L L':LN}{H:xz}{v:O0}{qs:List IV}(h:KY L H v qs)(E:∀b∈L',b∈L\/H.size<=b):KY L' H v qs:=⟨h.arr.up E,λq G=>(h.each q G).up E,h.nm⟩
theorem yA.I {L:LN}{w w':OZ}{v:O0}{qs:List XV}(h:yA L ↑w v qs)(E:sW w w'):yA L ↑w' v qs:=⟨h.arr.I E,λq G=>(h.each q G).I E,h.nm⟩
theorem yA.st {L:LN}{w w':OZ}{v:O0}{qs:List XV}(h:yA L ↑w v qs)(E:O3 L w w'):yA L ↑w' v qs:=⟨h.arr.st E,λq G=>(h.each q G).st E,h.nm⟩
theorem yA.up {L L':LN}{H:xz}{v:O0}{qs:List XV}(h:yA L H v qs)(E:∀b∈L',b∈L\/H.size<=b):yA L' H v qs:=⟨h.arr.up E,λq G=>(h.each q G).up E,h.nm⟩
theorem ym.I {L:LN}{w w':OZ}{v:O0}{qs:List KV}(h:ym L ↑w v qs)(E:sW w w'):ym L ↑w' v qs:=⟨h.arr.I E,λq G=>(h.each q G).I E,h.nm⟩
theorem ym.st {L:LN}{w w':OZ}{v:O0}{qs:List KV}(h:ym L ↑w v qs)(E:O3 L w w'):ym L ↑w' v qs:=⟨h.arr.st E,λq G=>(h.each q G).st E,h.nm⟩
theorem ym.up {L L':LN}{H:xz}{v:O0}{qs:List KV}(h:ym L H v qs)(E:∀b∈L',b∈L\/H.size<=b):ym L' H v qs:=⟨h.arr.up E,λq G=>(h.each q G).up E,h.nm⟩
structure CL where
 ve:O0
 vc:O0
 vr:O0
 vx:O0
 vk:O0
 ev:List J9
 co:List IV
 rq:List IV
 ex:List XV
 cs:List KV
def CL.C (c:CL):Z3:=⟨c.ev,c.co.map (·.it),c.rq.map (·.it),c.ex.map (·.x),c.cs.map (·.k)⟩
abbrev CL.cells (c:CL):LV:=[c.ve,c.vc,c.vr,c.vx,c.vk]
abbrev CL.val (c:CL):O0:=.agg #[c.ve,c.vc,c.vr,c.vx,c.vk]
structure Z0 (L:LN)(H:xz)(c:CL):Prop where
 ev:UY L H c.ve c.ev
 co:KY L H c.vc c.co
 rq:KY L H c.vr c.rq
 ex:yA L H c.vx c.ex
 cs:ym L H c.vk c.cs
theorem Z0.I {L:LN}{w w':OZ}{c:CL}(h:Z0 L ↑w c)(E:sW w w'):Z0 L ↑w' c:=⟨h.ev.I E,h.co.I E,h.rq.I E,h.ex.I E,h.cs.I E⟩
theorem Z0.st {L:LN}{w w':OZ}{c:CL}(h:Z0 L ↑w c)(E:O3 L w w'):Z0 L ↑w' c:=⟨h.ev.st E,h.co.st E,h.rq.st E,h.ex.st E,h.cs.st E⟩
theorem Z0.up {L L':LN}{H:xz}{c:CL}(h:Z0 L H c)(E:∀b∈L',b∈L\/H.size<=b):Z0 L' H c:=⟨h.ev.up E,h.co.up E,h.rq.up E,h.ex.up E,h.cs.up E⟩
theorem Z0.ones {H:xz}{c:CL}(h:Z0 L H c):ZK c.cells:=⟨h.ev.arr.one,h.co.arr.one,h.rq.arr.one,h.ex.arr.one,h.cs.arr.one,Z⟩
def QmB (N:Nat)(H:xz)(v:O0)(k:Z3):Prop:=∃c:CL,v=c.val/\c.C=k/\∀L:LN,(∀b∈L,b<N)->Z0 L H c
theorem UX (s:ByteArray)(ha:yr s)(w:OZ):QS sV 172 [.string s] w λr w'=>r=.bool (Y9 s)/\w'=w:=by
 unfold yr at ha;refine Zl func172 ?_;refine Qc<|Qb<|Qe<|Ql<|x (Qc3 O)<|Qa<|xe<|QX (α:=Nat) [(2,5),(8,46)] (λz=>[(8,sS z)]) (λz w'=>w'=w/\z<=s.size/\(oN z (s.size - z)).all (nmQ s)=(oN 0 s.size).all (nmQ s)) (λz=>s.size - z) 0 La ⟨O,Lo _,by rw[OL]⟩ ?_;rintro k g w1 ⟨rfl,hk,E⟩;refine Zi rfl O (λG=>?_) (λG=>?_)
 ·refine Qt ?_;have he:s.size<=k:=by have hf:¬(k:Int)<(s.size:Int):=G;omega
  rw[QkI he]at E;have I:Y9 s=decide (0<s.size/\s.size<=32):=by unfold Y9;rw[<-E];simp
  rw[I];refine QW (α:=Bool) [(2,2),(47,54)] (λz=>[(2,.bool z)]) (λz w'=>w'=w1/\z=decide (0<s.size/\s.size<=32)) oh ?_ ?_
  ·refine Qr<|Qa<|x (Qc3 O)<|xb (Z5 O O) (λhg=>?_) (λhg=>?_)
   ·refine Qa<|Qa<|x (Qc3 O)<|x (XY O O)<|Qz O<|Qb<|⟨_,La,O,by first|exact bT oa|exact bF oa|exact bD oa⟩
   refine Qa<|Zw<|Qz O<|Qb<|⟨_,La,O,by first|exact bT oa|exact bF oa|exact bD oa⟩
  rintro z g w2 ⟨rfl,rfl⟩;exact Qk ⟨[_],La,O,O⟩
 have J:k<s.size:=by have hf:(k:Int)<(s.size:Int):=G;omega
 rw[Qhh J,MG]at E;refine Qf<|Qe<|Qn<|Ql<|Qb<|Ql<|Qa<|x (Qht (i:=k) O O J)<|Qb ?_;have S:nmQ s k=decide (nmP k (chr s k)):=rfl;refine Zg (chr s k) λc T=>?_;rw[T]at S;refine QW (α:=Bool) [(5,5),(14,31)] (λz=>[(5,.bool z)]) (λz w'=>w'=w1/\z=decide ((97<=c/\c<=122)\/(65<=c/\c<=90)\/c=95)) oh ?_ ?_
 ·rw[<-T];refine Qr<|Qa<|xb (Yh O O) (λhh=>?_) (λhh=>?_)
  ·refine Qa<|Qa<|xb (XY O O) (λhj=>?_) (λhj=>?_)
   ·refine Qz O<|Qa<|Zw<|Zw<|Qz O<|Qa<|YG<|x (Vr O) <|
     Qb<|⟨_,La,O,by first|exact bT oa|exact bF oa|exact bD oa⟩
   refine Qz O<|Qa<|Qa<|xb (Yh O O) (λU=>?_) (λU=>?_)
   ·refine Qa<|Qa<|xb (XY O O) (λV=>?_) (λV=>?_)
    ·refine Qz O<|Qz O<|Qa<|YG<|Qz O<|Qb<|⟨_,La,O,by first|exact bT oa|exact bF oa|exact bD oa⟩
    refine Qz O<|Qz O<|Qa<|Qa<|x (Zd O O)<|Qz O<|Qb<|⟨_,La,O,by first|exact bT oa|exact bF oa|exact bD oa⟩
   refine Qa<|YG<|Qz O<|Qz O<|Qa<|Qa<|x (Zd O O)<|Qz O<|x Qd <|
    xe ?_
   exact⟨_,La,O,by first|exact bT oa|exact bF oa|exact bD oa⟩
  refine Qa<|YG<|Qz O<|Qa<|Qa<|xb (Yh O O) (λU=>?_) (λU=>?_)
  ·refine Qa<|Qa<|xb (XY O O) (λV=>?_) (λV=>?_)
   ·refine Qz O<|Qz O<|Qa<|YG<|Qz O<|Qb<|⟨_,La,O,by first|exact bT oa|exact bF oa|exact bD oa⟩
   refine Qz O<|Qz O<|Qa<|Qa<|x (Zd O O)<|Qz O<|Qb<|⟨_,La,O,by first|exact bT oa|exact bF oa|exact bD oa⟩
  refine Qa<|YG<|Qz O<|Qz O<|Qa<|Qa<|x (Zd O O)<|Qz O<|x Qd <|
   xe ?_
  exact⟨_,La,O,by first|exact bT oa|exact bF oa|exact bD oa⟩
 rintro z g w4 ⟨rfl,rfl⟩;refine QW (α:=Bool) [(32,45)] (λz=>[(45,.bool z)]) (λz w'=>w'=w4/\z=decide (¬nmP k c)) oh ?_ ?_
 ·unfold nmP;rw[<-T];refine Qr<|Qa<|xb (ze O) (λhm=>?_) (λhm=>?_)
  ·refine Qa<|Qa<|xb (Zd O O) (λhn=>?_) (λhn=>?_)
   ·refine Qa<|YG<|Qz O<|Qa<|YG<|Qz O<|Qz O<|xe ?_;exact⟨_,La,O,by first|exact bT oa|exact bF oa|exact bD oa⟩
   refine Qa<|Qa<|xb (Ys O O) (λho=>?_) (λho=>?_)
   ·refine Qz O<|Qa<|YG<|Qz O<|Qz O<|xe ?_;exact⟨_,La,O,by first|exact bT oa|exact bF oa|exact bD oa⟩
   refine Qz O<|Qa<|Qa<|x (Z5 O O)<|Qz O<|Qz O<|xe ?_;exact⟨_,La,O,by first|exact bT oa|exact bF oa|exact bD oa⟩
  refine Qa<|Zw<|Zw<|Zw<|Jr<|Qz O<|xe ?_;exact⟨_,La,O,by first|exact bT oa|exact bF oa|exact bD oa⟩
 rintro z g w5 ⟨rfl,rfl⟩;refine Zh rfl (λY=>?_) (λY=>?_)
 ·refine Qc<|Qb ?_;have I:Y9 s=false:=by
   unfold Y9;rw[<-E,S,OX Y];rfl
  exact Qk ⟨[_],La,by rw[I];rfl,O⟩
 refine Qf ?_;have hp:nmP k c:=Lt.1 Y;refine Qr<|QB O O<|Qa<|xe ?_;rw[S,OV hp,Nx]at E;exact⟨k+1,oa,La,O,J,E⟩
def nmM (l:List ByteArray):List (ByteArray×O0):=l.map λs=>(s,.bool true)
theorem Qld (l:List ByteArray)(s:ByteArray):O8 (nmM l) s=if s∈l then some (.bool true) else none:=by
 induction l with
 | nil=>rfl
 | cons a l ih =>
  show(if a=s then some (Value.bool true) else O8 (nmM l) s)=_
  rw[ih];by_cases h:a=s
  ·subst h;simp
  have:s≠a:=λe=>h e.symm;simp[h,this]
theorem QeA {l:List ByteArray}{s:ByteArray}(h:s∉l):O9 (nmM l) s (.bool true)=nmM (l++[s]):=by
 induction l with
 | nil=>rfl
 | cons a l ih =>
  have E:a≠s:=λe=>h (by subst e;exact Ll);show(if a=s then(a,Value.bool true)::nmM l else(a,Value.bool true)::O9 (nmM l) s (.bool true))=_
  rw[OR E,ih (λG=>h (Lj _ G))];rfl
theorem Qbw [hm:Mp P t kt et (.bool false)][hk:jI P kt Xl]{x:O1}{b:Nat}{l:List ByteArray}{s:ByteArray}(h:ZO Xl ↑w b (nmM l))(hx:ev f x=.map (some b))(E:ev f y=.string s):
  (execOp (ev f) ⟨d,.lookup t x y false,ty,pS,af,gd⟩).run P w=.ok (.value (.bool (decide (s∈l)))) w:=by
 rw[X8 h hx E,Qld];by_cases G:s∈l <;> simp[G]
theorem QdG {s:List ByteArray}{l:List J9}{k:Nat}(h:k<l.length):U5 s (l.drop k)=if XZ s (l[k]'h)≠0 then XZ s (l[k]'h) else U5 (s++[(l[k]'h).nm]) (l.drop (k+1)):=by
 rw[QY h];rfl
theorem zO {v:O0}{l:List J9}(h:UY L ↑w v l):QS sV 110 [v] w λr w'=>r=sS (Xu l)/\sW w w':=by
 have h4:=h.arr.le;refine Zl func110 ?_;refine Qc<|Qb<|Qe<|Ql<|QG h.arr O<|x (Z5 O O)<|xe<|Zh rfl (λh8=>?_) (λh8=>?_)
 ·refine Qc<|Qb<|Qk ⟨[_],La,by unfold Xu;rw[OS (by have h9:(32:Int)<(l.length:Int):=h8;omega)];rfl,O3.Y _ _⟩
 have hck:Xu l=U5 [] l:=by unfold Xu;rw[OR (by have h9:¬(32:Int)<(l.length:Int):=h8;omega)]
 rw[hck];refine Qf<|Qc<|Qo<|ZU Xl λb9 w1 hj hq hr=>Qb<|Qe<|Ql<|QG (h.arr.I hj) O<|Qa<|xe<|QX (α:=Nat×List ByteArray) [(2,2),(5,5),(12,50)] (λz=>[(12,sS z.1)]) (λz w'=>z.1<=l.length/\sW w w'/\ZO Xl ↑w' b9 (nmM z.2)/\U5 z.2 (l.drop z.1)=U5 [] l) (λz=>l.length - z.1) (0,[]) La
  ⟨Lo _,hj,hr,O⟩ ?_
 rintro⟨k,sn⟩ g w2 ⟨hk,J,hs,G⟩;refine Zi rfl O (λhc=>?_) (λhc=>?_)
 ·refine Qt ?_;have ht:l.length<=k:=by have hu:¬(k:Int)<(l.length:Int):=hc;omega
  rw[Lr ht]at G;refine Qc<|Qb<|Qk ⟨[_],La,by rw[<-G];rfl,J⟩
 have V:k<l.length:=by have hu:(k:Int)<(l.length:Int):=hc;omega
 rw[QdG V]at G;have hm:=h.nm _ (Lk V);refine Qf<|Qe<|Qn<|Qc<|O6 QaD (h.arr.I J) O O V λh5 ho=>?_;refine Zg (l[k]'V) λe he=>?_;rw[he]at ho G hm;refine x (QF ho O O)<|QT [.string .empty,.bool false,.bool false,.bool false,sS 0] λb5 w3 hv hw I=>Q5 (Zr e) I ⟨O,O,O,O,O,Z⟩ λw4 hy I =>
  xe ?_
 have S:sW w2 w4:=hv.Q hy hw;have hp:=hs.I S;refine Qe<|Qn<|Qc<|Qs O I O O<|Qw<|(UX e.nm hm _).S ?_;rintro r5 w5 ⟨rfl,rfl⟩;refine x (Zj O)<|Qb<|Q0 O (λhf=>?_) (λhf=>?_)
 ·have T:Y9 e.nm=false:=by simpa using hf
  have E:XZ sn e=7:=by unfold XZ;rw[OS T]
  refine Qc<|Qb<|Qk ⟨[_],La,by rw[<-G,E];rfl,J.D S⟩
 have T:¬Y9 e.nm=false:=by simpa using hf
 refine Ql<|Qs O I O O<|x (Qbw hp O O)<|Qb<|Zh O (λU=>?_) (λU=>?_)
 ·have E:XZ sn e=8:=by unfold XZ;rw[OR T,OS U]
  refine Qc<|Qb<|Qk ⟨[_],La,by rw[<-G,E];rfl,J.D S⟩
 refine QW (α:=Bool) [(26,34)] (λz=>[(26,.bool z)]) (λz w'=>w'=w5/\z=decide (e.fl<0\/4<e.fl)) oh ?_ ?_
 ·refine Qr<|Qs O I O O<|xb (Ys O O) (λhz=>?_) (λhz=>?_)
  ·refine Qa<|Zw<|Qz O<|Qb<|⟨_,La,O,by first|exact bT oa|exact bF oa|exact bD oa⟩
  refine Qa<|Qs O I O O<|x (Z5 O O)<|Qz O<|Qb<|⟨_,La,O,by first|exact bT oa|exact bF oa|exact bD oa⟩
 rintro z g w6 ⟨rfl,rfl⟩;refine Zh rfl (λY=>?_) (λY=>?_)
 ·have E:XZ sn e=2:=by unfold XZ;rw[OR T,OR U,OS Y]
  refine Qc<|Qb<|Qk ⟨[_],La,by rw[<-G,E];rfl,J.D S⟩
 refine QW (α:=Bool) [(35,46)] (λz=>[(35,.bool z)]) (λz w'=>w'=w6/\z=decide (e.fl≠0/\(e.co || e.ob)=true)) oh ?_ ?_
 ·refine Qr<|Qs O I O O<|xb (XI O O) (λha=>?_) (λha=>?_)
  ·refine Qa<|Q7 O<|xB (Qj I O O) (λhg=>?_) (λhg=>?_)
   ·refine Qa<|YG<|Qz O<|Qz O<|Qb<|⟨_,La,O,by rw[hg,OV ⟨ha,od⟩]⟩
   refine Qa<|Qs O I O O<|Qz O<|Qz O<|Qb<|⟨_,La,O,?_⟩;show e.ob=_;rw[hg];cases e.ob <;> simp[show ¬e.fl=0 from ha]
  refine Qa<|Zw<|Zw<|Qz O<|Qb<|⟨_,La,O,bF (λE=>ha E.1)⟩
 rintro z g w7 ⟨rfl,rfl⟩;refine Zh rfl (λhh=>?_) (λhh=>?_)
 ·have E:XZ sn e=13:=by unfold XZ;rw[OR T,OR U,OR Y,OS hh]
  refine Qc<|Qb<|Qk ⟨[_],La,by rw[<-G,E];rfl,J.D S⟩
 have E:XZ sn e=0:=by unfold XZ;rw[OR T,OR U,OR Y,OR hh]
 rw[E,OR (λh=>h rfl)]at G;refine Qf<|Qr<|Qa<|Qs O I O O<|Qo<|YH (k:=e.nm) hp O O λw8 h0 h2=>xe ?_;refine Qr<|QB O O<|Qa<|xe ?_;have h3:ZO Xl ↑w8 b9 (nmM (sn++[e.nm])):=by rw[<-QeA U];exact h2
 exact⟨(k+1,sn++[e.nm]),oe,La,V,(J.D S).Q h0 hq,h3,G⟩
theorem QbN {α:Type}(q:α->Bool)(x:α):∀(l:List α) (i:Nat),ixs q i (l++[x])=ixs q i l++if q x=true then[((i+l.length:Nat):Int)]else[]
 | [],i=>by simp[ixs]
 | a::l,i=>by
  simp only[oZ,ixs,(QbN q x l (i+1)),oQ];rw[show i+1+l.length=i+(l.length+1) by omega];split <;> simp
theorem qI {α:Type}(q:α->Bool):∀(l:List α) (i:Nat),(ixs q i l).length<=l.length
 | [],i=>by simp[ixs]
 | a::l,i=>by
  have ih:=qI q l (i+1);unfold ixs;split <;> simp <;> omega
theorem Qiw (q:α->Bool){l:List α}{k:Nat}(h:k<l.length):ixs q 0 (l.take (k+1))=ixs q 0 (l.take k)++if q (l[k]'h)=true then[(k:Int)]else[]:=by
 rw[Lh h,QbN];simp[Nat.min_eq_left (Nat.le_of_lt h)]
theorem Qgd [Fu sV g fn]{q:J9->Bool}(hq:∀(e:J9) (w:OZ),QS sV g [sT (Zr e)] w λr w'=>r=.bool (q e)/\sW w w'){v:O0}{l:List J9}(h:UY L ↑w v l):
  QS sV 195 [v,.func (.func g) #[] #[]] w λr w'=>sW w w'/\Qh 3 ↑w w' r (ixs q 0 l):=by
 have hu:=h.arr.le;refine Zl func195 ?_;refine Qc<|Qb<|Qc<|Qb<|Qe<|Ql<|QG h.arr O<|Qa<|xe<|QX (α:=Nat×O0) [(5,7),(10,22)] (λz=>[(5,z.2),(10,sS z.1)]) (λz w'=>z.1<=l.length/\sW w w'/\Qh 3 ↑w w' z.2 (ixs q 0 (l.take z.1))) (λz=>l.length - z.1) (0,nS) ov
  ⟨Lo _,O3.Y _ _,QL _ _ _ _⟩ ?_
 rintro⟨k,vo⟩ g w1 ⟨hk,E,J⟩;simp only[]at hk J;refine Zi rfl O (λT=>?_) (λT=>?_)
 ·refine Qt ?_;have hf:l.length<=k:=by have hg:¬(k:Int)<(l.length:Int):=T;omega
  rw[Lq hf]at J;refine Ql<|Qb<|Qk ⟨[_],La,E,J⟩
 have G:k<l.length:=by have hg:(k:Int)<(l.length:Int):=T;omega
 have I:=Qiw q G;have hv:=qI q (l.take k) 0;have hw:(l.take k).length=k:=by simp;omega
 refine Qf<|Qe<|Qn<|Ql<|O6 QaD (h.arr.I E) O O G λhy hc=>?_;refine Zg (l[k]'G) λe he=>?_;rw[he]at hc I;refine x (QF hc O O)<|QT [.string .empty,.bool false,.bool false,.bool false,sS 0] λb7 w2 hh hj U=>x Qd <|
  Q5 (Zr e) U ⟨O,O,O,O,O,Z⟩ λw3 hm U=>xe ?_
 have hn:sW w1 w3:=hh.Q hm hj;refine Ql<|Q3 U O O<|Qo<|xc (first:=[]) (capt:=[]) O<|(hq e w3).S ?_;rintro r4 w4 ⟨rfl,ho⟩;have S:=hn.D ho;have V:=Qm J S;have hz:=(E.D S).size;refine xe<|Q0 rfl (λY=>?_) (λY=>?_)
 ·rw[OS Y]at I;refine Qr<|Qa<|Qa<|Qo<|Q2 [[sS k]] λh0 w5 ha h1 hp=>?_;have hr:=Qm V ha;have h2:=ha.size;refine Qo<|QZ (news:=[sS k]) (L:=[]) hr O O O (hp.at od) om oa oa λv6 w6 hs ht h3 =>
   Qb<|Qr<|QB O O<|Qa<|xe ?_
  refine⟨(k+1,v6),oe,ov,G,((E.D S).D ha).O ht (λb hb=>.inr ((Qi V) b hb).1),?_⟩;simp only[];rw[I];exact Qh.snoc hs
 rw[OR (by rw[Y];decide),LF]at I;refine Qf<|Qr<|QB O O<|Qa<|xe ?_;exact⟨(k+1,vo),oe,ov,G,E.D S,by simp only[];rw[I];exact V⟩
theorem QdQ (e:J9)(w:OZ):QS sV 190 [sT (Zr e)] w λr w'=>r=.bool (!e.co)/\sW w w':=by
 refine Zl func190 ?_;refine Qc<|Zc (Zr e) λI J E S G=>Qb<|Qc<|Qs O G O O<|x (Zj O)<|Qb<|Qk ⟨[_],La,O,E⟩
theorem jG {v:O0}{l:List J9}(h:UY L ↑w v l):QS sV 123 [v,sS 2] w λr w'=>sW w w' /\
  ∃vo,r=.tuple #[vo,sS (Xu l)]/\Qh 3 ↑w w' vo (if Xu l=0 then unc l else[]):=by
 refine Zl func123 ?_;refine Qc<|x Qd<|Qb<|Qe<|Ql<|Qw<|(zO h).S ?_;rintro r1 T ⟨rfl,J⟩;refine Qb<|Ql<|ZL O O<|xe<|Zh rfl (λG=>?_) (λG=>?_)
 ·refine Ql<|x Qd<|Qb<|Qk ⟨[_,_],ov,J,_,O,by rw[OR G];exact QL _ _ _ _⟩
 have S:Xu l=0:=Lt.1 G;refine Qf<|Qc<|Qo<|ZU Xq λb15 w2 U E V=>Qo<|Yo (k:=1) V O O λw3 Y ha=>Qo<|Yo (k:=2) ha O O λw4 hc he =>
  Qo<|Yo (k:=3) he O O λw5 hf hg=>Qo<|Yo (k:=4) hg O O λw6 hh hj=>Qo<|Yo (k:=5) hj O O λw7 hk hm=>Qo<|Yo (k:=6) hm O O λw8 hn ho =>
  Qa<|Qb ?_
 have hp:sW T w8:=(((((U.Q Y E).Q hc E).Q hf E).Q hh E).Q hk E).Q hn E;refine Ql<|Qa<|x (UA (k:=(2:Int)) ho O O O)<|Qa<|QQ O O<|QQ O O<|x Qd<|Qb<|Qe<|Ql<|x (Zj O)<|xe<|Zz rfl<|Qf ?_;have I:=J.D hp;refine Ql<|Qa<|Qw<|(Qgd QdQ (h.I I)).S ?_;rintro r9 w9 ⟨hq,hr⟩;refine x Qd<|Qb<|Qk ⟨[_,_],ov,I.D hq,_,by rw[S];rfl,?_⟩;rw[OS S];exact Q9 hr I.size
theorem QbQ (n:Int)(w:OZ):QS sV 242 [sS n] w λr w'=>r=.bool (grt n)/\w'=w:=by
 refine Zl func242 ?_;refine Qc<|Qb<|QW (α:=Bool) [(2,8)] (λz=>[(2,.bool z)]) (λz w'=>w'=w/\z=grt n) oh ?_ ?_
 ·refine Qr<|Qa<|xb (Ys O O) (λE=>?_) (λE=>?_)
  ·refine Qa<|YG<|Qz O<|Qb<|⟨_,La,O,by unfold grt;rw[OV E];rfl⟩
  refine Qa<|Qa<|x (Z5 O O)<|Qz O<|Qb<|⟨_,La,O,by unfold grt;rw[OX E];rfl⟩
 rintro z g G ⟨rfl,rfl⟩;exact Qk ⟨[_],La,O,O⟩
theorem QdF {sz:LI}{ls:xu}{k:Nat}(h:k<ls.length):Xm sz (pv (ls.map (·.1)) k) (ls.drop k)=if(ls[k]'h).1<0\/(sz.length:Int)<=(ls[k]'h).1 then 2 else if zu (pv (ls.map (·.1)) k) (ls[k]'h).1=true then 5 else if(ls[k]'h).2<0\/O4 sz (ls[k]'h).1.toNat<=(ls[k]'h).2 then 2 else Xm sz (pv (ls.map (·.1)) (k+1)) (ls.drop (k+1)):=by
 rw[QY h,Ke (ou h),MR];rfl
theorem Ui {sz:LI}{ls:xu}{nm:ByteArray}(hS:Qu [] ↑w vs sz)(hl:P2s [] ↑w vl ls):
  QS sV 177 [.agg #[vs,vx,vk],.agg #[.string nm,vl]] w λr w'=>r=sS (JF sz ls)/\sW w w':=by
 have hH:=hl.le;refine Zl func177 ?_;refine Qc<|Zc [vs,vx,vk] λb2 w1 h0 hI V=>Zc [.string nm,vl] λb3 w2 hr hJ Y=>Qb ?_;have G:=h0.D hr
 replace V:=V.I hr;refine Qe<|Qc<|Qs O Y O O<|QG (hl.I G) O<|x (Zd O O)<|xe<|Zh rfl (λha=>?_) (λha=>?_)
 ·refine Qc<|Qb<|Qk ⟨[_],La,by unfold JF;rw[OS (by have h1:(ls.length:Int)=0:=ha;omega)];rfl,G⟩
 have h2:ls.length≠0:=by have h1:¬(ls.length:Int)=0:=ha;omega
 have h3:JF sz ls=Xm sz none ls:=by unfold JF;rw[OR h2]
 rw[h3];refine Qf<|Qe<|Qc<|Qs O Y O O<|QG (hl.I G) O<|Qa<|xe<|QX (α:=Nat) [(4,6),(14,61)] (λz=>[(14,sS z)]) (λz w'=>z<=ls.length/\sW w2 w'/\Xm sz (pv (ls.map (·.1)) z) (ls.drop z)=Xm sz none ls) (λz=>ls.length - z) 0 La
  ⟨Lo _,O3.Y _ _,O⟩ ?_
 rintro k g w3 ⟨hk,S,hck⟩;have hf:=G.D S;have hs:=V.I S;have ht:=hl.I hf;have hu:=hS.I hf;refine Zi rfl O (λhg=>?_) (λhg=>?_)
 ·refine Qt ?_;have h4:ls.length<=k:=by have h5:¬(k:Int)<(ls.length:Int):=hg;omega
  rw[Lr h4]at hck;refine Qc<|Qb<|Qk ⟨[_],La,by rw[<-hck];rfl,hf⟩
 have T:k<ls.length:=by have h5:(k:Int)<(ls.length:Int):=hg;omega
 rw[QdF T]at hck;refine Qf<|Qe<|Qn<|Ql<|O6 XR ht O O T λhK hv=>?_;refine Zg (ls[k]'T) λe he=>?_;rw[he]at hv hck;refine x (QF hv O O)<|QT [sS 0,sS 0] λb6 w4 h6 h7 J=>x Qd<|Q5 (Zf e) J ov λw5 h8 J=>xe ?_;have I:sW w3 w5:=h6.Q h8 h7;have hw:=S.D I;refine Qn<|QW (α:=Bool) [(19,30)] (λz=>[(19,.bool z)]) (λz w'=>w'=w5/\z=decide (e.1<0\/(sz.length:Int)<=e.1)) oh ?_ ?_
 ·refine Qr<|Qs O J O O<|xb (Ys O O) (λh9=>?_) (λh9=>?_)
  ·refine Qa<|Zw<|Zw<|Qz O<|Qb<|⟨_,La,O,by first|exact bT oa|exact bF oa|exact bD oa⟩
  refine Qa<|Qs O J O O<|Qs O (hs.I I) O O<|QG (hu.I I) O<|x (Yh O O) <|
   Qz rfl<|Qb<|⟨_,La,O,by first|exact bT oa|exact bF oa|exact bD oa⟩
 rintro z g w6 ⟨rfl,rfl⟩;refine Zh rfl (λhh=>?_) (λhh=>?_)
 ·rw[OS hh]at hck;refine Qc<|Qb<|Qk ⟨[_],La,by rw[<-hck];rfl,G.D hw⟩
 rw[OR hh]at hck;have hA:e.1=((e.1.toNat:Nat):Int):=oa
 have hB:e.1.toNat<sz.length:=oa
 refine QW (α:=Bool) [(31,45)] (λz=>[(31,.bool z)]) (λz w'=>sW w6 w'/\z=zu (pv (ls.map (·.1)) k) e.1) oh ?_ ?_
 ·refine ZH [] (Y0 0 15 [])<|p Qx<|pb (λ_=>Z5 O O) (λhj=>?_) (λhj=>?_)
  ·have hm:k≠0:=by have hC:(0:Int)<(k:Int):=hj;omega
   have hk1:((k:Int) - 1)=((k - 1:Nat):Int):=oa
   have hn:k - 1<ls.length:=oa
   refine p Qx<|p (QH O)<|pq (λ_ E=>Qj (J.I E) O O)<|p (QH O)<|pq (λ_ E=>Qj (((Y.I S).I I).I E) O O) <|
    p Qx<|p (λ_=>Jg O O ⟨oa,oa⟩)<|Lg.pig (g:=Zf) (i:=k - 1) O XR (ht.I I) O (OT sS hk1) hn λhL hD=>p (λ_=>ZE O) <|
    pq (λ_ E=>Qq ((hD.fld 0 _ O).I E) O)<|p (λ_=>XY O O)<|p (YL O)<|p ZA<|pe ?_
   refine⟨_,La,O3.X _ _,?_⟩;have:pv (ls.map (·.1)) k=some (ls[k - 1]'hn).1:=by simp[pv,hm,hn]
   rw[this];rfl
  have hm:k=0:=by have hC:¬(0:Int)<(k:Int):=hj;omega
  refine p Qx<|ps<|ps<|ps<|ps<|ps<|ps<|ps<|ps<|ps<|ps<|p (YL O)<|p ZA<|pe ?_;exact⟨false,La,O3.X _ _,by simp[pv,hm,zu]⟩
 rintro z g w7 ⟨U,rfl⟩;have hy:=hw.D U;refine Q0 rfl (λho=>?_) (λho=>?_)
 ·rw[OS ho]at hck;refine Qc<|Qb<|Qk ⟨[_],La,by rw[<-hck];rfl,G.D hy⟩
 rw[OR (by simp[ho])]at hck;have hp:=J.I U;refine QW (α:=Bool) [(46,60)] (λz=>[(46,.bool z)]) (λz w'=>sW w7 w'/\z=decide (e.2<0\/O4 sz e.1.toNat<=e.2)) oh ?_ ?_
 ·refine ZH [] (Y0 0 15 [])<|p (QH O)<|pq (λ_ E=>Qj (hp.I E) O O)<|pb (λ_=>Ys O O) (λhE=>?_) (λhE=>?_)
  ·refine p Qx<|ps<|ps<|ps<|ps<|ps<|ps<|ps<|ps<|ps<|p (YL O)<|p ZA<|pe ?_;exact⟨_,La,O3.X _ _,by first|exact bT oa|exact bF oa|exact bD oa⟩
  refine p Qx<|p (QH O)<|pq (λ_ E=>Qj (hp.I E) O O)<|p (QH O)<|pq (λ_ E=>Qj (((hs.I I).I U).I E) O O) <|
   p (QH rfl)<|pq (λ_ E=>Qj (hp.I E) O O)<|pic (i:=e.1.toNat) O ((hu.I I).I U) O (OT sS hA) hB λhM hF=>pq (λ_ E=>Qq (hF.I E) O) <|
   p (λ_=>Yh O O)<|p (YL O)<|p ZA<|pe ?_
  exact⟨_,La,O3.X _ _,by first|exact bT oa|exact bF oa|exact bD oa⟩
 rintro z g w8 ⟨hG,rfl⟩;have hz:=hy.D hG;refine Zh rfl (λhq=>?_) (λhq=>?_)
 ·rw[OS hq]at hck;refine Qc<|Qb<|Qk ⟨[_],La,by rw[<-hck];rfl,G.D hz⟩
 rw[OR hq]at hck;refine Qf<|Qr<|QB O O<|Qa<|xe ?_;exact⟨k+1,oa,La,T,hz,hck⟩
theorem QdE {sz:LI}{ls:xu}{k:Nat}(h:k<ls.length):JE sz (pv (ls.map (·.1)) k) (ls.drop k)=if(ls[k]'h).1<0\/(sz.length:Int)<=(ls[k]'h).1 then 2 else if zu (pv (ls.map (·.1)) k) (ls[k]'h).1=true then 5 else if(ls[k]'h).2=0\/grt (ls[k]'h).2=true then 2 else JE sz (pv (ls.map (·.1)) (k+1)) (ls.drop (k+1)):=by
 rw[QY h,Ke (ou h),MR];rfl
theorem Vz {sz:LI}{ls:xu}{nm:ByteArray}{bd:Int}(hS:Qu [] ↑w vs sz)(hl:P2s [] ↑w vl ls):
  QS sV 179 [.agg #[vs,vx,vk],.agg #[.string nm,vl,sS bd]] w λr w'=>r=sS (Xn sz ⟨nm,ls,bd⟩)/\sW w w':=by
 have hG:=hl.le;refine Zl func179 ?_;refine Qc<|Zc [vs,vx,vk] λb2 w1 h2 hH V=>Zc [.string nm,vl,sS bd] λb3 w2 hs hI Y=>Qb ?_;have E:=h2.D hs
 replace V:=V.I hs;refine Qe<|Qc<|Qs O Y O O<|QG (hl.I E) O<|x (Zd O O)<|xe<|Zh rfl (λha=>?_) (λha=>?_)
 ·refine Qc<|Qb<|Qk ⟨[_],La,by unfold Xn;rw[OS (by have h3:(ls.length:Int)=0:=ha;show ls.length=0;omega)];rfl,E⟩
 have h4:ls.length≠0:=by have h3:¬(ls.length:Int)=0:=ha;omega
 have h5:Xn sz ⟨nm,ls,bd⟩=if JE sz none ls≠0 then JE sz none ls else if grt bd=true then 2 else 0:=by unfold Xn;rw[OR h4]
 rw[h5];refine Qf<|Qe<|Qc<|Qs O Y O O<|QG (hl.I E) O<|Qa<|xe<|QX (α:=Nat) [(4,6),(14,55)] (λz=>[(14,sS z)]) (λz w'=>z<=ls.length/\sW w2 w'/\JE sz (pv (ls.map (·.1)) z) (ls.drop z)=JE sz none ls) (λz=>ls.length - z) 0 La
  ⟨Lo _,O3.Y _ _,O⟩ ?_
 rintro k g w3 ⟨hk,S,hck⟩;have T:=E.D S;have ht:=Y.I S;have hu:=hl.I T;refine Zi rfl O (λhf=>?_) (λhf=>?_)
 ·refine Qt ?_;have h6:ls.length<=k:=by have h7:¬(k:Int)<(ls.length:Int):=hf;omega
  rw[Lr h6]at hck;have h8:JE sz none ls=0:=hck.symm;rw[h8,OR (λh=>h rfl)];refine Qe<|Qc<|Qs O ht O O<|Qw<|(QbQ bd _).S ?_;rintro r4 w4 ⟨rfl,rfl⟩;refine xe<|Q0 O (λhh=>?_) (λhh=>?_)
  ·rw[OS hh];refine Qc<|Qb<|Qk ⟨[_],La,O,T⟩
  rw[OR (by simp[hh])];refine Qf<|Qc<|Qb<|Qk ⟨[_],La,O,T⟩
 have U:k<ls.length:=by have h7:(k:Int)<(ls.length:Int):=hf;omega
 rw[QdE U]at hck;refine Qf<|Qe<|Qn<|Ql<|O6 XR hu O O U λhJ hv=>?_;refine Zg (ls[k]'U) λe he=>?_;rw[he]at hv hck;refine x (QF hv O O)<|QT [sS 0,sS 0] λb6 w4 h9 hA G=>x Qd<|Q5 (Zf e) G ov λw5 hB G=>xe ?_;have I:sW w3 w5:=h9.Q hB hA;have hw:=S.D I;refine Qn<|QW (α:=Bool) [(19,30)] (λz=>[(19,.bool z)]) (λz w'=>w'=w5/\z=decide (e.1<0\/(sz.length:Int)<=e.1)) oh ?_ ?_
 ·refine Qr<|Qs O G O O<|xb (Ys O O) (λhC=>?_) (λhC=>?_)
  ·refine Qa<|Zw<|Zw<|Qz O<|Qb<|⟨_,La,O,by first|exact bT oa|exact bF oa|exact bD oa⟩
  refine Qa<|Qs O G O O<|Qs O ((V.I S).I I) O O<|QG ((hS.I T).I I) O<|x (Yh O O) <|
   Qz rfl<|Qb<|⟨_,La,O,by first|exact bT oa|exact bF oa|exact bD oa⟩
 rintro z g w6 ⟨rfl,rfl⟩;refine Zh rfl (λhj=>?_) (λhj=>?_)
 ·rw[OS hj]at hck;refine Qc<|Qb<|Qk ⟨[_],La,by rw[<-hck,OS og];rfl,E.D hw⟩
 rw[OR hj]at hck;refine QW (α:=Bool) [(31,45)] (λz=>[(31,.bool z)]) (λz w'=>sW w6 w'/\z=zu (pv (ls.map (·.1)) k) e.1) oh ?_ ?_
 ·refine ZH [] (Y0 0 15 [])<|p Qx<|pb (λ_=>Z5 O O) (λhm=>?_) (λhm=>?_)
  ·have hn:k≠0:=by have hD:(0:Int)<(k:Int):=hm;omega
   have hk1:((k:Int) - 1)=((k - 1:Nat):Int):=oa
   have ho:k - 1<ls.length:=oa
   refine p Qx<|p (QH O)<|pq (λ_ J=>Qj (G.I J) O O)<|p (QH O)<|pq (λ_ J=>Qj ((ht.I I).I J) O O) <|
    p Qx<|p (λ_=>Jg O O ⟨oa,oa⟩)<|Lg.pig (g:=Zf) (i:=k - 1) O XR (hu.I I) O (OT sS hk1) ho λhK hE=>p (λ_=>ZE O) <|
    pq (λ_ J=>Qq ((hE.fld 0 _ O).I J) O)<|p (λ_=>XY O O)<|p (YL O)<|p ZA<|pe ?_
   refine⟨_,La,O3.X _ _,?_⟩;have:pv (ls.map (·.1)) k=some (ls[k - 1]'ho).1:=by simp[pv,hn,ho]
   rw[this];rfl
  have hn:k=0:=by have hD:¬(0:Int)<(k:Int):=hm;omega
  refine p Qx<|ps<|ps<|ps<|ps<|ps<|ps<|ps<|ps<|ps<|ps<|p (YL O)<|p ZA<|pe ?_;exact⟨false,La,O3.X _ _,by simp[pv,hn,zu]⟩
 rintro z g w7 ⟨hy,rfl⟩;have hz:=hw.D hy;refine Q0 rfl (λhp=>?_) (λhp=>?_)
 ·rw[OS hp]at hck;refine Qc<|Qb<|Qk ⟨[_],La,by rw[<-hck,OS og];rfl,E.D hz⟩
 rw[OR (by simp[hp])]at hck;have h0:=G.I hy;refine QW (α:=Bool) [(46,54)] (λz=>[(46,.bool z)]) (λz w'=>sW w7 w'/\z=decide (e.2=0\/grt e.2=true)) oh ?_ ?_
 ·refine Qr<|Qs O h0 O O<|xb (Zd O O) (λhq=>?_) (λhq=>?_)
  ·refine Qa<|Zw<|Qz O<|Qb<|⟨_,La,O3.Y _ _,bT (.inl hq)⟩
  refine Qa<|Qs O h0 O O<|Qw<|(QbQ e.2 _).S ?_;rintro r9 w9 ⟨rfl,rfl⟩;refine Qz O<|Qb<|⟨grt e.2,La,O3.Y _ _,?_⟩;cases hg:grt e.2 with
  | true=>exact bT (.inr O)
  | false=>exact bF (λh=>by rcases h with h|h;exact hq h;cases h)
 rintro z g w8 ⟨hF,rfl⟩;have h1:=hz.D hF;refine Zh rfl (λhr=>?_) (λhr=>?_)
 ·rw[OS hr]at hck;refine Qc<|Qb<|Qk ⟨[_],La,by rw[<-hck,OS og];rfl,E.D h1⟩
 rw[OR hr]at hck;refine Qf<|Qr<|QB O O<|Qa<|xe ?_;exact⟨k+1,oa,La,U,h1,hck⟩
open Go.RowKit
def QcM:Fr->LN->LV->Fr
 | f,p::ps,v::vs=>QcM (upd f p v) ps vs
 | f,_,_=>f
theorem Uy {n:Nat}{ds:LN}:∀(ps:LN) (vs:LV) (a:Act) (f:Fr),Y3 n ds a f->(∀p∈ps,p<n) ->
  Y3 n ds { tmps:=(ps.zip vs).foldl (λt (x:Nat×O0)=>t.setIfInBounds x.1 x.2) a.tmps,defers:=a.defers } (QcM f ps vs)
 | [],_,a,f,h,_=>by cases h;exact⟨by assumption,by assumption,by assumption⟩
 | p::ps,[],a,f,h,_=>by cases h;exact⟨by assumption,by assumption,by assumption⟩
 | p::ps,v::vs,a,f,h,E=>by
  exact Uy ps vs _ _ (h.put (dst:=some p) (λd e=>by cases e;exact E p Ll) v) (λq G=>E q (Lj _ G))
def rdE {α:Type}(B:Nat)(L:LN)(I:List α->OZ->Prop)(X:Exit->List α->OZ->Prop)(xs:List α)(W:OZ):Exit->LN->Fr->OZ->Prop
 | .normal,_,_,W'=>XD B L W W'/\I xs W'
 | .ret,_,_,W'=>XD B L W W'/\X .ret xs W'
 | .exit i,_,_,W'=>XD B L W W'/\X (.exit i) xs W'
 | _,_,_,_=>False
theorem Qj2 {Q:Exit->LN->Fr->OZ->Prop}{g:O1}{ps:LN}{assign body:Code}(L:LN)(Y:1<=m)
  {gf:Nat}  [hF:Fu P gf fn]  (hg:ev f g=.func (.func gf) #[] capt.toArray) {encs:α->LV} {S Sp:List α->Prop}  (hp:∀p∈ps,p<n) (hm:∀x,(encs x).length=ps.length)
  (hn:SeqStopsK (fen none) (m - 1) P gf capt.toArray (λx=>(encs x).toArray) (Lw ↑w L) S Sp N w)
  (I:List α->OZ->Prop) (hI:∀s,Z9 ↑w (I s)) (X:Exit->List α->OZ->Prop) (hX:∀e s,Z9 ↑w (X e s)) (h0:I [] w) (A:Fr->α->Fr->OZ->Prop) (hA:∀x E,Z9 ↑w (A f x E))
  (he:∀l pre x W,I pre W->WG (some l) (m - 1 - 1) P n assign (QcQ (λhc E W'=>hc=[]/\XD ↑w L W W'/\I pre W'/\A f x E W') (λ_ _ _ _=>False)) [] (QcM f ps (encs x)) W)
  (hf:∀l pre x E W,I pre W->A f x E W->pre.length<N->WG (some l) (m - 1 - 1) P n body (rdE ↑w L I X (pre++[x]) W) [] E W)
  (hq:∀D xs W,↑w<=D->S xs->I xs W->W.heap[D]?=some (.deferred (some []))->Q .normal (D::ds) f W)
  (hh:∀D e pre W,↑w<=D->Sp pre->X e pre W->W.heap[D]?=some (.deferred (some []))->(e=.ret\/∃i,e=.exit i)->Q e (D::ds) f W):
  WG none m P n (.rangeFunc g ps.toArray assign body) Q ds f w:=by
 unfold WG at he hf ⊢;intro a T;have eg:∀args w,(callFunc gf args).run P w=.ok (.enter gf args) w:=by
  intro args w;have Y:¬fn.name = "runtime.NumGoroutine" := by simpa using hF.nm
  have U:¬fn.body=none:=by have:=hF.b;intro e;rw[e]at this;cases this
  simp[callFunc,hF.f,Y,U]
 have keep:∀{W W':OZ},XD ↑w L W W'->KeepsFrom ↑w W W':=λh=>⟨h.lw.size,λk o _ hk ho=>h.other k o hk ho⟩;refine wpIn_rangeFunc_ownH (F:=fen none) O Y (gf:=gf) (lb:=capt.toArray) (by rw[T.eval];exact hg) Z eg hn (λh k=>h.D k)
  (λW l o o' hl ho _ _=>⟨O,O,O,od,λk hk _=>World.putObj_heap_other oa⟩) (Below.refl _ _) (λx=>by simp[hm x]) I
  (λc pre W=>match c with| .ret=>X .ret pre W| .exit i=>X (.exit i) pre W|_=>False) (Z9.own hI) (λc=>Z9.own λs=>?_) h0
  (λx V W=>∃E,Y3 n [] V E/\A f x E W) (λx V=>Z9.own λ_=>Z9.ex λE=>Z9.and (Z9.pure _) (hA x E)) ?_ ?_ ?_ ?_
 ·cases c <;> first|exact hX _ s|exact Z9.pure _
 ·intro l pre x W K hi hK;have hr:Y3 n [] { tmps:=(ps.toArray.zip (encs x).toArray).foldl (λt (p,v)=>t.setIfInBounds p v) a.tmps,defers:=[] } (QcM f ps (encs x)):=by
   have U:Y3 n [] { a with defers:=[] } f:=⟨T.size,O,T.get⟩
   have J:=Uy ps (encs x) _ _ U hp;have e:(ps.toArray.zip (encs x).toArray).foldl (λt (p,v)=>t.setIfInBounds p v) a.tmps=(ps.zip (encs x)).foldl (λt (x:Nat×O0)=>t.setIfInBounds x.1 x.2) a.tmps:=od
   rw[e];exact J
  refine wpIn_mono (he l pre x W hi _ hr) ?_;rintro e V W' ⟨hc,E,U,_,J⟩;cases e with
  | normal=>obtain⟨rfl,h4,G,h6⟩:=J;exact hK V W' (keep h4) h4.lw G ⟨E,U,h6⟩
  | exit id=>exact J.elim
  | goto l=>exact J.elim
  | ret=>exact J.elim
  | panic ch=>exact J.elim
  | outgrown=>exact J.elim
 ·rintro l pre x V W _ _ hi ⟨E,U,J⟩ hs;refine wpIn_mono (hf l pre x E W hi J hs V U) ?_;rintro e ht W' ⟨hc,hu,h4,_,G⟩;cases e with
  | normal=>exact⟨keep G.1,G.1.lw,G.2⟩
  | exit id=>exact⟨keep G.1,G.2⟩
  | goto l=>exact G.elim
  | ret=>exact⟨keep G.1,G.2⟩
  | panic ch=>exact G.elim
  | outgrown=>exact G.elim
 ·intro D xs W hD hS hi hd;exact⟨D::ds,f,⟨T.size,by rw[show coll (D::ds)={ target:=.collected D,args:=#[] }::coll ds from rfl,T.defers],T.get⟩,λ_ _=>rfl,hq D xs W hD hS hi hd⟩
 intro D c pre W hD hS hx hd;have hj:Y3 n (D::ds) { a with defers:={ target:=.collected D,args:=#[] }::a.defers } f:=⟨T.size,by rw[show coll (D::ds)={ target:=.collected D,args:=#[] }::coll ds from rfl,T.defers],T.get⟩
 cases c with
 | ret=>exact wpIn_ret ⟨_,f,hj,λ_ _=>O,hh D .ret pre W hD hS hx hd (.inl O)⟩
 | exit i=>exact wpIn_exit ⟨_,f,hj,λ_ _=>O,hh D (.exit i) pre W hD hS hx hd (.inr ⟨i,O⟩)⟩
 | _=>exact hx.elim
theorem QiQ {α:Type}(g:α->LV)(sz:Nat)(E:∀x,(g x).length=sz):∀(l:List α) (k:Nat),(l.flatMap g).take (k*sz)=(l.take k).flatMap g
 | [],k=>od
 | e::l,0=>od
 | e::l,k+1=>by
  simp only[oT,List.take_succ_cons,On,OJ];rw[MS,NA,E,show sz+k*sz - sz=k*sz by omega,QiQ g sz E l k,Lq (by rw[E];omega)]
theorem QeC {gf:Nat}[Fu sV gf fn]{nms:List ByteArray}{s:ByteArray}(ho:yr s)
  (hp:∀(w':OZ) (L:LN),sW w w'->(∀b∈L,↑w<=b)->SeqStopsK (fen none) 9 sV gf capt.toArray (λx:{ x:ByteArray // x∈nms }=>[Value.string x.1].toArray) (Lw ↑w' L) (λys=>ys.map (·.1)=nms) (λ_=>True) N w'):
  QS sV 176 [.string s,.func (.func gf) #[] capt.toArray] w λr w'=>r=sS (KR nms s)/\sW w w':=by
 refine QS.of_G 10 func176 O ntmps176 results176 od ?_;refine QP<|Qy oh oh<|Zc [.string s] λb2 w1 hq hu hh=>QT [sS 0] λJ w2 hj hv hf=>xe ?_;have Y:=hq.D hj;have hw:=hf.lt;have hk:=hh.I hj;have hz:=hh.lt;refine QP<|QP<|Qy oh oh<|ZB hk O O<|Kz<|(UX s ho _).S ?_;rintro r3 w3 ⟨rfl,rfl⟩;refine x (Zj O)<|xe<|Ko rfl (λh8=>?_) (λh8=>?_)
 ·have hn:Y9 s=false:=by simpa using h8
  have hr:KR nms s=7:=by unfold KR;rw[OS hn]
  refine QP<|Qy oh oh<|Qo<|Qv (j:=0) (u:=sS 7) hf O O og O λw4 U ha=>xe ?_;refine JJ ⟨λ_ h=>(by cases h),Mn,[sS 7],λW' S=>⟨⟨⟨_,rfl,Y7 (At.one ((ha.I S).at (L:=[]) od))⟩,Z⟩,by rw[hr];rfl,(Y.Q U oa).D S⟩⟩
 have hn:¬Y9 s=false:=by simpa using h8
 refine Z6<|QP<|QP<|Qy oh oh<|Qa<|xe<|ZI<|Qj2 (α:={ x:ByteArray // x∈nms }) (ps:=[10]) [J] oa (capt:=capt) O (encs:=λx=>[.string x.1]) od (λ_=>rfl)
  (hp w3 [J] Y (λb hb=>by simp at hb;omega))
  (λpre W=>O3 [J] w3 W/\QK ↑W b2 9 [.string s]/\QK ↑W J 55 [sS 0]/\∀x∈pre,x.1≠s)
  (λpre=>(Z9.J (Lp _)).and (Z9.blk.and (Z9.blk.and (Z9.pure _))))
  (λe pre W=>e=.ret/\O3 [J] w3 W/\QK ↑W J 55 [sS 8]/\s∈nms)
  (λe pre=>(Z9.pure _).and ((Z9.J (Lp _)).and (Z9.blk.and (Z9.pure _))))
  ⟨O3.Y _ _,hk,hf,λx hx=>by cases hx⟩
  (λf x f' W=>f'=upd (QcM f [10] [.string x.1]) 5 (.string x.1)) (λx f'=>Z9.pure _) ?_ ?_ ?_ ?_
 ·rintro l pre x W ⟨G,h2,I,V⟩;refine Qy oh oh<|Lg.Qb<|⟨O,XD.refl _ _ _,⟨G,h2,I,V⟩,O⟩
 ·rintro l pre x f' W ⟨G,h2,I,V⟩ rfl _;refine ZI<|QP<|Qy oh oh<|Lg.Qa<|Lg.x (Qj h2 O O)<|Lg.x (j6 O O)<|xe<|Qmx O (λhg=>?_) (λhg=>?_)
  ·refine QP<|Qy oh oh<|Qo<|Qv (j:=0) (u:=sS 8) I O O og O λw4 U ha=>xe ?_;refine JJ ?_;exact⟨XD.blk U G.size I (.inl od),rfl,G.V U,ha,by rw[<-hg];exact x.2⟩
  refine Z6<|⟨XD.refl _ _ _,G,h2,I,λy T=>?_⟩;rcases Le.1 T with T|T
  ·exact V y T
  simp only[oF]at T;subst T;exact hg
 ·rintro D xs W hD hs ⟨G,h2,I,V⟩ hc;have hr:KR nms s=0:=by
   unfold KR;rw[OR hn,OR];intro hm;rw[<-hs]at hm;obtain⟨y,T,e⟩:=Ly.1 hm;exact V y T e
  refine QP<|Qy oh oh<|Qo<|Qv (j:=0) (u:=sS 0) I O O og O λw4 U ha=>xe ?_;have he:D≠J:=oa
  have ht:w4.heap[D]?=some (.deferred (some [])):=by rw[U.block D (LH.1 hc).1 (ou he)];exact hc
  refine JJ ⟨λE hE=>by simp only[oF]at hE;subst hE;exact ht,od,[sS 0],λW' S=>?_⟩;refine⟨⟨⟨_,O,Y7 (At.one ((ha.J S (ou he.symm)).at (L:=[]) od))⟩,Z⟩,by rw[hr];rfl,?_⟩;exact((Y.O G (λb hb=>.inr (by simp at hb;omega))).Q U oa).O S (λb hb=>.inr (by simp at hb;have:=Y.size;omega))
 rintro D e pre W hD _ ⟨rfl,G,I,V⟩ hc _;have hr:KR nms s=8:=by unfold KR;rw[OR hn,OS V]
 have he:D≠J:=oa
 refine⟨λE hE=>by simp only[oF]at hE;subst hE;exact hc,od,[sS 8],λW' S=>?_⟩;refine⟨⟨⟨_,O,Y7 (At.one ((I.J S (ou he.symm)).at (L:=[]) od))⟩,Z⟩,by rw[hr];rfl,?_⟩;exact(Y.O G (λb hb=>.inr (by simp at hb;omega))).O S (λb hb=>.inr (by simp at hb;have:=Y.size;omega))
theorem Jc.pre3 {o1 o2 o3:Oper}{l2:xC}(h:XL P ops (λf w=>Jc P m ops K l2 f w) [o1,o2,o3] f w):Jc P m ops K (o1::o2::o3::l2) f w:=Jc.pre [o1,o2,o3] f w h
theorem Qi4 {I S:Nat}{qs:List XV}{nms:List ByteArray}(ht:QK ↑w I 163 [vs,vx,vk])(hu:QK ↑w S 3 [sS i])(hX:yA L ↑w vx qs)(hi:i<=qs.length)(hn:nms=(qs.take i).map (·.nm)):
  SeqStopsK (fen none) m sV 175 #[sP I,sP S] (λx:{ x:ByteArray // x∈nms }=>[Value.string x.1].toArray) (Lw ↑w L)
   (λys=>ys.map (·.1)=nms) (λ_=>True) (nms.length+1) w:=by
 intro l J Jx W hv hJ hw hY h0;have hf:sW w W:=O3.of_below hv;have ab:∀{ys:List { x:ByteArray // x∈nms }} {W1 W2:OZ},J ys W1->sW W1 W2->J ys W2:=λ{ys W1 W2} hj T=>hJ ys W1 W2 none hj ⟨T.os,T.tape,T.output,T.size,λk U _=>T.block k U od⟩ (λr e=>by cases e);have h9:=hX.arr.le;have hA:nms.length=i:=by rw[hn];simp;omega
 have key:QS sV 175 [.func (.yield l) #[] #[],sP I,sP S] W (λ_ W'=>(∃ys,ys.map (·.1)=nms/\J ys W')\/(∃pre,True/\Jx pre W')):=by
  refine QS.of_G m func175 O ntmps175 results175 od ?_;refine QP<|Qy oh oh<|Qs O (ht.I hf) O O<|ZB (hu.I hf) O O<|Qm0 hX.arr O O hi λv9 ho=>QG ho O<|Qa<|xe ?_;have hy:(qs.take i).length=i:=by simp;omega
  have hS:Zs L ↑w v9 (qs.take i).length 2 ((qs.take i).flatMap ZV):=by
   rw[hy,<-QiQ ZV 2 qR];exact ho
  refine ZI<|Kn (α:=Nat×List { x:ByteArray // x∈nms }) [(5,5),(11,20)] (λz=>[(11,sS z.1)]) (λz ds W'=>ds=[]/\z.1<=i/\O3 L w W'/\z.2.map (·.1)=nms.take z.1/\J z.2 W') (λz=>i - z.1) oh (0,[]) La
   ⟨O,Lo _,hf.any,O,h0⟩ ?_
  rintro⟨k,ys⟩ g ds w1 ⟨rfl,U,hp,V,hg⟩;simp only[]at U V hg;refine QP<|Qy oh oh<|ZP O O<|xe<|QP<|Up O (λhr=>?_) (λhr=>?_)
  ·refine Jq ?_;rw[Lq oa]at V;exact⟨λ_ h=>(by cases h),Mn,[],λW' E=>⟨Z,.inl ⟨ys,V,ab hg E⟩⟩⟩
  refine Z6 ?_;have hz:k<i:=by have hh:(k:Int)<(i:Int):=hr;omega
  have ha:k<(qs.take i).length:=oa
  have hc:k<nms.length:=oa
  have hm:nms.take (k+1)=nms.take k++[nms[k]'hc]:=Lh hc;have hB:ys.length=k:=by have:=OT oW V;rw[Lm,LA]at this;omega
  have h2:nms[k]'hc=((qs.take i)[k]'ha).nm:=by subst hn;simp
  have Y:=Lk hc;rw[h2]at hm Y;refine QP<|ZI<|QP<|Qy oh oh<|O6 qR (i:=k) (hS.st hp) O O ha λhC hh=>?_;refine Zg ((qs.take i)[k]'ha) λq hq=>?_;rw[hq]at hh hm Y;refine x (QF hh O O)<|QT [.string .empty,nS] λb5 w2 h3 h4 h5=>Q5 (ZV q) h5 ⟨O,((hX.each q (L2 (by rw[<-hq];exact Lk ha))).one),Z⟩ λw3 h6 h7=>xe ?_;have hs:sW w1 w3:=h3.Q h6 h4;refine QP<|J8 oh ?_;refine Jc.pre3 ?_;refine Qa<|Qs O h7 O O<|xe<|xy (l:=l) O (hY ys ⟨q.nm,Y⟩ w3 (ab hg hs) oa) λen W3 h8=>Or.elim h8 (λG=>⟨.bool true,G.1,?_⟩) (λG=>⟨.bool false,G.1,?_⟩)
  ·refine Jc.of_XL<|x (Zj O)<|xe<|JK O<|Z6 ?_;refine Qy oh oh<|QB O O<|Qa<|xe ?_;exact⟨(k+1,ys++[⟨q.nm,Y⟩]),oe,La,O,hz,(hp.D hs).lw G.2.2,by rw[hm,Lv,V];rfl,G.2.1⟩
  refine Jc.of_XL<|x (Zj O)<|xe<|yo O ?_;refine JJ ⟨λ_ h=>(by cases h),Mn,[],λW' E=>⟨Z,.inr ⟨ys++[⟨q.nm,Y⟩],Z,?_⟩⟩⟩;exact hw _ W3 W' none G.2 ⟨E.os,E.tape,E.output,E.size,λk U _=>E.block k U od⟩ (λr e=>by cases e)
 refine(callsIn_wide (n:=m)).2 ?_;have ea:(#[.func (.yield l) #[] #[]]++[sP I,sP S].toArray:Array O0)=#[.func (.yield l) #[] #[],sP I,sP S]:=od
 rw[ea];unfold QS at key;refine Calls.mono key λe w' he=>?_;cases e with
 | returned v=>exact⟨⟨v,O⟩,he⟩
 | panicked c=>exact he.elim
 | outgrown=>exact he.elim
theorem Qjp {I S:Nat}{qs:List KV}{nms:List ByteArray}(ht:QK ↑w I 163 [vs,vx,vk])(hu:QK ↑w S 3 [sS i])(hX:ym L ↑w vk qs)(hi:i<=qs.length)(hn:nms=(qs.take i).map (·.nm)):
  SeqStopsK (fen none) m sV 178 #[sP I,sP S] (λx:{ x:ByteArray // x∈nms }=>[Value.string x.1].toArray) (Lw ↑w L)
   (λys=>ys.map (·.1)=nms) (λ_=>True) (nms.length+1) w:=by
 intro l J Jx W hv hJ hw hY h0;have hf:sW w W:=O3.of_below hv;have ab:∀{ys:List { x:ByteArray // x∈nms }} {W1 W2:OZ},J ys W1->sW W1 W2->J ys W2:=λ{ys W1 W2} hj T=>hJ ys W1 W2 none hj ⟨T.os,T.tape,T.output,T.size,λk U _=>T.block k U od⟩ (λr e=>by cases e);have h9:=hX.arr.le;have hA:nms.length=i:=by rw[hn];simp;omega
 have key:QS sV 178 [.func (.yield l) #[] #[],sP I,sP S] W (λ_ W'=>(∃ys,ys.map (·.1)=nms/\J ys W')\/(∃pre,True/\Jx pre W')):=by
  refine QS.of_G m func178 O ntmps178 results178 od ?_;refine QP<|Qy oh oh<|Qs O (ht.I hf) O O<|ZB (hu.I hf) O O<|Qm0 hX.arr O O hi λv9 ho=>QG ho O<|Qa<|xe ?_;have hy:(qs.take i).length=i:=by simp;omega
  have hS:Zs L ↑w v9 (qs.take i).length 3 ((qs.take i).flatMap Yf):=by
   rw[hy,<-QiQ Yf 3 zw];exact ho
  refine ZI<|Kn (α:=Nat×List { x:ByteArray // x∈nms }) [(5,5),(11,20)] (λz=>[(11,sS z.1)]) (λz ds W'=>ds=[]/\z.1<=i/\O3 L w W'/\z.2.map (·.1)=nms.take z.1/\J z.2 W') (λz=>i - z.1) oh (0,[]) La
   ⟨O,Lo _,hf.any,O,h0⟩ ?_
  rintro⟨k,ys⟩ g ds w1 ⟨rfl,U,hp,V,hg⟩;simp only[]at U V hg;refine QP<|Qy oh oh<|ZP O O<|xe<|QP<|Up O (λhr=>?_) (λhr=>?_)
  ·refine Jq ?_;rw[Lq oa]at V;exact⟨λ_ h=>(by cases h),Mn,[],λW' E=>⟨Z,.inl ⟨ys,V,ab hg E⟩⟩⟩
  refine Z6 ?_;have hz:k<i:=by have hh:(k:Int)<(i:Int):=hr;omega
  have ha:k<(qs.take i).length:=oa
  have hc:k<nms.length:=oa
  have hm:nms.take (k+1)=nms.take k++[nms[k]'hc]:=Lh hc;have hB:ys.length=k:=by have:=OT oW V;rw[Lm,LA]at this;omega
  have h2:nms[k]'hc=((qs.take i)[k]'ha).nm:=by subst hn;simp
  have Y:=Lk hc;rw[h2]at hm Y;refine QP<|ZI<|QP<|Qy oh oh<|O6 zw (i:=k) (hS.st hp) O O ha λhC hh=>?_;refine Zg ((qs.take i)[k]'ha) λq hq=>?_;rw[hq]at hh hm Y;refine x (QF hh O O)<|QT [.string .empty,nS,sS 0] λb5 w2 h3 h4 h5=>Q5 (Yf q) h5 ⟨O,((hX.each q (L2 (by rw[<-hq];exact Lk ha))).one),O,Z⟩ λw3 h6 h7=>xe ?_;have hs:sW w1 w3:=h3.Q h6 h4;refine QP<|J8 oh ?_;refine Jc.pre3 ?_;refine Qa<|Qs O h7 O O<|xe<|xy (l:=l) O (hY ys ⟨q.nm,Y⟩ w3 (ab hg hs) oa) λen W3 h8=>Or.elim h8 (λG=>⟨.bool true,G.1,?_⟩) (λG=>⟨.bool false,G.1,?_⟩)
  ·refine Jc.of_XL<|x (Zj O)<|xe<|JK O<|Z6 ?_;refine Qy oh oh<|QB O O<|Qa<|xe ?_;exact⟨(k+1,ys++[⟨q.nm,Y⟩]),oe,La,O,hz,(hp.D hs).lw G.2.2,by rw[hm,Lv,V];rfl,G.2.1⟩
  refine Jc.of_XL<|x (Zj O)<|xe<|yo O ?_;refine JJ ⟨λ_ h=>(by cases h),Mn,[],λW' E=>⟨Z,.inr ⟨ys++[⟨q.nm,Y⟩],Z,?_⟩⟩⟩;exact hw _ W3 W' none G.2 ⟨E.os,E.tape,E.output,E.size,λk U _=>E.block k U od⟩ (λr e=>by cases e)
 refine(callsIn_wide (n:=m)).2 ?_;have ea:(#[.func (.yield l) #[] #[]]++[sP I,sP S].toArray:Array O0)=#[.func (.yield l) #[] #[],sP I,sP S]:=od
 rw[ea];unfold QS at key;refine Calls.mono key λe w' he=>?_;cases e with
 | returned v=>exact⟨⟨v,O⟩,he⟩
 | panicked c=>exact he.elim
 | outgrown=>exact he.elim
theorem zN {sz:LI}{qx:List XV}{ks:List KV}(hS:Qu [] ↑w vs sz)(hX:yA [] ↑w vx qx)(hK:ym [] ↑w vk ks):
  QS sV 112 [.agg #[vs,vx,vk]] w λr w'=>r=sS (Y1 sz (qx.map (·.x)) (ks.map (·.k)))/\sW w w':=by
 have hZ:=hS.le;have ga:=hX.arr.le;have gb:=hK.arr.le;refine Zl func112 ?_;refine Qc<|Zc [vs,vx,vk] λb1 w1 G gc U=>Qb<|Qe<|Qc<|Qs O U O O<|QG (hS.I G) O<|x (Z5 O O)<|xe<|Zh rfl (λh2=>?_) (λh2=>?_)
 ·refine Qc<|Qb<|Qk ⟨[_],La,by unfold Y1;rw[OS (by have hM:(8:Int)<(sz.length:Int):=h2;omega)];rfl,G⟩
 have h0:¬8<sz.length:=by have hM:¬(8:Int)<(sz.length:Int):=h2;omega
 refine Qf<|Qe<|Qc<|Qs O U O O<|QG (hS.I G) O<|Qa<|xe<|QX (α:=Nat) [(2,2),(4,4),(22,32)] (λz=>[(22,sS z)]) (λz w'=>z<=sz.length/\w'=w1/\(sz.drop z).any Ku=sz.any Ku) (λz=>sz.length - z) 0 La
  ⟨Lo _,O,O⟩ ?_
 rintro k g w2 ⟨hk,rfl,ha⟩;refine Zi rfl O (λh3=>?_) (λh3=>?_)
 ·refine Qt ?_;have hm:sz.length<=k:=by have h1:¬(k:Int)<(sz.length:Int):=h3;omega
  rw[Lr hm]at ha;have h4:¬sz.any Ku=true:=by rw[<-ha];decide
  refine Qe<|QW (α:=Bool) [(33,42)] (λz=>[(42,.bool z)]) (λz w'=>w'=w2/\z=decide (32<qx.length\/32<ks.length)) oh ?_ ?_
  ·refine Qr<|Qs O U O O<|QG (hX.I G).arr O<|xb (Z5 O O) (λhN=>?_) (λhN=>?_)
   ·refine Qa<|Zw<|Jr<|Qz O<|xe ?_;exact⟨_,La,O,by first|exact bT oa|exact bF oa|exact bD oa⟩
   refine Qa<|Qs O U O O<|QG (hK.I G).arr O<|x (Z5 O O)<|Qz O<|xe ?_;exact⟨_,La,O,by first|exact bT oa|exact bF oa|exact bD oa⟩
  rintro z g V ⟨rfl,rfl⟩;refine Zh O (λh5=>?_) (λh5=>?_)
  ·refine Qc<|Qb<|Qk ⟨[_],La,by unfold Y1;rw[OR h0,OR h4,OS (ou h5)];rfl,G⟩
  have hH:¬(32<(qx.map (·.x)).length\/32<(ks.map (·.k)).length):=by simpa using h5
  have hI:YF sz [] (qx.map (·.x))≠0->Y1 sz (qx.map (·.x)) (ks.map (·.k))=YF sz [] (qx.map (·.x)):=λh=>by
   unfold Y1;rw[OR h0,OR h4,OR hH,OS h]
  have hO:YF sz [] (qx.map (·.x))=0->Y1 sz (qx.map (·.x)) (ks.map (·.k))=Xa sz [] (ks.map (·.k)):=λh=>by
   unfold Y1;rw[OR h0,OR h4,OR hH,OR (by rw[h];exact λh=>h O)]
  refine Qf<|Qe<|Qc<|Qs O (U.I (O3.Y [] V)) O O<|QG ((hX.I G).I (O3.Y [] V)).arr O<|Qa<|xe<|QX (α:=Nat) [(2,2),(5,9),(46,65)] (λz=>[(46,sS z)]) (λz w'=>z<=qx.length/\sW V w'/\YF sz ((qx.take z).map (·.nm)) ((qx.drop z).map (·.x))=YF sz [] (qx.map (·.x))) (λz=>qx.length - z) 0 La
   ⟨Lo _,(O3.Y [] V),O⟩ ?_
  rintro k g wA ⟨hk,I,hck⟩;refine Zi O O (λhc=>?_) (λhc=>?_)
  ·refine Qt ?_;have hm:qx.length<=k:=by have h6:¬(k:Int)<(qx.length:Int):=hc;omega
   rw[Lr hm]at hck;have hP:YF sz [] (qx.map (·.x))=0:=hck.symm;have h7:=hO hP;refine Qe<|Qc<|Qs O (U.I I) O O<|QG ((hK.I G).I I).arr O<|Qa<|xe<|QX (α:=Nat) [(2,2),(10,14),(69,88)] (λz=>[(69,sS z)]) (λz w'=>z<=ks.length/\sW V w'/\Xa sz ((ks.take z).map (·.nm)) ((ks.drop z).map (·.k))=Xa sz [] (ks.map (·.k))) (λz=>ks.length - z) 0 La
    ⟨Lo _,I,O⟩ ?_
   rintro k g wA ⟨hk,I,hck⟩;refine Zi O O (λhc=>?_) (λhc=>?_)
   ·refine Qt ?_;have hm:ks.length<=k:=by have h6:¬(k:Int)<(ks.length:Int):=hc;omega
    rw[Lr hm]at hck;have hQ:Xa sz [] (ks.map (·.k))=0:=hck.symm;refine Qc<|Qb<|Qk ⟨[_],La,by rw[h7,hQ];rfl,G.D I⟩
   have E:k<ks.length:=by have h6:(k:Int)<(ks.length:Int):=hc;omega
   have ho:(ks.take (k+1)).map (·.nm)=(ks.take k).map (·.nm)++[(ks[k]'E).nm]:=by rw[Lh E,Lv];rfl
   rw[QY E,LU]at hck;have he:=Lk E;have J:=(hK.I G).I I;have hR:=U.I I;refine Qf<|Qe<|Qn<|Ql<|O6 zw J.arr O O E λaA hA=>?_;refine Zg (ks[k]'E) λq hq=>?_;rw[hq]at hA hck ho he;have hp:=J.each q he;refine x (QF hA O O)<|QT [sS 0] λb5 V hr h8 hf=>QT [.string .empty,nS,sS 0] λb6 w4 hs hT h9 =>
    Qo<|Qv (j:=0) (u:=sS k) (hf.I hs) O O og O λw5 ht hB=>Q5 (Yf q) (h9.J ht (by have:=hf.lt;simp;omega)) ⟨O,hp.one,O,Z⟩ λw6 hu hv=>xe ?_
   have hU:b5<b6:=by have:=hf.lt;omega
   have hg:sW wA w6:=((hr.D hs).Q ht h8).Q hu (oo hr.size);have hC:QK ↑w6 b5 3 [sS k]:=hB.J hu (by simp;omega);have hw:=hR.I hg;have hV:=J.I hg;refine Qc<|x Zk<|Qb<|Qe<|Qc<|Qs O hv O O<|Qa<|Qw<|(QeC (nms:=(ks.take k).map (·.nm)) (capt:=[sP b1,sP b5]) (J.nm q he) (λw' L hh hL=>Qjp (hw.I hh) (hC.I hh) ((hV.up (λb hb=>.inr (hL b hb))).I hh) hk O)).S ?_;rintro r7 w7 ⟨rfl,hj⟩;refine Qb ?_;have S:=hg.D hj;refine Ql<|ZL O O<|xe<|Zh O (λY=>?_) (λY=>?_)
   ·have e1:Xa sz [] (ks.map (·.k))=KR ((ks.take k).map (·.nm)) q.nm:=by rw[<-hck];exact OS Y
    refine Ql<|Qb<|Qk ⟨[_],La,by rw[h7,e1];rfl,G.D (I.D S)⟩
   have hy:(if Xn sz q.k≠0 then Xn sz q.k else Xa sz ((ks.take k).map (·.nm)++[q.nm]) ((ks.drop (k+1)).map (·.k)))=Xa sz [] (ks.map (·.k)):=by rw[<-hck];exact(OR Y).symm
   refine Qf ?_;have hW:=hw.I hj;have hY:=hv.I hj;refine Qc<|Q3 hW O O<|Q3 hY O O<|Qw<|(Vz (((hS.I G).I I).I S) (hp.I S)).S ?_;rintro r8 w8 ⟨rfl,hD⟩;refine Qb ?_;have hz:=S.D hD;refine Ql<|ZL O O<|xe<|Zh O (λT=>?_) (λT=>?_)
   ·have e1:Xa sz [] (ks.map (·.k))=Xn sz q.k:=by rw[<-hy];exact OS T
    have hJ:Xn sz q.k≠0:=T;refine Ql<|Qb<|Qk ⟨[_],La,by rw[h7,e1];rfl,G.D (I.D hz)⟩
   have hE:Xa sz ((ks.take k).map (·.nm)++[q.nm]) ((ks.drop (k+1)).map (·.k))=Xa sz [] (ks.map (·.k)):=by rw[<-hy];exact(OR T).symm
   refine Qf<|Qr<|QB O O<|Qa<|xe ?_;exact⟨k+1,oa,La,E,I.D hz,by rw[ho];exact hE⟩
  have E:k<qx.length:=by have h6:(k:Int)<(qx.length:Int):=hc;omega
  have ho:(qx.take (k+1)).map (·.nm)=(qx.take k).map (·.nm)++[(qx[k]'E).nm]:=by rw[Lh E,Lv];rfl
  rw[QY E,LU]at hck;have he:=Lk E;have J:=(hX.I G).I I;refine Qf<|Qe<|Qn<|Ql<|O6 qR J.arr O O E λaA hA=>?_;refine Zg (qx[k]'E) λq hq=>?_;rw[hq]at hA hck ho he;have hp:=J.each q he;refine x (QF hA O O)<|QT [sS 0] λb5 V hr h8 hf=>QT [.string .empty,nS] λb6 w4 hs hT h9 =>
   Qo<|Qv (j:=0) (u:=sS k) (hf.I hs) O O og O λw5 ht hB=>Q5 (ZV q) (h9.J ht (by have:=hf.lt;simp;omega)) ⟨O,hp.one,Z⟩ λw6 hu hv=>xe ?_
  have hU:b5<b6:=by have:=hf.lt;omega
  have hg:sW wA w6:=((hr.D hs).Q ht h8).Q hu (oo hr.size);have hC:QK ↑w6 b5 3 [sS k]:=hB.J hu (by simp;omega);have hw:=(U.I I).I hg;refine Qc<|x Zk<|Qb<|Qe<|Qc<|Qs O hv O O<|Qa<|Qw<|(QeC (nms:=(qx.take k).map (·.nm)) (capt:=[sP b1,sP b5]) (J.nm q he) (λw' L hh hL=>Qi4 (hw.I hh) (hC.I hh) (((J.I hg).up (λb hb=>.inr (hL b hb))).I hh) hk O)).S ?_;rintro r7 w7 ⟨rfl,hj⟩;refine Qb ?_;have S:=hg.D hj;refine Ql<|ZL O O<|xe<|Zh O (λY=>?_) (λY=>?_)
  ·have e1:YF sz [] (qx.map (·.x))=KR ((qx.take k).map (·.nm)) q.nm:=by rw[<-hck];exact OS Y
   refine Ql<|Qb<|Qk ⟨[_],La,by rw[hI (by rw[e1];exact Y),e1];rfl,G.D (I.D S)⟩
  have hy:(if JF sz q.ls≠0 then JF sz q.ls else YF sz ((qx.take k).map (·.nm)++[q.nm]) ((qx.drop (k+1)).map (·.x)))=YF sz [] (qx.map (·.x)):=by rw[<-hck];exact(OR Y).symm
  refine Qf<|Qc<|Q3 (hw.I hj) O O<|Q3 (hv.I hj) O O<|Qw<|(Ui (((hS.I G).I I).I S) (hp.I S)).S ?_;rintro r8 w8 ⟨rfl,hD⟩;refine Qb ?_;have hz:=S.D hD;refine Ql<|ZL O O<|xe<|Zh O (λT=>?_) (λT=>?_)
  ·have e1:YF sz [] (qx.map (·.x))=JF sz q.ls:=by rw[<-hy];exact OS T
   have hJ:JF sz q.ls≠0:=T;refine Ql<|Qb<|Qk ⟨[_],La,by rw[hI (by rw[e1];exact hJ),e1];rfl,G.D (I.D hz)⟩
  have hE:YF sz ((qx.take k).map (·.nm)++[q.nm]) ((qx.drop (k+1)).map (·.x))=YF sz [] (qx.map (·.x)):=by rw[<-hy];exact(OR T).symm
  refine Qf<|Qr<|QB O O<|Qa<|xe ?_;exact⟨k+1,oa,La,E,I.D hz,by rw[ho];exact hE⟩
 have E:k<sz.length:=by have h1:(k:Int)<(sz.length:Int):=h3;omega
 rw[QY E,List.any_cons]at ha;refine Qf<|Qe<|Qn<|Qc<|xii (hS.I G) O O E λge h1=>?_;refine Zg (sz[k]'E) λn hn=>?_;rw[hn]at h1 ha;refine x (Qq h1 O)<|Qb<|QW (α:=Bool) [(26,31)] (λz=>[(31,.bool z)]) (λz w'=>w'=w2/\z=Ku n) oh ?_ ?_
 ·refine Qr<|Qa<|xb (Ys O O) (λhF=>?_) (λhF=>?_)
  ·refine Qa<|YG<|Qz O<|xe ?_;exact⟨_,La,O,by unfold Ku;rw[OV hF];rfl⟩
  refine Qa<|Qa<|x (Z5 O O)<|Qz O<|xe ?_;exact⟨_,La,O,by unfold Ku;rw[OX hF];rfl⟩
 rintro z g V ⟨rfl,rfl⟩;refine Q0 rfl (λhG=>?_) (λhG=>?_)
 ·refine Qc<|Qb<|Qk ⟨[_],La,by unfold Y1;rw[OR h0,OS (by rw[<-ha,hG];rfl)];rfl,G⟩
 rw[hG,Bool.false_or]at ha;refine Qf<|Qr<|QB O O<|Qa<|xe ?_;exact⟨k+1,oa,La,E,O,ha⟩
theorem Qdu {α:Type}(q:α->Bool):∀(l:List α) (i:Nat),fix q i l=-1\/((i:Int)<=fix q i l/\fix q i l<(i:Int)+l.length)
 | [],i=>.inl O
 | a::l,i=>by
  rw[Yt];split
  ·right;simp only[oQ];omega
  rcases Qdu q l (i+1) with h|h
  ·exact .inl h
  right;simp only[oQ];omega
theorem zK {α:Type}(q:α->Bool)(m:List α):∀(l:List α) (i:Nat),fix q i (l++m)=if 0<=fix q i l then fix q i l else fix q (i+l.length) m
 | [],i=>by
  show fix q i m=if(0:Int)<=-1 then(-1) else fix q i m
  rw[OR og]
 | a::l,i=>by
  rw[Mv,Yt,Yt];by_cases h:q a=true
  ·rw[OS h,OS h,OS oa]
  rw[OR h,OR h,zK q m l (i+1),LL];rw[show i+1+l.length=i+(l.length+1) by omega]
theorem jr {α:Type}(q:α->Bool)(d:Nat):∀(l:List α) (i:Nat),fix q (i+d) l=if 0<=fix q i l then fix q i l+d else -1
 | [],i=>rfl
 | a::l,i=>by
  rw[Yt,Yt];by_cases h:q a=true
  ·rw[OS h,OS h,OS oa];omega
  rw[OR h,OR h,show i+d+1=(i+1)+d by omega,jr q d l (i+1)]
theorem K9 {α β:Type}(q:β->Bool)(g:α->β):∀(l:List α) (i:Nat),fix q i (l.map g)=fix (λa=>q (g a)) i l
 | [],i=>rfl
 | a::l,i=>by rw[LU,Yt,Yt,K9 q g l (i+1)]
theorem Qn2 [Fu sV gp fn]{q:(Int×Int)->Bool}{v:O0}{l:xu}(h:Zs L ↑w v l.length 2 (l.flatMap Zf))
  (G:∀e∈l,∀(E:OZ),sW w E->QS sV gp ([sT (Zf e)]++cap) E λr w'=>r=.bool (q e)/\sW E w'):
  QS sV 299 [v,.func (.func gp) #[] cap.toArray] w λr w'=>r=sS (fix q 0 l)/\sW w w' :=
 ixG ⟨_,O,func299⟩ XR (ldA XR) h G
theorem Qov [Fu sV gp fn]{q:(Int×Int)->Bool}{v:O0}{l:xu}(h:Zs L ↑w v l.length 2 (l.flatMap Zf))
  (G:∀e∈l,∀(E:OZ),sW w E->QS sV gp ([sT (Zf e)]++cap) E λr w'=>r=.bool (q e)/\sW E w'):
  QS sV 269 [v,.func (.func gp) #[] cap.toArray] w λr w'=>r=.bool (l.any q)/\sW w w':=by
 refine Zl func269 ?_;refine Qc<|Qb<|Ql<|Qa<|Kz<|(Qn2 h G).S ?_;rintro J E ⟨rfl,I⟩;refine x (Yh O O)<|Qb<|Qk ⟨[_],La,OT Value.bool (Ue q l 0),I⟩
theorem zY (sz:LI):∀(ls:xu) (pr:Option Int),Xm sz pr ls=0->(∀p∈ls,0<=p.1/\p.1<(sz.length:Int))/\Yw (ls.map (·.1))/\∀y,pr=some y->∀p∈ls,y<p.1
 | [],pr,_=>⟨λp E=>(by cases E),List.Pairwise.nil,λy _ p E=>(by cases E)⟩
 | l::ls,pr,h=>by
  unfold Xm at h;split at h
  ·cases h
  rename_i V;split at h
  ·cases h
  rename_i I;split at h
  ·cases h
  obtain⟨J,S,T⟩:=zY sz ls (some l.1) h;have G:=T l.1 O;refine⟨λp E=>?_,L4.2 ⟨λx hx=>?_,S⟩,λy U p E=>?_⟩
  ·rcases Ln.1 E with rfl|E
   ·omega
   exact J p E
  ·obtain⟨p,E,rfl⟩:=Ly.1 hx;exact G p E
  subst U;have Y:¬l.1<=y:=λe=>I (OV e);rcases Ln.1 E with rfl|E
  ·omega
  have:=G p E;omega
theorem zW (sz:LI):∀(ls:xu) (pr:Option Int),JE sz pr ls=0->(∀p∈ls,0<=p.1/\p.1<(sz.length:Int)/\-65536<=p.2/\p.2<=65536)/\Yw (ls.map (·.1))/\∀y,pr=some y->∀p∈ls,y<p.1
 | [],pr,_=>⟨λp E=>(by cases E),List.Pairwise.nil,λy _ p E=>(by cases E)⟩
 | l::ls,pr,h=>by
  unfold JE at h;split at h
  ·cases h
  rename_i h1;split at h
  ·cases h
  rename_i J;split at h
  ·cases h
  rename_i S;obtain⟨T,U,V⟩:=zW sz ls (some l.1) h;have G:=V l.1 O;have I:grt l.2=false:=by cases Y:grt l.2 with|true=>exact OU (.inr Y) S|false=>rfl
  unfold grt at I;simp only[oY,decide_eq_false_iff_not]at I;refine⟨λp E=>?_,L4.2 ⟨λx hx=>?_,U⟩,λy hy p E=>?_⟩
  ·rcases Ln.1 E with rfl|E
   ·omega
   exact T p E
  ·obtain⟨p,E,rfl⟩:=Ly.1 hx;exact G p E
  subst hy;have h8:¬l.1<=y:=λe=>J (OV e);rcases Ln.1 E with rfl|E
  ·omega
  have:=G p E;omega
theorem U4 (sz:LI):∀(l:List Exc) (sn:List ByteArray),YF sz sn l=0->∀x∈l,JF sz x.ls=0
 | [],_,_,x,hx=>by cases hx
 | a::l,sn,h,x,hx=>by
  unfold YF at h;split at h
  ·rename_i E;exact OU h E
  split at h
  ·rename_i E;exact OU h E
  rename_i E;rcases Ln.1 hx with rfl|hx
  ·exact Lt.1 E
  exact U4 sz l _ h x hx
theorem U6 (sz:LI):∀(l:List xK) (sn:List ByteArray),Xa sz sn l=0->∀x∈l,Xn sz x=0
 | [],_,_,x,hx=>by cases hx
 | a::l,sn,h,x,hx=>by
  unfold Xa at h;split at h
  ·rename_i E;exact OU h E
  split at h
  ·rename_i E;exact OU h E
  rename_i E;rcases Ln.1 hx with rfl|hx
  ·exact Lt.1 E
  exact U6 sz l _ h x hx
structure Qrh (sz:LI)(ex:List Exc)(cs:List xK):Prop where
 s8:sz.length<=8
 s:∀n∈sz,1<=n/\n<=4096
 xl:ex.length<=32
 kl:cs.length<=32
 x:∀e∈ex,∀p∈e.ls,0<=p.1/\p.1<(sz.length:Int)
 k:∀e∈cs,(∀p∈e.ts,0<=p.1/\p.1<(sz.length:Int)/\-65536<=p.2/\p.2<=65536)/\e.ts.length<=8
theorem Qcj {sz:LI}{ex:List Exc}{cs:List xK}(h:Y1 sz ex cs=0):Qrh sz ex cs:=by
 unfold Y1 at h;split at h
 ·cases h
 rename_i Y;split at h
 ·cases h
 rename_i T;split at h
 ·cases h
 rename_i ha;split at h
 ·rename_i hx;exact OU h hx
 rename_i hx;refine⟨oa,λn U=>?_,oa,oa,λe I p G=>?_,λe I=>?_⟩
 ·have E:Ku n=false:=by
   cases hb:Ku n with
   | false=>rfl
   | true=>exact OU (Nq.2 ⟨n,U,hb⟩) T
  unfold Ku at E;simp only[oY,decide_eq_false_iff_not]at E;omega
 ·have E:=U4 sz ex [] (Lt.1 hx) e I;unfold JF at E;split at E
  ·cases E
  exact(zY sz e.ls none E).1 p G
 have E:=U6 sz cs [] h e I;unfold Xn at E;split at E
 ·cases E
 split at E
 ·rename_i J;exact OU E J
 rename_i J;obtain⟨S,V,_⟩:=zW sz e.ts none (Lt.1 J);refine⟨S,?_⟩;have:=xG sz.length (e.ts.map (·.1)) (List.Pairwise.imp (λ{a b} (h:a<b)=>(by omega:a≠b)) V) (λx hx=>by
  obtain⟨p,G,rfl⟩:=Ly.1 hx;exact⟨(S p G).1,(S p G).2.1⟩)
 rw[Lm]at this;omega
def Qmt (sz t:LI):Prop:=t.length=sz.length/\∀i,i<t.length->0<=O4 t i/\O4 t i<O4 sz i
theorem Qfo (t:LI)(p:Int×Int)(l:xu)(s:Int):(l++[p]).foldl (λs p=>s+p.2*t.getD p.1.toNat 0) s=l.foldl (λs p=>s+p.2*t.getD p.1.toNat 0) s+p.2*O4 t p.1.toNat:=by
 rw[Mh];rfl
theorem QgR {nm:ByteArray}{ts:xu}{bd:Int}{t:LI}(hl:P2s [] ↑w vl ts)(ht:Qu [] ↑w vt t)
  (hj:∀p∈ts,0<=p.1/\p.1<(t.length:Int)/\-65536<=p.2/\p.2<=65536) (h8:ts.length<=8) (hm:∀i,i<t.length->0<=O4 t i/\O4 t i<=4096):
  QS sV 272 [.agg #[.string nm,vl,sS bd],vt] w λr w'=>r=sS (Qpg t ⟨nm,ts,bd⟩)/\sW w w':=by
 refine Zl func272 ?_;refine Qc<|Zc [.string nm,vl,sS bd] λb2 w1 Y hw hn=>Qb<|Qc<|Qb<|Qe<|Qc<|Qs O hn O O<|QG (hl.I Y) O<|Qa<|xe<|QX (α:=Nat×Int) [(5,5),(7,7),(11,25)] (λz=>[(5,sS z.2),(11,sS z.1)]) (λz w'=>z.1<=ts.length/\sW w w'/\z.2=(ts.take z.1).foldl (λs p=>s+p.2*t.getD p.1.toNat 0) 0/\-(268435456*(z.1:Int))<=z.2/\z.2<=268435456*(z.1:Int)) (λz=>ts.length - z.1) (0,0) ov
  ⟨Lo _,Y,O,oe,oe⟩ ?_
 rintro⟨k,s⟩ g w2 ⟨hk,S,T,hy,hz⟩;refine Zi rfl O (λU=>?_) (λU=>?_)
 ·refine Qt ?_;have ho:ts.length<=k:=by have I:¬(k:Int)<(ts.length:Int):=U;omega
  rw[Lq ho]at T;refine Ql<|Qb<|Qk ⟨[_],La,by rw[T];rfl,S⟩
 have E:k<ts.length:=by have I:(k:Int)<(ts.length:Int):=U;omega
 have V:=hj _ (Lk E);have ha:ts.take (k+1)=ts.take k++[ts[k]'E]:=Lh E;refine Qf<|Qe<|Qn<|Qc<|O6 XR (hl.I S) O O E λh0 I=>?_;refine Zg (ts[k]'E) λe he=>?_;rw[he]at I V ha;refine x (QF I O O)<|QT [sS 0,sS 0] λb7 w3 hp hq J=>Q5 (Zf e) J ov λw4 hr J=>xe ?_;have hs:sW w2 w4:=hp.Q hr hq;have hf:=S.D hs;have hu:e.1=((e.1.toNat:Nat):Int):=oa
 have hg:e.1.toNat<t.length:=oa
 have hh:=hm _ hg;have h3:-268435456<=e.2*O4 t e.1.toNat/\e.2*O4 t e.1.toNat<=268435456:=by
  have h1:(-65536)*O4 t e.1.toNat<=e.2*O4 t e.1.toNat:=Int.mul_le_mul_of_nonneg_right V.2.2.1 hh.1;have h2:e.2*O4 t e.1.toNat<=65536*O4 t e.1.toNat:=Int.mul_le_mul_of_nonneg_right V.2.2.2 hh.1;omega
 refine Zg (e.2*O4 t e.1.toNat) λpr h4=>?_;refine ZH [] (Y0 0 11 [])<|p Qx<|p (QH O)<|pq (λ_ G=>Qj (J.I G) O O)<|p Qx<|p (QH O) <|
  pq (λ_ G=>Qj (J.I G) O O)<|pic (i:=e.1.toNat) O (ht.I hf) O (OT sS hu) hg λh5 hv=>pq (λ_ G=>Qq (hv.I G) O) <|
  p (λ_=>Qen O O ⟨oa,oa⟩)<|p (λ_=>Xd O O ⟨oa,oa⟩)<|p ZA<|pe ?_
 refine Qr<|QB O O<|Qa<|xe<|⟨(k+1,s+e.2*O4 t e.1.toNat),oe,ov,E,hf.D (O3.X _ _),?_,oe,oe⟩;simp only[];rw[ha,Qfo,<-T]
theorem Qi3 {bt:Nat}{t:LI}(J:QK ↑w bt 47 [vt])(S:Qu [] ↑w vt t)(e:Int×Int)(Y:0<=e.1/\e.1<(t.length:Int)):
  QS sV 270 ([sT (Zf e)]++[sP bt]) w λr w'=>r=.bool (!decide (t.getD e.1.toNat 0=e.2))/\sW w w':=by
 refine Zl func270 ?_;refine Qc<|Zc (Zf e) λb2 w1 G ha I=>Qb ?_;have T:e.1=((e.1.toNat:Nat):Int):=oa
 have U:e.1.toNat<t.length:=oa
 refine Qe<|ZH [] (Y0 0 9 [])<|pq (λ_ E=>Qj ((J.I G).I E) O O)<|p (QH O)<|pq (λ_ E=>Qj (I.I E) O O)<|pic (i:=e.1.toNat) O (S.I G) O (OT sS T) U λa7 V =>
  pq (λ_ E=>Qq (V.I E) O)<|p (QH O)<|pq (λ_ E=>Qj (I.I E) O O)<|p (λ_=>XI O O) <|
  p ZA<|pe ?_
 refine Qk ⟨[_],La,?_,G.D (O3.X _ _)⟩;show Value.bool (decide (¬O4 t e.1.toNat=e.2))=_;unfold O4;simp
theorem QgP (t:LI)(x:Exc):(!(x.ls.any λl=>!decide (t.getD l.1.toNat 0=l.2)))=Vo t x:=by
 unfold Vo;induction x.ls with
 | nil=>rfl
 | cons a l ih=>rw[List.any_cons,MG,<-ih];cases decide (t.getD a.1.toNat 0=a.2) <;> simp
theorem QlV {b:Nat}{q:XV}{t:LI}(J:QK ↑w b 186 (ZV q))(S:P2s [] ↑w q.v q.ls)(I:Qu [] ↑w vt t)(T:∀p∈q.ls,0<=p.1/\p.1<(t.length:Int)):
  QS sV 268 ([vt]++[sP b]) w λr w'=>r=.bool (Vo t q.x)/\sW w w':=by
 refine Zl func268 ?_;refine Qc<|Qo<|U2 (us:=[vt]) I.cells λU w1 E ha V=>Qb<|Qc<|Qs O (J.I E) O O<|x Zk<|Qw<|(Qov (q:=λl=>!decide (t.getD l.1.toNat 0=l.2)) (cap:=[sP U]) (S.I E) (λe Y w2 G=>Qi3 (V.I G) ((I.I E).I G) e (T e Y))).S ?_;rintro r2 w2 ⟨rfl,G⟩;refine x (Zj O)<|Qb<|Qk ⟨[_],La,OT Value.bool (QgP t q.x),E.D G⟩
theorem QlU {b:Nat}{q:KV}{t:LI}(G:QK ↑w b 191 (Yf q))(J:P2s [] ↑w q.v q.ts)(S:Qu [] ↑w vt t)
  (T:∀p∈q.ts,0<=p.1/\p.1<(t.length:Int)/\-65536<=p.2/\p.2<=65536) (U:q.ts.length<=8) (V:∀i,i<t.length->0<=O4 t i/\O4 t i<=4096):
  QS sV 271 ([vt]++[sP b]) w λr w'=>r=.bool (Ut t q.k)/\sW w w':=by
 refine Zl func271 ?_;refine Qc<|Qb ?_;have hd:sW w { w with drawn:=w.drawn+1 }:=O3.X _ _
 refine Qe<|VD (sW { w with drawn:=w.drawn+1 }) [oz 0,oz 1,oz 3,oz 4,oA 2,oz 5,oz 6] mixed oh oc (O3.Y _ _) ?_
 refine pq (λ_ E=>Zb ((G.I hd).I E) O O)<|p Qx<|p (QH O)<|pq (λ_ E=>Qj ((G.I hd).I E) O O)<|pk<|xg<|(QgR (J.I hd) (S.I hd) T U V).S ?_;rintro Y w1 ⟨rfl,I⟩;refine⟨I,?_⟩;refine p (λ_=>Z5 O O)<|p ZA<|pe ?_;exact Qk ⟨[_],La,O,hd.D I⟩
end Go.Lg
