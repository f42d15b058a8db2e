/- Merged out of 46 texts. -/
import Derived.Test.YtpfnhheoeaiomaaGreatDoorPga
import Derived.Laws.Strings
import Derived.RangeFuncNested
import Derived.RangeFuncLeaves
import Derived.RangeFuncCalls
import Derived.OrdersIn
import Derived.TacticsIn
set_option maxHeartbeats 40000000
set_option maxRecDepth 100000
set_option linter.all false
open Go Go.Lg
open Go.Value renaming int->oB
open Go.IntKind renaming i64->oC
open _root_.List renaming mem_singleton->oF,replicate->oG,not_mem_nil->oH,range->oJ,mem_cons->oK,length_singleton->oL,length_append->oM,getD->oN,range'->oO,length_cons->oQ,getElem?_toArray->oR,map_cons->oS,flatMap_cons->oT,getElem?_eq_getElem->oU,length->oV,mem_append->oW,cons_append->oZ,getElem?_append_left->Oa,all_cons->Ob,headD_cons->Oc,size_toArray->Od,append_assoc->Of,tail_cons->Og,mem_range'_1->Oh,append_nil->Oi,mem_filter->Oj,all_eq_true->Ok,mem_map->Om,getElem_cons_zero->Ot,singleton_append->Ov,range'_succ->Oz,filter_cons->OA,pairwise_cons->OB,map_nil->OC,take_length->OI
open _root_.Bool renaming and_eq_true->oI,or_eq_false_iff->oY,not_eq_true'->Oe,false_eq_true->Ol,true_and->OK
open _root_.Array renaming replicate->oP
open _root_.Nat renaming zero_add->oX,add_mul->Ou,pow_succ->OH,one_mul->OL,sub_zero->ON,mul_one->OR,beq->OS
open _root_.Option renaming map_some->OD
open Go renaming World->O2,Value->O3,Operand->O4,Program->O5
open Go.Proofs Go.Proofs.Tryz
open Go.Proofs.Tryz renaming prog->sV
variable {w w' W':O2}{L L' ds ns:LN}{n i t sz base T j N E m g id B kt ty G et gp U:Nat}{a A:Qz}{l o u ul un hi r est q li rs out:LI}{cs us cap capt:LV}{α β:Type}{y:O4}{va ve vm z vt vs vk vx v' vr vo:O3}{f:Fr}{aa:List Qz}{P:O5}{s:Int}{fn:Func}{es ed:List Ed}{K:xz}{d:xF}{pS:String}{af:xD}{gd:xt}{k':IntKind}{at_:Array Nat}{ops:xE}
namespace Go.Lg
class Ay (P:O5)(t:Nat)(m e sz:outParam Nat):Prop where
 u:P.underlying t=some (.array m e)
 i:(P.info? e).map (·.size)=some sz
theorem ZV {x:O4}{e:Nat}[h:Ay P t m e sz]{b o:Nat}{k:IntKind}(hx:ev f x=.pointer (some ⟨b,o,none⟩))(G:ev f y=.int k i)(I:i<m):
  (execOp (ev f) ⟨d,.indexAddr t x y,ty,pS,af,gd⟩).run P w=.ok (.value (.pointer (some ⟨b,o+i*sz,none⟩))) w:=by
 have hi:=h.i;cases E:P.info? e with
 | none=>simp[E]at hi
 | some ii =>
  simp[E]at hi;simp[execOp,hx,G,Instr.indexAt,asIntOf,run_underlying h.u,Instr.sureAddr,sizeOf,typeInfo,E,hi,X5];intro J;omega
theorem QnU {a b:Nat}(E:a<256):inK .u8 ((a &&& b:Nat):Int):=by
 have:a &&& b<=a:=Nat.and_le_left;exact⟨oa,oa⟩
theorem qk {x:O4}{a b:Nat}(hx:ev f x=.int .u8 a)(I:ev f y=.int .u8 b)(E:a<256)(hb:b<256):
  (execOp (ev f) ⟨d,.binOp .and t x y G,ty,pS,af,gd⟩).run P w=.ok (.value (.int .u8 ((a &&& b:Nat):Int))) w:=by
 refine Kh hx I ?_;simp only[binOp,Op.intBits,BitVec.ofInt_natCast,ne_eq,not_true_eq_false,if_false,Sem.run_pure];rw[BitVec.toNat_and,BitVec.toNat_ofNat,BitVec.toNat_ofNat,NL (show a<2 ^ IntKind.u8.bits from E),NL (show b<2 ^ IntKind.u8.bits from hb),XX (QnU E)]
theorem QaM (m i:Nat):((m:Int) / 2 ^ i)=((m / 2 ^ i:Nat):Int):=by rw[Int.natCast_ediv,Int.natCast_pow];rfl
inductive Pt where
 | pl (l:xu)
 | fk (pre:xu) (i j:Nat) (t1 t2:Pt)
def Pt.len:Pt->Nat
 | .pl l=>l.length
 | .fk pre _ _ t1 _=>pre.length+(1+t1.len)
def Jh (all:Array Oper):xu->Array Bool->Bool
 | [],_=>true
 | (k,q)::pl,ls=>q && (Region.ready .any all ls).contains k && Region.free .any all ls k && Jh all pl (ls.setIfInBounds k true)
def ZT:xu->Array Bool->Array Bool
 | [],ls=>ls
 | (k,_)::pl,ls=>ZT pl (ls.setIfInBounds k true)
def Qi1 (all:Array Oper):Pt->Array Bool->Bool
 | .pl l,ls=>Xo all l ls
 | .fk pre i j t1 t2,ls=>Jh all pre ls && Region.ready .any all (ZT pre ls) == [i,j] && t1.len == t2.len && Qi1 all t1 ((ZT pre ls).setIfInBounds i true) && Qi1 all t2 ((ZT pre ls).setIfInBounds j true)
def XT (P:O5)(all:xE)(C:xA)(K:xz):Pt->Fr->O2->Prop
 | .pl l=>XP P all C K l
 | .fk pre i j t1 t2=>XP P all C (λf w=>(Z9 all f (QR all i)=true/\XO P (QR all i) f w λE w'=>C w'/\XT P all C K t1 E w') /\
   (Z9 all f (QR all j)=true/\XO P (QR all j) f w λE w'=>C w'/\XT P all C K t2 E w')) pre
section
variable {all:xE}{C:xA}{B:xz}
theorem YM:∀(pl:xu) (ls:Array Bool),(ZT pl ls).size=ls.size
 | [],_=>rfl
 | (k,q)::pl,ls=>by rw[ZT,YM];simp
theorem YI {m:Nat}(T:Region.noSelect all.toArray=true):∀(pl:xu) (ls:Array Bool) (f:Fr) (w:O2),C w->Jh all.toArray pl ls=true ->
  (∀f,B f w->XA P all C K m (ZT pl ls) f w)->XP P all C B pl f w->XA P all C K (pl.length+m) ls f w
 | [],ls,f,w,hC,U,G,h=>by
  simp only[XP]at h;rw[List.length_nil,LW];exact G f h
 | (I,q)::pl,ls,f,w,hC,U,G,h=>by
  simp only[Jh,oI]at U;obtain⟨⟨⟨rfl,hr⟩,hf⟩,ha⟩:=U;simp only[XP]at h;have V:I∈Region.ready .any all.toArray ls:=by simpa using hr
  have e:(oV ((I,true)::pl))+m=(pl.length+m)+1:=by simp;omega
  rw[e];cases E:all[I]? with
  | none =>
   exfalso;obtain⟨_,o,hk,_⟩:=mem_ready.1 V;simp[E]at hk
  | some o =>
   rw[ZG E]at h;have he:∀(j:Nat) (o:Oper) cs b,all[j]?=some o->o.op≠.select cs b:=λj o cs b Y=>Region.noSelect_spec T j o cs b (ou Y);have hh:=λj oj Y=>Region.free_spec (ops:=all.toArray) (md:=.any) (i:=I) (oi:=o) (listed:=ls) (ou E) hf j oj (ou Y);cases J:Z9 all f o with
   | false =>
    rw[J]at h;exact Kv (v:=undef) (D:=λw=>jt o=true->C w) E (λ_ h=>h) he _ ls f w (λ_=>hC) hh V (.inr ⟨J,O⟩) (YI T pl _ _ _ hC ha G h)
   | true =>
    rw[J]at h;simp only[cond_true]at h;obtain⟨v,hv,hx⟩:=h;exact Kv (v:=v) (D:=λw=>jt o=true->C w) E (λ_ h=>h) he _ ls f w (λ_=>hC) hh V (.inl ⟨J,hv⟩) (YI T pl _ _ _ hC ha G hx)
theorem V7 (E:Region.noSelect all.toArray=true):∀(t:Pt) (ls:Array Bool) (f:Fr) (w:O2),ls.size=all.length->C w->Qi1 all.toArray t ls=true->XT P all C K t f w->XA P all C K t.len ls f w
 | .pl l,ls,f,w,I,hC,G,h=>Yq E l ls f w I (.inl hC) G h
 | .fk pre i j t1 t2,ls,f,w,I,hC,G,h=>by
  simp only[Qi1,oI,beq_iff_eq]at G;obtain⟨⟨⟨⟨hq,J⟩,hl⟩,h1⟩,h2⟩:=G;rw[Pt.len];refine YI (B:=λf w=>(Z9 all f (QR all i)=true/\XO P (QR all i) f w λT w'=>C w'/\XT P all C K t1 T w') /\
   (Z9 all f (QR all j)=true/\XO P (QR all j) f w λT w'=>C w'/\XT P all C K t2 T w')) E pre ls f w hC hq (λf U=>?_) h
  have V:∀k,((ZT pre ls).setIfInBounds k true).size=all.length:=λk=>by simp[YM,I]
  rw[MY 1];refine J2 (λh0=>(by rw[h0]at J;cases J)) ?_;rw[J];intro k Y o ho;simp only[oK,oH,or_false]at Y;rcases Y with rfl|rfl
  ·have:=U.1;rw[ZG ho]at this;rw[this.1,cond_true];exact this.2.S λv w' hx=>⟨.inr (.inr hx.1),V7 E t1 _ _ _ (V _) hx.1 h1 hx.2⟩
  have:=U.2;rw[ZG ho]at this;rw[this.1,cond_true,hl];exact this.2.S λv w' hx=>⟨.inr (.inr hx.1),V7 E t2 _ _ _ (V _) hx.1 h2 hx.2⟩
end
theorem Ys.lt_of {a:Int}(h:Ys (a::l)){x:Int}(hx:x∈l):a<x:=(L5.1 h).1 x hx
theorem Ys.tail {a:Int}(h:Ys (a::l)):Ys l:=(L5.1 h).2
theorem QmJ (keep:Bool->Bool->Bool):∀(n:Nat) (a b:LI),a.length+b.length<=n->Ys a->Ys b->∀x,x∈mrg keep a b↔(x∈a\/x∈b)/\keep (decide (x∈a)) (decide (x∈b))=true:=by
 intro n;induction n with
 | zero =>
  intro a b h _ _ x;have V:a=[]:=Ls oa;have hb:b=[]:=Ls oa;subst V hb;simp[KG]
 | succ n ih =>
  intro a b I ia ib x;cases a with
  | nil =>
   cases b with
   | nil=>simp[KG]
   | cons y b =>
    rw[Ko keep od];have:=ih [] b (by simp at I ⊢;omega) ia ib.tail x;have G:y∉b:=λh=>oo (ib.lt_of h)
    simp only[Jj,tl,hx,cond_true,cond_false,Og,Oc,oW];rw[this];by_cases e:x=y
    ·subst e;cases E:keep false true <;> simp[E,G]
    cases keep false true <;> simp[e]
  | cons u a =>
   cases b with
   | nil =>
    rw[Ko keep od];have:=ih a [] (by simp at I ⊢;omega) ia.tail ib x;have G:u∉a:=λh=>oo (ia.lt_of h)
    simp only[Jj,tl,hx,cond_true,cond_false,Og,Oc,oW];rw[this];by_cases e:x=u
    ·subst e;cases E:keep true false <;> simp[E,G]
    cases keep true false <;> simp[e]
   | cons y b =>
    rw[Ko keep od];have U:u∉a:=λh=>oo (ia.lt_of h)
    have G:y∉b:=λh=>oo (ib.lt_of h)
    rcases Int.lt_trichotomy u y with J|J|J
    ·have T:u∉y::b:=λh=>by
      rcases Lk.1 h with h|h
      ·omega
      have:=ib.lt_of h;omega
     have:=ih a (y::b) (by simp at I ⊢;omega) ia.tail ib x;have e1:decide (u<=y)=true:=OY oa;have e2:decide (y<=u)=false:=O0 oa;simp only[Jj,tl,hx,e1,e2,cond_true,cond_false,Og,Oc,oW];rw[this];by_cases e:x=u
     ·subst e;cases E:keep true false <;> simp[E,U,T]
     cases keep true false <;> simp[e]
    ·subst J;have:=ih a b (by simp at I ⊢;omega) ia.tail ib.tail x;have e1:decide (u<=u)=true:=OY oa;simp only[Jj,tl,hx,e1,cond_true,Og,Oc,oW];rw[this];by_cases e:x=u
     ·subst e;cases E:keep true true <;> simp[E,U,G]
     cases keep true true <;> simp[e]
    have T:y∉u::a:=λh=>by
     rcases Lk.1 h with h|h
     ·omega
     have:=ia.lt_of h;omega
    have:=ih (u::a) b (by simp at I ⊢;omega) ia ib.tail x;have e1:decide (u<=y)=false:=O0 oa;have e2:decide (y<=u)=true:=OY oa;simp only[Jj,tl,hx,e1,e2,cond_true,cond_false,Og,Oc,oW];rw[this];by_cases e:x=y
    ·subst e;cases E:keep false true <;> simp[E,G,T]
    cases keep false true <;> simp[e]
theorem UD {keep:Bool->Bool->Bool}{a b:LI}(ia:Ys a)(ib:Ys b)(x:Int):x∈mrg keep a b↔(x∈a\/x∈b)/\keep (decide (x∈a)) (decide (x∈b))=true :=
 QmJ keep _ a b (Lp _) ia ib x
def setK (m k:Nat):LI:=((oO 0 k).filter λi=>decide (((m / 2 ^ i) &&& 1)=1)).map λi:Nat=>(i:Int)
theorem jR (m k:Nat):setK m (k+1)=if(m / 2 ^ k) &&& 1=1 then setK m k++[(k:Int)]else setK m k:=by
 unfold setK;rw[Mj,LT,Ly,LW];by_cases h:(m / 2 ^ k) &&& 1=1
 ·rw[OV h,L4,OV (OY h)];rfl
 rw[OU h,L4,OU (by rw[O0 h];simp),MP,Nl,LH]
theorem Ul (m:Nat):∀k,(setK m k).length<=k
 | 0=>by simp[setK]
 | k+1=>by
  have:=Ul m k;rw[jR];split
  ·simp;omega
  omega
theorem Qcj (m k:Nat):Ys (setK m k):=by
 unfold setK Ys;rw[L9];refine List.Pairwise.sublist MD ?_;exact(M8 (s:=0) (n:=k)).imp (λh=>oa)
instance ayCx1:Ay sV 183 4 5 1:=⟨oc,oc⟩
theorem q8 {e bys:Nat}[h:Sl P t e sz bys z]{v:O3}(E:w.ownsRow base e sz v n cs):
  (Builtin.append_ #[t,t] ty #[v,nS]).run P w=.ok v w:=by
 obtain⟨i,hi,_,I,_⟩:=Sl.info h;rcases E.2 with⟨rfl,rfl⟩|⟨g,cap,cur,rfl,J,T,G,U,V,Y⟩
 ·simp[Builtin.append_,run_underlying h.u,sizeOf,typeInfo,hi,Builtin.lenOf,Builtin.firstCells]
 simp[Builtin.append_,run_underlying h.u,sizeOf,typeInfo,hi,Builtin.lenOf,Builtin.firstCells,G,storeCells]
theorem Qa5 {e bys:Nat}[h:Sl P t e sz bys z]{s:O4}{v:O3}(E:w.ownsRow base e sz v n cs)(G:ev f s=v)
  {I:O3}  {news:LV}  (hA:Zu L ↑w I m sz news) (J:ev f y=I) (T:∀u∈news,u.oneCell'=true)
  (hb:n+m<=1099511627776) (U:base<=↑w)
  (hK:∀v' w',w'.ownsRow base e sz v' (n+m) (cs++news)->O6 (ob v) w w'->(∀b∈ob v',b∈ob v\/↑w<=b)->K (QP f d v') w') (V:bys<=128:=by decide):
  XO P ⟨d,.call ⟨.builtin .append,#[s,y],#[t,t]⟩,ty,pS,af,gd⟩ f w K:=by
 rcases hA.2.2 with⟨e1,e2⟩|⟨a,c,e1,_,e3⟩
 ·subst e2;have Y:news=[]:=Ls (by have:=hA.1;simpa using this);subst Y;have ha:(execOp (ev f) ⟨d,.call ⟨.builtin .append,#[s,y],#[t,t]⟩,ty,pS,af,gd⟩).run P w=.ok (.value v) w:=by
   simp[execOp,resolve,invoke,builtin,G,J,e1,q8 (ty:=ty) E]
  exact xv ha (hK v w (ou E) (O6.Y _ _) (λb hb=>.inl hb))
 exact Q2 E G (J.D e1) hA.1 e3 T hb U hK V
theorem Qgf {v:O3}(h:Qu L ↑w v l)(x:Int):
  QU sV 274 [v,sS x] w λr w'=>r=.bool (decide (x∈l))/\w'=w:=by
 have V:=h.le;refine Zm func274 ?_;refine Qc<|Lg.Qb<|Qd<|Qc<|Lg.Qb<|QX (α:=Nat) [(4,17)] (λk=>[(5,sS k)]) (λk w'=>w'=w/\k<=l.length/\(x∈l↔x∈l.drop k)) (λk=>l.length - k) 0 La ⟨O,Lo _,od⟩ ?_;rintro k g w' ⟨rfl,Y,G⟩;refine Qd<|Qc<|Lg.Qa<|Lg.Qa<|Lg.x (Y1 h O)<|Lg.ZW O O<|xe<|Zp rfl (λT=>?_) (λT=>?_)
 ·refine Qt<|Qc<|Lg.Qb<|Qj ⟨[.bool false],La,?_,O⟩;rw[Lu oa]at G;simp[tup,G]
 have J:k<l.length:=oa
 have hd:=QY J;refine Qf<|Qd<|Qn<|Qc<|Lg.Qa<|Lg.Qa<|xii h O O J λha U=>Lg.x (Qq U O)<|Lg.Qa<|Lg.x (Zc O O)<|xe<|Zg rfl (λI=>?_) (λI=>?_)
 ·refine Qc<|Lg.Qb<|Qj ⟨[.bool true],La,?_,O⟩;have:x∈l:=by rw[G,hd,I];exact Lh
  simp[tup,this]
 refine Qf<|Qr<|Lg.Qa<|Lg.QB O O<|Lg.Qb<|⟨k+1,oa,La,O,oa,?_⟩;rw[G,hd,Lk];exact⟨λh=>h.resolve_left (λe=>I e.symm),.inr⟩
theorem Qb9 (h:U4 L ↑w ve a.ed)(s e:Int)(st:Int):
  QU sV 275 [.agg #[va,sS st,vm,ve],sS s,sS e] w λr w'=>r=sS (nxt a.ed s e)/\sW w w':=by
 have hh:=h.le;refine Zm func275 ?_;refine Qc<|Zf [va,sS st,vm,ve] λb3 Y T hj G=>Lg.Qb ?_
 replace h:=h.I T;refine Qd<|Qc<|Lg.Qb<|QX (α:=Nat) [(6,38)] (λk=>[(7,sS k)]) (λk w'=>w'=Y/\k<=a.ed.length/\nxt (a.ed.drop k) s e=nxt a.ed s e) (λk=>a.ed.length - k) 0 La ⟨O,Lo _,O⟩ ?_;rintro k g w2 ⟨rfl,hk,I⟩;refine Qd<|Qc<|Lg.Qa<|Lg.Q9 O<|Lg.x (Qk G O O)<|Lg.x (Y1 h O)<|Lg.ZW O O<|xe<|Zp rfl (λha=>?_) (λha=>?_)
 ·refine Qt<|Qc<|Lg.Qb<|Qj ⟨[sS (-1)],La,?_,T⟩;rw[Lu oa]at I;rw[<-I];rfl
 have J:k<a.ed.length:=oa
 have hd:=QY J;refine Qf<|Qd<|Qn<|QW (α:=Bool) [(15,32)] (λz=>[(32,.bool z)]) (λz w'=>w'=w2/\z=decide (a.ed[k].1=s/\a.ed[k].2.1=e)) oh ?_ ?_
 ·refine Qr<|Lg.Q9 O<|Lg.x (Qk G O O)<|Lg.Qa<|xie h O O J λhm he=>Lg.x (ZF O)<|Lg.x (Qq (he.fld 0 _ O) O) <|
   Lg.Qa<|xb (Zc O O) (λU=>?_) (λU=>?_)
  ·refine Lg.Qa<|Lg.Q9 O<|Lg.x (Qk G O O)<|Lg.Qa<|xie h O O J λho hf=>Lg.x (ZF O)<|Lg.x (Qq (hf.fld 1 _ O) O) <|
    Lg.Qa<|Lg.x (Zc O O)<|Lg.QC O<|xe ?_
   exact⟨_,La,O,by simp[U]⟩
  refine Lg.Qa<|ZA<|ZA<|YP<|Lg.QC O<|xe ?_;exact⟨_,La,O,by simp[U]⟩
 rintro z g w3 ⟨rfl,rfl⟩;refine Zg rfl (λV=>?_) (λV=>?_)
 ·refine Qc<|Lg.Q9 O<|Lg.x (Qk G O O)<|Lg.Qa<|xie h O O J λhp hg=>Lg.x (ZF O)<|Lg.x (Qq (hg.fld 2 _ O) O) <|
   Lg.Qb<|Qj ⟨[sS a.ed[k].2.2],La,?_,T⟩
  rw[<-I,hd,nxt,OV V];rfl
 refine Qf<|Qr<|Lg.Qa<|Lg.QB O O<|Lg.Qb<|⟨k+1,oa,La,O,oa,?_⟩;rw[<-I,hd,nxt,OU V]
def zf (l:LI)(n:Int):Int:=if n∈l then(l.idxOf n:Int) else -1
theorem Qj2 {n:Int}{k:Nat}(h:n∉l.take k)(G:k<l.length)(I:O7 l k=n):zf l n=k:=by
 have J:n∈l:=by rw[<-I,<-Zo G];exact Lm G
 unfold zf;rw[OV J];have T:l=l.take k++l.drop k:=(MH k l).symm;have:l.idxOf n=k:=by
  rw[T,Ma,OU h,Me G,List.idxOf_cons,show l[k]=n by rw[Zo G];exact I];simp;omega
 rw[this]
theorem Qhw {v:O3}(h:Qu L ↑w v l)(n:Int):
  QU sV 276 [v,sS n] w λr w'=>r=sS (zf l n)/\w'=w:=by
 have V:=h.le;refine Zm func276 ?_;refine Qc<|Qb<|Qd<|Qc<|Qb<|QX (α:=Nat) [(4,18)] (λz=>[(5,sS z)]) (λz w'=>w'=w/\z<=l.length/\n∉l.take z) (λz=>l.length - z) 0 La ⟨O,Lo _,od⟩ ?_;rintro k g Y ⟨rfl,hk,I⟩;refine Qd<|Ql<|Qa<|QG h O<|ZW O O<|xe<|Zp rfl (λT=>?_) (λT=>?_)
 ·refine Qt<|Qc<|Qb ?_;rw[Lr oa]at I;exact Qj ⟨[sS (-1)],La,by unfold zf;rw[OU I];rfl,O⟩
 have G:k<l.length:=oa
 refine Qf<|Qd<|Qn<|Ql<|Qa<|xic (i:=k) h O O G λha U=>x (Qq U O)<|Qa<|x (Zc O O)<|xe<|Zg rfl (λJ=>?_) (λJ=>?_)
 ·refine Ql<|Qb<|Qj ⟨[sS k],La,by rw[Qj2 I G J];rfl,O⟩
 refine Qf<|Qr<|Qa<|QB O O<|Qb<|⟨k+1,oa,La,O,G,?_⟩;rw[Ll G,Zo G];simp only[oW,oF,not_or];exact⟨I,λe=>J e.symm⟩
theorem qz {v:O3}(h:Qu L ↑w v l)(hl:l.length<=1000000):
  QU sV 235 [v] w λr w'=>sW w w'/\∃va,r=.agg #[va,sS 0,nS,nS]/\Qh 3 ↑w w' va l:=by
 refine Zm func235 ?_;refine Qc<|QT [nS,sS 0,nS,nS] λb2 G V hg Y=>xe ?_;have hh:=V.size;have hj:=Y.lt;refine Qc<|Qo<|Qej λb3 w2 I hk hm=>Qa<|?_;have ha:=V.D I;have hs:=I.size;have J:w2.ownsRow ↑G 3 1 (sL b3 0 0) 0 []:=hm.own (n:=0) (sz:=1) O oa hk;refine Qo<|Qa5 J O (h.I ha) O (Uy l) oa oa λva T hn he hu=>?_;have U:Qh 3 ↑G T va l:=by
  have:T.ownsRow ↑G 3 1 va (0+l.length) ([]++l.map (.int .i64)):=hn;rw[LW,Mz]at this;exact this
 have hA:=Qh.ints (L:=[]) U oa od;have ho:=(Y.I I).J he (QJ J hj);have hp:sW w T:=ha.O he (λb hb=>.inr (oo (Qi J b hb).1));refine x (QD ⟨hA.cells,Z⟩)<|Q5 [va,sS 0,nS,nS] ho ⟨hA.one,O,O,O,Z⟩ λw4 hf hq=>xe ?_;have hr:=Qg U hf (λb hb=>by have:=(Qi U b hb).1;simp;omega);exact Qj ⟨[.agg #[va,sS 0,nS,nS]],⟨JN hq,Z⟩,hp.Q hf hg,va,O,Za hr hh⟩
theorem xI:∀(n:Nat) (l:LI),l.Nodup->(∀x∈l,0<=x/\x<n)->l.length<=n
 | 0,l,_,h=>by
  cases l with
  | nil=>simp
  | cons a l=>have:=h a Lh;omega
 | n+1,l,hd,h=>by
  by_cases G:(n:Int)∈l
  ·have J:=xI n (l.erase (n:Int)) (hd.erase _) (λx hx=>by
    have I:=(List.Nodup.mem_erase_iff hd).1 hx;have T:=h x I.2;have U:x≠(n:Int):=I.1;omega)
   rw[List.length_erase_of_mem G]at J;omega
  have:=xI n l hd (λx hx=>by
   have T:=h x hx;have U:x≠(n:Int):=λe=>G (by rw[<-e];exact hx);omega)
  omega
def VF (a:Qz)(s:Int)(out:LI)(v:Int):LI:=if 0<=nxt a.ed s v/\nxt a.ed s v∉out then out++[nxt a.ed s v]else out
def fdR (a:Qz)(out:LI)(s:Int):LI:=a.al.foldl (VF a s) out
def zI (a:Qz):Nat->Nat->LI->LI
 | 0,_,out=>out
 | f+1,i,out=>if i<out.length then zI a f (i+1) (fdR a out (O7 out i)) else out
def fd0 (a:Qz):LI:=if 0<a.st then[0]else[]
def xq (a:Qz):LI:=zI a a.st.toNat 0 (fd0 a)
structure zn (a:Qz)(out:LI):Prop where
 b:∀x∈out,0<=x/\x<a.st
 d:out.Nodup
theorem zn.len (h:zn a out)(G:0<=a.st):out.length<=a.st.toNat:=xI _ _ h.d (λx hx=>oo (h.b x hx))
theorem zB {v:Int}(h:0<=nxt es s v):(s,v,nxt es s v)∈es:=by
 induction es with
 | nil=>simp[nxt]at h
 | cons e es ih =>
  rw[nxt]at h ⊢;split at h
  ·rename_i G;rw[OV G];obtain⟨p,q,r⟩:=e;obtain⟨I,J⟩:=G;subst I J;exact Lh
  rename_i G;rw[OU G];exact Lj _ (ih h)
theorem Qkr (I:QS a)(h:zn a out)(s v:Int):zn a (VF a s out v):=by
 unfold VF;split
 ·rename_i hc;have J:=I.ed _ (zB hc.1);refine⟨λx hx=>?_,?_⟩
  ·rcases Le.1 hx with hx|hx
   ·exact h.b x hx
   simp only[oF]at hx;subst hx;exact⟨hc.1,J.2.2.2.2⟩
  rw[Mf];refine⟨h.d,od,λx hx y G=>?_⟩;simp only[oF]at G;subst G;exact λe=>hc.2 (by rw[<-e];exact hx)
 exact h
theorem Qno {v:Int}:∀x∈out,x∈VF a s out v:=λx hx=>by unfold VF;split;exact LG _ hx;exact hx
theorem QpK {v:Int}(h:0<=nxt a.ed s v):nxt a.ed s v∈VF a s out v:=by
 unfold VF;by_cases G:nxt a.ed s v∈out
 ·rw[OU (λe=>e.2 G)];exact G
 rw[OV ⟨h,G⟩];simp
theorem Qkp {a:Qz}(G:QS a)(s:Int):∀(vs:LI) (out:LI),zn a out->zn a (vs.foldl (VF a s) out)
 | [],_,h=>h
 | v::vs,_,h=>Qkp G s vs _ (Qkr G h s v)
theorem Qbt {a:Qz}{s:Int}:∀(vs:LI) (out:LI),∀x∈out,x∈vs.foldl (VF a s) out
 | [],_,_,hx=>hx
 | _::vs,_,x,hx=>Qbt vs _ x (Qno x hx)
theorem Qkq {a:Qz}{s:Int}:∀(vs:LI) (out:LI),∀v∈vs,0<=nxt a.ed s v->nxt a.ed s v∈vs.foldl (VF a s) out
 | v::vs,out,u,G,h=>by
  rcases Lk.1 G with rfl|G
  ·exact Qbt vs _ _ (QpK h)
  exact Qkq vs _ u G h
theorem Qgj {a:Qz}{s:Int}:∀(vs:LI) (out:LI),∃r,vs.foldl (VF a s) out=out++r
 | [],out=>⟨[],od⟩
 | v::vs,out=>by
  obtain⟨r,G⟩:=Qgj (a:=a) (s:=s) vs (VF a s out v);rw[LQ,G];unfold VF;split
  ·exact⟨[nxt a.ed s v]++r,od⟩
  exact⟨r,O⟩
theorem y8 (h:i<l.length):O7 (l++r) i=O7 l i:=by
 rw[<-Zo h,<-Zo (by simp;omega),Ms h]
def Cl (a:Qz)(out:LI)(i:Nat):Prop:=∀j,j<i->j<out.length->∀v∈a.al,0<=nxt a.ed (O7 out j) v->nxt a.ed (O7 out j) v∈out
theorem Cl.next (h:Cl a out i)(hi:i<out.length):Cl a (fdR a out (O7 out i)) (i+1):=by
 intro j V Y v I G;obtain⟨r,U⟩:=Qgj (a:=a) (s:=O7 out i) a.al out;have J:fdR a out (O7 out i)=out++r:=U;have T:j<out.length:=oa
 rw[J,y8 T]at G ⊢;by_cases e:j=i
 ·subst e;have:=Qkq a.al out v I G;rw[<-J];exact this
 exact LG _ (h j oa T v I G)
theorem Qko {a:Qz}(G:QS a):∀(f i:Nat) (out:LI),zn a out->Cl a out i->i+f=a.st.toNat->zn a (zI a f i out)/\Cl a (zI a f i out) (zI a f i out).length
 | 0,i,out,h,hc,T=>by
  have:=h.len G.st0;exact⟨h,λj J I=>hc j (by rw[zI]at J;omega) I⟩
 | f+1,i,out,h,hc,T=>by
  rw[zI];split
  ·rename_i hi;exact Qko G f (i+1) _ (Qkp G _ _ _ h) (hc.next hi) oa
  rename_i hi;exact⟨h,λj J I=>hc j oa I⟩
theorem Qks (a:Qz):zn a (fd0 a):=by
 unfold fd0;split
 ·rename_i h;exact⟨λx hx=>by simp only[oF]at hx;subst hx;exact⟨oa,h⟩,od⟩
 exact⟨od,od⟩
theorem yF (J:QS a):zn a (xq a)/\∀s∈xq a,∀v∈a.al,0<=nxt a.ed s v->nxt a.ed s v∈xq a:=by
 obtain⟨T,U⟩:=Qko J a.st.toNat 0 (fd0 a) (Qks a) (λj G=>oa) oa;refine⟨T,λs V v Y I=>?_⟩;obtain⟨j,G,rfl⟩:=LR V;have:=U j G G v Y;unfold xq at G I ⊢;rw[Zo G]at I ⊢;exact this I
def Kt (a:Qz)(fd:LI)(i:Nat)(v:Int):Option Ed:=if 0<=nxt a.ed (O7 fd i) v then some ((i:Int),v,zf fd (nxt a.ed (O7 fd i) v)) else none
def YY (a:Qz)(fd:LI)(n:Nat):LI:=((oO 0 n).filter λi=>decide (O7 fd i∈a.mr)).map λi:Nat=>(i:Int)
def Xh (a:Qz)(fd:LI)(n:Nat):List Ed:=(oO 0 n).flatMap λi=>a.al.filterMap (Kt a fd i)
def Y9 (a:Qz):Qz:=⟨a.al,(xq a).length,YY a (xq a) (xq a).length,Xh a (xq a) (xq a).length⟩
theorem Ji {β:Type}{r:Int->Int->Prop}{q:β->β->Prop}{g:Int->Option β}(G:∀x y u v,r x y->g x=some u->g y=some v->q u v):∀{l:LI},l.Pairwise r->(l.filterMap g).Pairwise q
 | [],_=>od
 | x::l,h=>by
  obtain⟨J,I⟩:=L5.1 h;rw[Mr];split
  ·exact Ji G I
  rename_i u T;refine L5.2 ⟨λv U=>?_,Ji G I⟩;obtain⟨y,V,Y⟩:=MF.1 U;exact G x y u v (J y V) T Y
theorem QbI (I:QS a):QS (Y9 a)/\(Y9 a).al=a.al/\(Y9 a).st<=a.st:=by
 obtain⟨h1,h2⟩:=yF I;have hl:=h1.len I.st0;have h0:=I.st0;have h4:=I.st1;refine⟨⟨I.al,I.ali,by simp[Y9],by simp only[Y9];omega,λs V=>?_,?_,λe T=>?_,?_⟩,O,by simp only[Y9];omega⟩
 ·simp only[Y9,YY,Om,Oj,Oh]at V;obtain⟨i,⟨hi,_⟩,rfl⟩:=V;simp only[Y9];omega
 ·simp only[Y9,YY];unfold Ys;rw[L9];refine List.Pairwise.sublist MD ?_;exact(M8 (s:=0) (n:=(xq a).length)).imp (λh=>oa)
 ·simp only[Y9,Xh,List.mem_flatMap,List.mem_filterMap,Oh]at T;obtain⟨i,⟨_,hi⟩,v,J,G⟩:=T;unfold Kt at G;split at G
  ·rename_i hn;cases G
   have hi':i<(xq a).length:=oa
   have Y:=h2 (O7 (xq a) i) (by rw[<-Zo hi'];exact Lm hi') v J hn;have hx:=L7 Y;simp only[Y9];unfold zf;rw[OV Y];exact⟨oa,oa,J,oa,oa⟩
  cases G
 simp only[Y9,Xh];have key:∀(is:LN),is.Pairwise (·<·)->(is.flatMap λi=>a.al.filterMap (Kt a (xq a) i)).Pairwise λx y:Ed=>x.1<y.1\/(x.1=y.1/\x.2.1<y.2.1):=by
  intro is;induction is with
  | nil=>intro _;simp
  | cons i is ih =>
   intro hp;obtain⟨p1,p2⟩:=L5.1 hp;rw[LM,Mk];have from_i:∀(i:Nat) (e:Ed),e∈a.al.filterMap (Kt a (xq a) i)->e.1=i:=by
    intro i e T;obtain⟨v,_,G⟩:=MF.1 T;unfold Kt at G;split at G
    ·cases G;rfl
    cases G
   refine⟨?_,ih p2,λe T e' ha=>?_⟩
   ·refine Ji (r:=(·<·)) (λx y u v hg U J=>?_) I.ali;unfold Kt at U J;split at U
    ·cases U;split at J
     ·cases J;exact .inr ⟨O,hg⟩
     cases J
    cases U
   obtain⟨j,hj,hh⟩:=Mc.1 ha;have e1:=from_i i e T;have e2:=from_i j e' hh;have:=p1 j hj;left;omega
 exact key _ (M8 (s:=0) (n:=(xq a).length))
theorem Qhz (h:Zr L ↑w va vm ve a)(ho:QS a):
  QU sV 273 [.agg #[va,sS a.st,vm,ve]] w λr w'=>sW w w'/\Qh 3 ↑w w' r (xq a):=by
 have h0:=ho.st0;have h1:=ho.st1;have hW:=ho.al_le;refine Zm func273 ?_;refine Qc<|Zf [va,sS a.st,vm,ve] λb1 V hj hX hw=>Qb<|Qc<|Qb ?_;have hB:=hj.size;refine QW (α:=O3) [(3,3),(7,12)] (λz=>[(3,z)]) (λz w'=>sW V w'/\Qh 3 ↑V w' z (fd0 a)) oh ?_ ?_
 ·refine Qc<|Qs O hw O O<|x (Z8 O O)<|xe<|Zp O (λh9=>?_) (λh9=>?_)
  ·refine Qf ?_;exact⟨nS,La,O6.Y _ _,by unfold fd0;rw[OU h9];exact QL _ _ _ _⟩
  refine Qr<|Qa<|Qo<|Q8 [[sS 0]] λb11 w2 hy hY hC=>?_;have hn:w2.ownsRow ↑V 3 1 (nS) 0 []:=QL _ _ _ _;have hZ:=hy.size;refine Qo<|Q2 (news:=[sS 0]) (L:=[]) hn O O O (hC.at od) om oa oa λv3 w3 hD hE ga =>
   Qb<|⟨v3,La,hy.O hE (λb hb=>by simp[ob]at hb),?_⟩
  unfold fd0;rw[OV h9];exact hD
 rintro v0 g4 w4 ⟨hF,hG⟩;refine Zd (xq a) λT hT=>?_;have hH:zI a a.st.toNat 0 (fd0 a)=T:=hT;refine Qd<|Qc<|Qb<|QX (α:=Nat×LI×O3) [(3,6),(13,48)] (λz=>[(3,z.2.2),(4,sS z.1)])
  (λz w'=>sW V w'/\Qh 3 ↑V w' z.2.2 z.2.1/\zn a z.2.1/\z.1<=z.2.1.length/\zI a (a.st.toNat - z.1) z.1 z.2.1=T) (λz=>a.st.toNat - z.1) (0,fd0 a,v0) ov
  ⟨hF,hG,Qks a,Lo _,hH⟩ ?_
 rintro⟨i,out,v⟩ g5 w5 ⟨hm,Y,G,hi,ha⟩;simp only[]at Y G hi ha;have hz:=G.len h0;have h2:=Qh.ints (L:=[]) Y oa od;refine Qd<|Ql<|Qa<|QG h2 O<|ZW O O<|xe<|Zp rfl (λh3=>?_) (λh3=>?_)
 ·have e:out=T:=by
   rw[<-ha];generalize a.st.toNat - i=f;cases f with
   | zero=>rfl
   | succ f=>rw[zI,OU oa]
  refine Qt<|Ql<|Qb ?_;rw[e]at Y;exact Qj ⟨[v],La,hj.D hm,by rw[hT];exact Za Y hB⟩
 have J:i<out.length:=oa
 have hI:a.st.toNat - i=(a.st.toNat - (i+1))+1:=oa
 rw[hI,zI,OV J]at ha;refine Zd (O7 out i) λs U=>?_;rw[U]at ha;refine Zd (fdR a out s) λR hR=>?_;rw[hR]at ha;unfold fdR at hR;refine Qf<|Qd<|Qn<|Qc<|Qb<|QX (α:=Nat×LI×O3) [(3,3),(5,6),(19,48)] (λz=>[(3,z.2.2),(5,sS z.1)])
  (λz w'=>sW V w'/\Qh 3 ↑V w' z.2.2 z.2.1/\zn a z.2.1/\z.1<=a.al.length/\i<z.2.1.length/\O7 z.2.1 i=s/\(a.al.drop z.1).foldl (VF a s) z.2.1=R) (λz=>a.al.length - z.1) (0,out,v) ov
  ⟨hm,Y,G,Lo _,J,U,hR⟩ ?_
 clear hm Y G hi hz h2 J U hR h3;rintro⟨k,out,v⟩ g6 w6 ⟨he,hf,G,hk,J,U,I⟩;simp only[]at hf G hk J U I;have hz:=G.len h0;have h4:=(h.al.I hj).I he;have hp:=hw.I he;have h5:=Qh.ints (L:=[]) hf oa od;refine Qd<|Ql<|Qs O hp O O<|QG h4 O<|ZW O O<|xe<|Zp rfl (λhJ=>?_) (λhJ=>?_)
 ·refine Qt<|Qr<|Qa<|QB O O<|Qb ?_;rw[Lu oa]at I;have hK:out=R:=I;exact⟨(i+1,out,v),oe,ov,he,hf,G,J,by simp only[];rw[hK];exact ha⟩
 have hg:k<a.al.length:=oa
 rw[Me hg,LQ,Zo hg]at I;refine Zd (O7 a.al k) λu hu=>?_;rw[hu]at I;have hL:=(h.ed.I hj).I he;refine Zd (nxt a.ed s u) λt ht=>?_;have hM:VF a s out u=if 0<=t/\t∉out then out++[t]else out:=by unfold VF;rw[ht]
 have hq:=Qkr ho G s u;rw[hM]at I hq;refine Qf<|Qd<|Qn<|Qd<|ZK [] (Xj 0 12 [10])<|pq (λ_ hc=>Zi (hp.I hc) O O)<|p Qy<|p Qy<|pic (i:=i) O h5 O O J λgb h6=>?_;rw[U]at h6;refine pq (λ_ hc=>Qq (h6.I hc) O)<|p (QH O)<|pq (λ_ hc=>Qk (hp.I hc) O O)<|p Qy <|
  pic (i:=k) O h4 O O hg λgc h7=>?_
 rw[hu]at h7;have hsr:=Qb9 (va:=va) (vm:=vm) (a:=a) (hL.I (O6.X [] w6)) s u a.st;rw[ht]at hsr;refine pq (λ_ hc=>Qq (h7.I hc) O)<|pk<|xg<|hsr.S ?_;rintro r7 w7 ⟨rfl,hN⟩;have hh:=(O6.X [] w6).D hN;refine⟨hh,p ZI<|pe ?_⟩;have h8:=Qm hf hh;have hO:=h5.I hh;refine QW (α:=Unit) [(37,44)] (λz=>[(44,.bool (decide (0<=t/\t∉out)))]) (λz w'=>w'=w7) oh ?_ ?_
 ·refine Qr<|Qa<|xb (Yf O O) (λhr=>?_) (λhr=>?_)
  ·refine Qa<|Qa<|Qa<|Qw<|(Qgf hO t).S ?_;rintro r8 w8 ⟨rfl,rfl⟩;refine x (Zj O)<|QC O<|xe<|⟨(),⟨OW Value.bool ?_,Z⟩,O⟩;show(!decide (t∈out))=_;rw[Bool.eq_iff_iff];simp[hr]
  refine Qa<|ZA<|Kd<|QC O<|xe ?_;exact⟨(),⟨OW Value.bool (O0 (λe=>hr e.1)).symm,Z⟩,O⟩
 rintro _ g9 w9 rfl;refine Zp rfl (λhs=>?_) (λhs=>?_)
 ·rw[OU hs]at I;refine Qf<|Qr<|Qa<|QB O O<|Qb<|⟨(k+1,out,v),oe,ov,he.D hh,h8,G,hg,J,U,I⟩
 rw[OV hs]at I hq;have hA:=he.D hh;have ge:=hA.size;refine Qr<|Qa<|Qa<|Qo<|Q8 [[sS t]] λgg gh hv gi hP=>?_;have hQ:=Qm h8 hv;have gj:=hv.size;refine Qo<|Q2 (news:=[sS t]) (L:=[]) hQ O O O (hP.at od) om oa oa λhS gk hU hV gl =>
  Qb ?_
 have hge:=Qi hf;refine Qr<|Qa<|QB O O<|Qb<|⟨(k+1,out++[t],hS),oe,ov,(hA.D hv).O hV (λb hb=>.inr (hge b hb).1),Qh.snoc hU,hq,hg,by simp;omega,?_,I⟩;simp only[];rw[y8 J];exact U
structure CrI (w7:O2)(b4:Nat)(vcl:O3)(n:Int)(vm vd:O3)(M:LI)(E:List Ed)(w:O2):Prop where
 st:O6 [b4] w7 w
 B:QK ↑w b4 53 [vcl,sS n,vm,vd]
 m:Qh 3 ↑w7 w vm M
 e:Yd 179 ↑w7 w vd E
 dj:Dj vm vd
section
variable {w7 w'':O2}{b4:Nat}{vcl:O3}{n:Int}{vd:O3}{M:LI}{E:List Ed}
theorem CrI.I (h:CrI w7 b4 vcl n vm vd M E w)(G:sW w w'):CrI w7 b4 vcl n vm vd M E w':=⟨h.st.D G,h.B.I G,Qm h.m G,Qm h.e G,h.dj⟩
theorem CrI.setM (h:CrI w7 b4 vcl n vm vd M E w)(hb:b4<w7.heap.size){G:O3}{M':LI}(T:O6 (ob vm) w w')(U:Qh 3 ↑w7 w' G M')(V:∀b∈ob G,b∈ob vm\/↑w<=b)(I:O6 [b4] w' w'')
  (Y:QK ↑w'' b4 53 [vcl,sS n,G,vd]):CrI w7 b4 vcl n G vd M' E w'' :=
 ⟨(h.st.O T (λb hb=>.inr (Qi h.m b hb).1)).V I,Y,Qg U I (λb J=>by have:=(Qi U b J).1;simp;omega),
  Qg (Qg h.e T h.dj.symm) I (λb J=>by have:=(Qi h.e b J).1;simp;omega),(h.dj.symm.grow V (QV h.e)).symm⟩
theorem CrI.setE (h:CrI w7 b4 vcl n vm vd M E w)(hb:b4<w7.heap.size){G:O3}{E':List Ed}(T:O6 (ob vd) w w')(U:Yd 179 ↑w7 w' G E')(V:∀b∈ob G,b∈ob vd\/↑w<=b)(I:O6 [b4] w' w'')
  (Y:QK ↑w'' b4 53 [vcl,sS n,vm,G]):CrI w7 b4 vcl n vm G M E' w'' :=
 ⟨(h.st.O T (λb hb=>.inr (Qi h.e b hb).1)).V I,Y,Qg (Qg h.m T h.dj) I (λb J=>by have:=(Qi h.m b J).1;simp;omega),
  Qg U I (λb J=>by have:=(Qi U b J).1;simp;omega),h.dj.grow V (QV h.m)⟩
end
theorem Qaq (a:Qz)(fd:LI)(k:Nat):YY a fd (k+1)=if O7 fd k∈a.mr then YY a fd k++[(k:Int)]else YY a fd k:=by
 unfold YY;rw[Mj,LT,Ly,LW];by_cases h:O7 fd k∈a.mr
 ·rw[OV h,L4,OV (OY h)];rfl
 rw[OU h,L4,OU (by rw[O0 h];simp),MP,Nl,LH]
theorem Qdq (a:Qz)(fd:LI):∀k,(YY a fd k).length<=k
 | 0=>by simp[YY]
 | k+1=>by
  have:=Qdq a fd k;rw[Qaq];split
  ·simp;omega
  omega
theorem QhJ (a:Qz)(fd:LI)(k:Nat):Xh a fd (k+1)=Xh a fd k++a.al.filterMap (Kt a fd k):=by
 unfold Xh;rw[Mj,LF,LW];simp
theorem jx (h:Zr L ↑w va vm ve a)(U:QS a):
  QU sV 236 [.agg #[va,sS a.st,vm,ve]] w λr w'=>sW w w'/\Xb ↑w ↑w' r (Y9 a):=by
 have h1:=U.st1;have ku:=U.al_le;have ga:=((yF U).1).len U.st0;refine Zm func236 ?_;refine Zd (xq a) λfd hs=>?_;rw[hs]at ga;have gb:Y9 a=⟨a.al,fd.length,YY a fd fd.length,Xh a fd fd.length⟩:=by unfold Y9;rw[hs]
 refine Qc<|Zf [va,sS a.st,vm,ve] λb1 w1 gc kv hv=>QT [nS,sS 0,nS,nS] λb2 w2 hw kw hD=>xe ?_;have V:=gc.D hw;have hfr:=Qhz (h.I V) U;rw[hs]at hfr;refine Qc<|Q3 (hv.I hw) O O<|Qw<|hfr.S ?_;rintro vf w3 ⟨hn,ge⟩;refine Qb ?_;have hE:=V.D hn;have hF:=(hv.I hw).I hn;refine Qc<|Qs O hF O O<|Qw<|(qz (h.al.I hE) oa).S ?_;rintro r4 w4 ⟨hG,vcl,rfl,Y⟩;have hH:=Qh.ints (L:=[]) Y oa od;refine QT [nS,sS 0,nS,nS] λb4 w5 gg gh gi =>
  Q5 [vcl,sS 0,nS,nS] gi ⟨hH.one,O,O,O,Z⟩ λw6 gj hJ=>xe ?_
 have hz:sW w4 w6:=gg.Q gj gh;have ha:=hG.D hz;have hK:=Qh.ints (L:=[]) ge oa od;have kx:=hn.size;have kz:=hG.size;have k0:=hz.size;have k4:=hv.lt;have k5:=hD.lt;have k6:=hJ.lt;refine Ql<|QG hK O<|Q9 O<|Qo<|Qv (u:=sS fd.length) hJ O O od rfl λw7 J gk=>xe ?_;have k9:=J.size;have ma:O6 [b4] w3 w7:=(ha.any (L:=[b4])).V J;have hL:sW w w7:=(hE.D ha).Q J oa;have hM:Qu [b4] ↑w7 vf fd:=((hK.up (L':=[b4]) (λb hb=>.inr (by simp at hb;omega))).I ha).st J;have h0:Zr [b4] ↑w7 va vm ve a:=(h.up (λb hb=>.inr (by simp at hb;omega))).I hL;have gl:Qh 3 ↑w3 w7 vcl a.al:=Qg (Qm Y hz) J (λb hb=>by have:=QV Y b hb;simp;omega);have hN:=(hF.I ha).J J (by simp;omega);have he:b4<w7.heap.size:=oa
 have n1:b1∉[b4]:=by simp;omega
 have n2:b2∉[b4]:=by simp;omega
 refine Qd<|Qc<|Qb<|QX (α:=Nat×O3×O3) [(5,7),(16,69)] (λz=>[(5,sS z.1)])
  (λz w'=>z.1<=fd.length/\CrI w7 b4 vcl fd.length z.2.1 z.2.2 (YY a fd z.1) (Xh a fd z.1) w'/\(Xh a fd z.1).length<=z.1*32) (λz=>fd.length - z.1) (0,nS,nS) La
  ⟨Lo _,⟨O6.Y _ _,gk,QL _ _ _ _,QL _ _ _ _,Dj.nil' _⟩,Lo _⟩ ?_
 rintro⟨i,v1,v2⟩ g8 w8 ⟨hi,hI,h2⟩;simp only[]at hi hI h2;have gm:=Qdq a fd i;have hO:=hM.st hI.st;refine Qd<|Ql<|Qa<|QG hO O<|ZW O O<|xe<|Zp rfl (λgn=>?_) (λgn=>?_)
 ·have gq:i=fd.length:=oa
  rw[gq]at hI h2 gm;refine Qt ?_;have gr:=Qh.ints (L:=[]) hI.m oa od;have gs:=Yd.eds (L:=[]) hI.e oa od;refine Qc<|Q3 hI.B O O<|Q5 [vcl,sS fd.length,v1,v2] ((((hD.I hn).I ha).J J (by simp;omega)).J hI.st n2) ⟨hH.one,O,gr.one,gs.one,Z⟩ λw9 hp gt=>xe ?_;refine Qj ⟨[.agg #[vcl,sS fd.length,v1,v2]],⟨JN gt,Z⟩,(hL.Q hI.st oa).Q hp oa,?_⟩;rw[gb];have k1:=Qg (Qg gl hI.st (λb hb=>by have:=QV Y b hb;simp;omega)) hp (λb hb=>by have:=(Qi Y b hb).1;simp;omega);have k2:=Qg hI.m hp (λb hb=>by have:=(Qi hI.m b hb).1;simp;omega);have k3:=Qg hI.e hp (λb hb=>by have:=(Qi hI.e b hb).1;simp;omega);refine⟨vcl,v1,v2,O,λL' h3=>⟨?_,?_,?_⟩⟩
  ·exact Qh.ints k1 (by show a.al.length<=_;omega) (λb hb=>oo (h3 b hb))
  ·exact Qh.ints k2 (by show(YY a fd fd.length).length<=_;omega) (λb hb=>oo (h3 b hb))
  exact Yd.eds k3 (by show(Xh a fd fd.length).length<=_;omega) (λb hb=>oo (h3 b hb))
 have h4:i<fd.length:=oa
 refine Zd (O7 fd i) λs hq=>?_;have hf:=Qaq a fd i;rw[hq]at hf;refine Qf<|Qd<|Qn<|QW (α:=O3) [(22,34)] (λz=>[]) (λz w'=>CrI w7 b4 vcl fd.length z v2 (YY a fd (i+1)) (Xh a fd i) w') oh ?_ ?_
 ·have gu:=h0.st hI.st;have gv:=hN.J hI.st n1;refine Qd<|ZK [] (Xj 0 7 [6])<|p (QH O)<|pq (λ_ hc=>Qk (gv.I hc) O O)<|p Qy<|p Qy<|pic (i:=i) O hO O O h4 λmc hP=>?_;rw[hq]at hP;refine pq (λ_ hc=>Qq (hP.I hc) O)<|pk<|xg<|(Qgf (gu.mr.I (O6.X [] w8)) s).S ?_;rintro mf mg ⟨rfl,rfl⟩;have h5:=hI.I (O6.X [] w8);refine⟨O6.X _ _,pe ?_⟩;refine Zp O (λh6=>?_) (λh6=>?_)
  ·rw[OU h6]at hf;refine Qf ?_;exact⟨v1,Z,by rw[hf];exact h5⟩
  rw[OV h6]at hf;refine Qr<|Qs O h5.B O O<|Qa<|Qo<|Q8 [[sS i]] λmh mj gx mo gy=>?_;have hg:=h5.I gx;refine Qo<|Q2 (news:=[sS i]) (L:=[]) hg.m O O O (gy.at od) om oa hg.st.size λhQ gz g0 V g2=>?_;have hR:Qh 3 ↑w7 gz hQ (YY a fd i++[(i:Int)]):=Qh.snoc g0;refine Q9 O<|Qo<|Qv (hg.B.J V (QJ hg.m he)) O O od (Qh.ints (L:=[]) hR (by simp;omega) od).one λmq g3 g4 =>
   xe ?_
  exact⟨hQ,Z,by rw[hf];exact hg.setM he V hR g2 g3 g4⟩
 rintro v3 ms mt g5;refine Zd (Xh a fd (i+1)) λE1 h7=>?_;have hS:=QhJ a fd i;rw[h7]at hS;refine Qc<|Qb<|QX (α:=Nat×List Ed×O3) [(6,7),(35,69)] (λz=>[(6,sS z.1)])
  (λz w'=>z.1<=a.al.length/\CrI w7 b4 vcl fd.length v3 z.2.2 (YY a fd (i+1)) z.2.1 w'/\z.2.1.length<=i*32+z.1/\z.2.1++(a.al.drop z.1).filterMap (Kt a fd i)=E1) (λz=>a.al.length - z.1) (0,Xh a fd i,v2) La
  ⟨Lo _,g5,h2,hS.symm⟩ ?_
 rintro⟨k,E,vd⟩ mu hT ⟨hk,I,g6,G⟩;simp only[]at hk I g6 G;have h8:=h0.st I.st;have hr:=hN.J I.st n1;have hU:=hM.st I.st;refine Qd<|Ql<|Qs O hr O O<|QG h8.al O<|ZW O O<|xe<|Zp rfl (λg7=>?_) (λg7=>?_)
 ·refine Qt<|Qr<|Qa<|QB O O<|Qb ?_;rw[Lu oa,List.filterMap_nil,LH]at G;refine⟨(i+1,v3,vd),oe,La,h4,?_,?_⟩
  ·simp only[];rw[h7,<-G];exact I
  simp only[];rw[h7,<-G];omega
 have T:k<a.al.length:=oa
 refine Zd (O7 a.al k) λu hu=>?_;rw[Me T,Zo T,hu,Mr]at G;refine Zd (nxt a.ed s u) λt ht=>?_;have g9:Kt a fd i u=if 0<=t then some ((i:Int),u,zf fd t) else none:=by unfold Kt;rw[hq,ht]
 rw[g9]at G;have hsr:=Qb9 (va:=va) (vm:=vm) (a:=a) (h8.ed.I (O6.X [] hT)) s u a.st;rw[ht]at hsr;refine Qf<|Qd<|Qn<|Qd<|ZK [] (Xj 0 12 [10])<|pq (λ_ hc=>Zi (hr.I hc) O O)<|p Qy<|p Qy<|pic (i:=i) O hU O O h4 λmv hV=>?_;rw[hq]at hV;refine pq (λ_ hc=>Qq (hV.I hc) O)<|p (QH O)<|pq (λ_ hc=>Qk (hr.I hc) O O)<|p Qy <|
  pic (i:=k) O h8.al O O T λmw hW=>?_
 rw[hu]at hW;refine pq (λ_ hc=>Qq (hW.I hc) O)<|pk<|xg<|hsr.S ?_;rintro my h9 ⟨rfl,ka⟩;have hh:=(O6.X [] hT).D ka;refine⟨hh,p ZI<|pe ?_⟩;have hj:=I.I hh;have kb:=hr.I hh;have kc:=hU.I hh;refine Ql<|x (Yf O O)<|xe<|Zp rfl (λhA=>?_) (λhA=>?_)
 ·rw[OU hA]at G;refine Qf<|Qr<|Qa<|QB O O<|Qb<|⟨(k+1,E,vd),oe,La,T,hj,oe,G⟩
 rw[OV hA]at G;have ke:=Qi I.e;have kf:Qu (b4::ob vd) ↑h9 va a.al:=(((h0.al.up (L':=b4::ob vd) (λb hb=>by
  rcases Lk.1 hb with rfl|hb
  ·exact .inl od
  exact .inr (ke b hb).1)).J I.st od).I hh)
 have kg:=QJ hj.e he;have kh:b1∉ob vd:=QJ hj.e oa;refine ZK (ob vd) (Xj 0 16 [10,12,13,15])<|p (QH O)<|pq (λ_ hc=>Qk (hj.B.J hc kg) O O)<|p Qy<|p (QH O)<|pq (λ_ hc=>Qk (kb.J hc kh) O O) <|
  p Qy<|pic (i:=k) O kf O O T λmz hX=>?_
 rw[hu]at hX;refine pq (λ_ hc=>Qq (hX.J hc (λb hb=>Lj _ hb)) O)<|p Qy<|p Qy <|
  pk<|xg<|(Qhw (kc.I (O6.X [] h9)) t).S ?_
 rintro m0 m1 ⟨rfl,rfl⟩;refine⟨O6.X _ _,p (λ_=>QD ⟨O,O,O,Z⟩)<|pk<|Q8 [Qp ((i:Int),u,zf fd t)] λm2 m3 ki m4 kj=>?_⟩;have hB:=(O6.X [] h9).D ki;have hm:=hj.I hB;refine⟨hB.any,?_⟩;refine pk<|Q2 (news:=Qp ((i:Int),u,zf fd t)) (L:=[]) hm.e O O O (kj.at od) (λy hy=>by simp only[Qp,oK,oH,or_false]at hy;rcases hy with rfl|rfl|rfl <;> rfl) oa hm.st.size λhY kk kn hC ko=>⟨(hB.any (L:=ob vd)).V hC,?_⟩
 have hZ:Yd 179 ↑w7 kk hY (E++[((i:Int),u,zf fd t)]):=Yd.snoc kn;refine p (QH O)<|pkk<|Qv (hm.B.J hC (QJ hm.e he)) O O od (Yd.eds (L:=[]) hZ (by simp;omega) od).one λm5 kq kr =>
  pe ?_
 have kt:=hm.setE he hC hZ ko kq kr;refine Qr<|Qa<|QB O O<|Qb<|⟨(k+1,E++[((i:Int),u,zf fd t)],hY),oe,La,T,kt,by simp;omega,?_⟩;simp only[Of,Ov];exact G
theorem qO {x:O4}{k:IntKind}{a b:Int}(hx:ev f x=.int k a)(I:ev f y=.int k b)(J:0<=a)(hb:0<b):
  (execOp (ev f) ⟨d,.binOp .rem t x y G,ty,pS,af,gd⟩).run P w=.ok (.value (.int k (a % b))) w:=by
 refine Kh hx I ?_;have T:¬b=0:=oa
 simp[binOp,Op.intDiv,T,Int.tmod_eq_emod_of_nonneg J]
instance ayMa1:Ay sV 26 5 22 5:=⟨oc,oc⟩
instance ayMa2:Ay sV 22 5 5 1:=⟨oc,oc⟩
abbrev bys (ns:LN):LV:=ns.map λn:Nat=>.int .u8 (n:Int)
theorem qG (h:j<ns.length):(bys ns)[j]?=some (.int .u8 ((ns.getD j 0:Nat):Int)):=by simp[bys,oN,h]
theorem Qds:∀(ns:LN),ZL (bys ns)
 | []=>trivial
 | _::ns=>⟨rfl,Qds ns⟩
theorem Jk (h:∀n∈ns,n<256)(j:Nat):ns.getD j 0<256:=by
 by_cases G:j<ns.length
 ·simp only[oN,oU G,Option.getD_some];exact h _ (Lm G)
 simp[oN,G]
structure GrI (al:LI)(S i k:Nat)(M:LI)(E:List Ed):Prop where
 mb:∀x∈M,0<=x/\x<S
 mi:Ys M
 ml:∀x∈M,x<(i:Int)+1
 mn:M.length<=S
 eb:∀e∈E,0<=e.1/\e.1<S/\e.2.1∈al/\0<=e.2.2/\e.2.2<S
 ei:E.Pairwise λx y=>x.1<y.1\/(x.1=y.1/\x.2.1<y.2.1)
 el:∀e∈E,e.1<i\/(e.1=i/\e.2.1∈al.take k)
 en:E.length<=i*5+k
theorem Qnd {S:Nat}{M:LI}(hb:∀x∈M,0<=x/\x<S)(hi:Ys M):M.length<=S:=xI S M (hi.imp (λh=>oa)) hb
theorem GrI.mark {al:LI}{S:Nat}{M:LI}{E:List Ed}(h:GrI al S i 0 M E)(G:∀x∈M,x<(i:Int))(hi:i<S):GrI al S i 0 (M++[(i:Int)]) E:=by
 have I:∀x∈M++[(i:Int)],0<=x/\x<S:=λx hx=>by
  rcases Le.1 hx with hx|hx
  ·exact h.mb x hx
  simp only[oF]at hx;omega
 have J:Ys (M++[(i:Int)]):=by
  refine Mk.2 ⟨h.mi,od,λx hx y T=>?_⟩;simp only[oF]at T;subst T;exact G x hx
 refine⟨I,J,λx hx=>?_,Qnd I J,h.eb,h.ei,h.el,h.en⟩;rcases Le.1 hx with hx|hx
 ·have:=G x hx;omega
 simp only[oF]at hx;omega
theorem GrI.skip {al:LI}{S k:Nat}{M:LI}{E:List Ed}(h:GrI al S i k M E)(G:k<al.length):GrI al S i (k+1) M E :=
 ⟨h.mb,h.mi,h.ml,h.mn,h.eb,h.ei,λe I=>(h.el e I).imp id (λx=>⟨x.1,by rw[Ll G];exact LG _ x.2⟩),oo h.en⟩
theorem GrI.edge {al:LI}{S k:Nat}{M:LI}{E:List Ed}(h:GrI al S i k M E)(I:k<al.length)(U:Ys al)(hi:i<S){t:Int}(V:0<=t)(ht:t<S):GrI al S i (k+1) M (E++[((i:Int),O7 al k,t)]):=by
 have Y:O7 al k∈al:=Xy I;refine⟨h.mb,h.mi,h.ml,h.mn,λe G=>?_,?_,λe G=>?_,by have:=h.en;simp;omega⟩
 ·rcases Le.1 G with G|G
  ·exact h.eb e G
  simp only[oF]at G;subst G;exact⟨oe,oe,Y,V,ht⟩
 ·refine Mk.2 ⟨h.ei,od,λx hx y T=>?_⟩;simp only[oF]at T;subst T;rcases h.el x hx with J|⟨J,h2⟩
  ·left;exact J
  right;refine⟨J,?_⟩;simp only[];have hp:Ys (al.take k++al.drop k):=by rw[MH];exact U
  refine(Mk.1 hp).2.2 _ h2 _ ?_;rw[Me I,Zo I];exact Lh
 rw[Ll I,Zo I];rcases Le.1 G with G|G
 ·exact(h.el e G).imp id (λx=>⟨x.1,LG _ x.2⟩)
 simp only[oF]at G;subst G;exact .inr ⟨O,MS _ od⟩
theorem GrI.next {al:LI}{S k:Nat}{M:LI}{E:List Ed}(h:GrI al S i k M E)(J:k<=5):GrI al S (i+1) 0 M E :=
 ⟨h.mb,h.mi,λx hx=>oo (h.ml x hx),h.mn,h.eb,h.ei,λe G=>by rcases h.el e G with I|I <;> (left;omega),oo h.en⟩
theorem Qhn {v:O3}{al:LI}(h:Qu L ↑w v al)(hb:∀e∈al,0<=e/\e<32)(hi:Ys al)(hn:ns.length=27)(ho:∀n∈ns,n<256):
  QU sV 162 [v,sT (bys ns)] w λr w'=>sW w w'/\∃a:Qz,Xb ↑w ↑w' r a/\QS a/\a.st<=5/\a.al=al /\
   (ns.getD 0 0<250->∃a0:Qz,QS a0/\0<a0.st/\a0.st<=((1+ns.getD 0 0 % 5:Nat):Int)/\a=Y9 a0):=by
 have kw:al.length<=32:=xI 32 al (hi.imp (λh=>oa)) (λx hx=>oo (hb x hx));refine Zm func162 ?_;have g0:=qG (ns:=ns) (j:=0) oa;have g1:=qG (ns:=ns) (j:=1) oa;have l0:=Jk ho 0;have l1:=Jk ho 1;refine Zd (ns.getD 0 0) λs0 hs0=>?_;refine Zd (ns.getD 1 0) λm1 hV=>?_;rw[hs0]at g0 l0;rw[hV]at g1 l1;refine Qc<|Zf (bys ns) λb3 w1 hW kx h2=>QT [nS,sS 0,nS,nS] λb4 w2 h3 kz hp=>xe ?_;have hm:=hW.D h3;have hr:=h2.I h3;have k0:=h2.lt;have k4:=hp.lt;refine Qd<|Qc<|Qs O hr O g0<|x (Yf O O)<|xe<|Zg rfl (λhX=>?_) (λhX=>?_)
 ·refine Ql<|Qw<|(qz (h.I hm) oa).S ?_;rintro r3 w3 ⟨h4,vcl,rfl,T⟩;have hs:=Qh.ints (L:=[]) T oa od;refine Q5 [vcl,sS 0,nS,nS] (hp.I h4) ⟨hs.one,O,O,O,Z⟩ λw4 h5 hY=>xe ?_;have hZ:=Qg T h5 (λb hb=>by have:=(Qi T b hb).1;simp;omega);refine Qj ⟨[.agg #[vcl,sS 0,nS,nS]],⟨JN hY,Z⟩,(hm.D h4).Q h5 oa,⟨al,0,[],[]⟩,?_,?_,(by decide:(0:Int)<=5),O,λh=>OX h oa⟩
  ·exact⟨vcl,_,_,O,λL' ga=>⟨Qh.ints hZ (by show al.length<=_;omega) (λb hb=>oo (ga b hb)),Zu.nil _ _ _,Zu.nil _ _ _⟩⟩
  exact⟨hb,hi,(by decide:(0:Int)<=0),(by decide:(0:Int)<=4096),od,od,od,od⟩
 refine Qf<|Ql<|Qw<|(qz (h.I hm) oa).S ?_;rintro r5 w5 ⟨h6,vcl,rfl,T⟩;have hs:=Qh.ints (L:=[]) T oa od;refine QT [nS,sS 0,nS,nS] λG w6 gb gc ge =>
  Q5 [vcl,sS 0,nS,nS] ge ⟨hs.one,O,O,O,Z⟩ λw7 gg h7=>xe ?_
 have h8:sW w5 w7:=gb.Q gg gc;have hf:=h6.D h8;have k5:=h6.size;have k6:=h7.lt;refine Zd (1+s0 % 5) λS hS=>?_;have gh:(1:Int)+(s0:Int) % 5=(S:Int):=oa
 refine Qc<|Qs O (hr.I hf) O g0<|x (qO (a:=(s0:Int)) (b:=5) O O oa oa)<|x (Yc (k':=.i64) O ⟨oa,oa⟩)<|QB O O<|x (Uu O) <|
  Qo<|Qv (u:=sS S) h7 O (OW sS gh) od rfl λI Y gi=>xe ?_
 have k9:=Y.size;have ma:O6 [G] w2 I:=(hf.any (L:=[G])).V Y;have h9:sW w I:=(hm.D hf).Q Y oa;have hA:Qu [G] ↑I v al:=(h.up (L':=[G]) (λb hb=>.inr (by simp at hb;omega))).I h9;have gk:Qh 3 ↑w2 I vcl al:=Qg (Qm T h8) Y (λb hb=>by have:=QV T b hb;simp;omega);have hB:=(hr.I hf).J Y (by simp;omega);have gl:=(hp.I hf).J Y (by simp;omega);have hg:G<I.heap.size:=oa
 have n3:b3∉[G]:=by simp;omega
 have n4:b4∉[G]:=by simp;omega
 refine Qd<|Qc<|Qb<|QX (α:=Nat×O3×O3×LI×List Ed) [(6,8),(22,76)] (λz=>[(6,sS z.1)])
  (λz w'=>z.1<=S/\CrI I G vcl S z.2.1 z.2.2.1 z.2.2.2.1 z.2.2.2.2 w'/\GrI al S z.1 0 z.2.2.2.1 z.2.2.2.2/\∀x∈z.2.2.2.1,x<(z.1:Int)) (λz=>S - z.1) (0,nS,nS,[],[]) La
  ⟨Lo _,⟨O6.Y _ _,gi,QL _ _ _ _,QL _ _ _ _,Dj.nil' _⟩,⟨od,od,od,od,od,od,od,od⟩,od⟩ ?_
 rintro⟨i,v1,v2,M,E⟩ g9 w9 ⟨gm,hI,J,hM⟩;simp only[]at gm hI J hM;have mc:=J.mn;have mf:=J.en;refine Qd<|Ql<|Qs O hI.B O O<|ZW O O<|xe<|Zp rfl (λgn=>?_) (λgn=>?_)
 ·have mg:i=S:=oa
  refine Qt ?_;have gq:=Qh.ints (L:=[]) hI.m oa od;have gr:=Yd.eds (L:=[]) hI.e oa od;have gs:Qh 3 ↑w2 w9 vcl al:=Qg gk hI.st (λb hb=>by have:=QV T b hb;simp;omega);have gt:Zr [] ↑w9 vcl v1 v2 ⟨al,(S:Int),M,E⟩:=⟨Qh.ints gs (by show al.length<=_;omega) od,gq,gr⟩;have hok:QS ⟨al,(S:Int),M,E⟩:=⟨hb,hi,oe,oe,J.mb,J.mi,J.eb,J.ei⟩;have hu:=QbI hok;have hC:sW w w9:=h9.Q hI.st oa;have gu:=gl.J hI.st n4;have mh:=hI.st.size;refine Qc<|Q3 hI.B O O<|Qw<|(jx (a:=⟨al,(S:Int),M,E⟩) gt hok).S ?_;rintro vr mj ⟨hD,hF⟩;obtain⟨us,hE,hH,gv⟩:=XW hF;refine Qo<|Zx (us:=us) (gu.I hD) O hE hH O gv λmo hJ gx=>xe ?_;have gy:=hC.size;refine Qj ⟨[sT us],⟨⟨_,O,ZQ hH (gx.at (L:=[]) od).cells⟩,Z⟩,(hC.D hD).Q hJ oa,Y9 ⟨al,(S:Int),M,E⟩,?_,hu.1,?_,hu.2.1,λ_=>⟨⟨al,(S:Int),M,E⟩,hok,oe,oe,O⟩⟩
  ·show Xb _ _ (sT us) _;rw[<-hE];exact(Xl hF oa hJ).S gy
  have:=hu.2.2;simp only[]at this;omega
 have hv:i<S:=oa
 refine Qf<|Qd<|Qn<|QW (α:=O3×LI) [(28,39)] (λz=>[]) (λz w'=>CrI I G vcl S z.1 v2 z.2 E w'/\GrI al S i 0 z.2 E) oh ?_ ?_
 ·have gz:m1 / 2 ^ i<256:=Nat.lt_of_le_of_lt (Nat.div_le_self _ _) l1;refine Qc<|Qs O (hB.J hI.st n3) O g1<|Qa<|x (Qcr (n:=i) O O (by show i<=8;omega))<|x (qk (a:=m1 / 2 ^ i) (b:=1) (OW (Value.int .u8) (QaM m1 i)) O gz og)<|x (Zc O O)<|xe<|Zp O (λg2=>?_) (λg2=>?_)
  ·refine Qf ?_;exact⟨(v1,M),Z,hI,J⟩
  refine Qr<|Qs O hI.B O O<|Qa<|Qo<|Q8 [[sS i]] λmq ms g3 mt g4=>?_;have hh:=hI.I g3;refine Qo<|Q2 (news:=[sS i]) (L:=[]) hh.m O O O (g4.at od) om oa hh.st.size λhK g5 g6 hL g7=>?_;have hN:Qh 3 ↑I g5 hK (M++[(i:Int)]):=Qh.snoc g6;refine Q9 O<|Qo<|Qv (hh.B.J hL (QJ hh.m hg)) O O od (Qh.ints (L:=[]) hN (by simp;omega) od).one λmu g8 ka =>
   xe ?_
  exact⟨(hK,M++[(i:Int)]),Z,hh.setM hg hL hN g7 g8 ka,J.mark hM hv⟩
 rintro⟨v3,M3⟩ mv mw ⟨hO,hP⟩;simp only[]at hO hP;refine Qc<|Qb<|QX (α:=Nat×O3×List Ed) [(7,8),(40,76)] (λz=>[(7,sS z.1)])
  (λz w'=>z.1<=al.length/\z.1<=5/\CrI I G vcl S v3 z.2.1 M3 z.2.2 w'/\GrI al S i z.1 M3 z.2.2) (λz=>5 - z.1) (0,v2,E) La
  ⟨Lo _,Lo _,hO,hP⟩ ?_
 rintro⟨k,vd,F⟩ my kb ⟨hk,hQ,ha,he⟩;simp only[]at hk hQ ha he;have kc:=hA.st ha.st;have mz:=he.en;refine Qd<|QW (α:=Unit) [(40,47)] (λz=>[(47,.bool (decide (k<al.length/\k<5)))]) (λz w'=>w'=kb) oh ?_ ?_
 ·refine Qr<|Qa<|Qa<|QG kc O<|xb (YB O O) (λhR=>?_) (λhR=>?_)
  ·refine Qa<|Qa<|ZW O O<|QC O<|xe<|⟨(),⟨OW Value.bool ?_,Z⟩,O⟩;exact decide_eq_decide.2 ⟨λe=>⟨oa,oa⟩,λe=>oa⟩
  refine Qa<|YP<|QC O<|xe ?_;exact⟨(),⟨OW Value.bool (O0 (λe=>hR oa)).symm,Z⟩,O⟩
 rintro _ m0 U rfl;refine Zp rfl (λhw=>?_) (λhw=>?_)
 ·refine Qt<|Qr<|Qa<|QB O O<|Qb<|⟨(i+1,v3,vd,M3,F),oe,La,hv,ha,he.next hQ,λx hx=>by have:=he.ml x hx;simp only[];omega⟩
 have hk1:k<al.length:=hw.1;have hz:k<5:=hw.2;have gj:=qG (ns:=ns) (j:=0+2+i*5+k*1) oa;have lj:=Jk ho (0+2+i*5+k*1);refine Zd (ns.getD (0+2+i*5+k*1) 0) λq hq=>?_;rw[hq]at gj lj;have ke:=hB.J ha.st n3;have kf:0<=(q:Int) % ((S:Int)+2):=Int.emod_nonneg _ oa;refine Qf<|Qd<|Qn<|Qd<|ZK [] (Xj 0 12 [])<|p Qy<|p Qy<|p (QH O)<|p (λ_=>ZV (i:=i) O O oa)<|p (λ_=>ZV (i:=k) O O hz)<|pq (λ_ hc=>Qk (ke.I hc) O gj) <|
  p (λ_=>Yc (k':=.i64) O ⟨oa,oa⟩)<|p (QH O)<|pq (λ_ hc=>Qk (ha.B.I hc) O O)<|p (λ_=>Xt O O ⟨oa,oa⟩) <|
  p (λ_=>qO (a:=(q:Int)) (b:=(S:Int)+2) O O oa oa)<|p ZI<|pe ?_
 have V:=ha.I (O6.X [] U);refine Zd ((q:Int) % ((S:Int)+2)) λt ht=>?_;refine Ql<|Qs O V.B O O<|ZW O O<|xe<|Zp rfl (λkg=>?_) (λkg=>?_)
 ·refine Qf<|Qr<|Qa<|QB O O<|Qb<|⟨(k+1,vd,F),oe,La,hk1,hz,V,he.skip hk1⟩
 have kh:=Qi V.e;have ki:Qu (G::ob vd) { U with drawn:=U.drawn+1 }.heap v al:=((hA.up (L':=G::ob vd) (λb hb=>by
  rcases Lk.1 hb with rfl|hb
  ·exact .inl od
  exact .inr (kh b hb).1)).J V.st od)
 have kj:=QJ V.e hg;refine V9 (O6 (ob vd) { U with drawn:=U.drawn+1 }) [oz 0,oz 1,oz 2,oz 3,oz 4,oz 5,oz 6,oz 7,oz 8,oA 9,oA 10,oz 11,oA 12] mixed oh oc (O6.X _ _) ?_
 refine p (QH O)<|pq (λ_ hc=>Qk (V.B.J hc kj) O O)<|p Qy<|p Qy<|p Qy <|
  pic (i:=k) O ki O O hk1 λm2 kk=>pq (λ_ hc=>Qq (kk.J hc (λb hb=>Lj _ hb)) O)<|p Qy<|p (λ_=>QD ⟨O,O,O,Z⟩) <|
  pk<|Q8 [Qp ((i:Int),O7 al k,(q:Int) % ((S:Int)+2))] λm3 m4 kn m5 ko=>?_
 have h0:=(O6.X [] { U with drawn:=U.drawn+1 }).D kn
 have hj:=V.I h0;refine⟨h0.any,?_⟩;refine pk<|Q2 (news:=Qp ((i:Int),O7 al k,(q:Int) % ((S:Int)+2))) (L:=[]) hj.e O O O (ko.at od) (λy hy=>by simp only[Qp,oK,oH,or_false]at hy;rcases hy with rfl|rfl|rfl <;> rfl) oa hj.st.size λhT kq kr h1 kt=>⟨(h0.any (L:=ob vd)).V h1,?_⟩
 have hU:Yd 179 ↑I kq hT (F++[((i:Int),O7 al k,(q:Int) % ((S:Int)+2))]):=Yd.snoc kr;refine p (QH O)<|pkk<|Qv (hj.B.J h1 (QJ hj.e hg)) O O od (Yd.eds (L:=[]) hU (by simp;omega) od).one λm6 ku kv=>pe ?_;refine Qr<|Qa<|QB O O<|Qb<|⟨(k+1,hT,F++[((i:Int),O7 al k,(q:Int) % ((S:Int)+2))]),oe,La,hk1,hz,(hj.setE hg h1 hU kt ku kv),he.edge hk1 hi hv kf oa⟩
theorem qi [Ag P t sz]{x:O4}{b o:Nat}(h:QK ↑w b T cs)(hx:ev f x=.pointer (some ⟨b,o,none⟩))(hl:us.length=sz)(G:∀j u,us[j]?=some u->cs[o+j]?=some u):
  (execOp (ev f) ⟨d,.load t x,ty,pS,af,gd⟩).run P w=.ok (.value (sT us)) w:=by
 refine zv hx hl λj u I=>?_;rw[Ju,X5,h.cell];exact G j u I
theorem QnL {o:Nat}:∀j u,(bys ((ns.drop o).take n))[j]?=some u->(bys ns)[o+j]?=some u:=by
 intro j u h;simp only[bys,List.getElem?_map,List.getElem?_take,List.getElem?_drop]at h ⊢;split at h
 ·exact h
 cases h
theorem QnM (h:∀n∈ns,n<256)(o n:Nat):∀m∈(ns.drop o).take n,m<256:=λm G=>h m (MU (L2 G))
theorem QfF (m k:Nat):∀e∈setK m k,0<=e/\e<k:=by
 intro e G;simp only[setK,Om,Oj,Oh]at G;obtain⟨i,⟨hi,_⟩,rfl⟩:=G;omega
theorem Qa9 (keep:Bool->Bool->Bool):∀(n:Nat) (a b:LI),a.length+b.length<=n->Ys a->Ys b->Ys (mrg keep a b):=by
 intro n;induction n with
 | zero =>
  intro a b h _ _;have U:a=[]:=Ls oa;have hb:b=[]:=Ls oa;subst U hb;rw[KG];exact List.Pairwise.nil
 | succ n ih =>
  intro a b V ia ib;by_cases h:a=[]/\b=[]
  ·obtain⟨rfl,rfl⟩:=h;rw[KG];exact List.Pairwise.nil
  have Y:=yy h;have itl:∀(c:Bool) (l:LI),Ys l->Ys (tl c l):=λc l hl=>by
   cases c
   ·exact hl
   cases l with
   | nil=>exact hl
   | cons y l=>exact hl.tail
  have J:=ih (tl (Jj a b) a) (tl (Jj b a) b) oa (itl _ _ ia) (itl _ _ ib);rw[Ko keep h];cases keep (Jj a b) (Jj b a) with
  | false=>simpa using J
  | true =>
   simp only[cond_true,Ov];refine L5.2 ⟨λx hx=>?_,J⟩;have I:=(UD (itl _ _ ia) (itl _ _ ib) x).1 hx;cases a with
   | nil =>
    cases b with
    | nil=>exact OX ⟨O,O⟩ h
    | cons y b =>
     simp only[Jj,tl,cond_true,cond_false,Og,oH,false_or,Lg.hx,Oc]at I ⊢;exact ib.lt_of I.1
   | cons u a =>
    cases b with
    | nil =>
     simp only[Jj,tl,cond_true,cond_false,Og,oH,or_false,Lg.hx,Oc]at I ⊢;exact ia.lt_of I.1
    | cons y b =>
     rcases Int.lt_trichotomy u y with T|T|T
     ·have e1:decide (u<=y)=true:=OY oa;have e2:decide (y<=u)=false:=O0 oa;simp only[Jj,tl,e1,e2,cond_true,cond_false,Og,Lg.hx,Oc]at I ⊢;rcases I.1 with G|G
      ·exact ia.lt_of G
      rcases Lk.1 G with G|G
      ·omega
      have:=ib.lt_of G;omega
     ·have e1:decide (u<=y)=true:=OY oa;have e2:decide (y<=u)=true:=OY oa;simp only[Jj,tl,e1,e2,cond_true,Og,Lg.hx,Oc]at I ⊢;rcases I.1 with G|G
      ·have:=ia.lt_of G;omega
      have:=ib.lt_of G;omega
     have e1:decide (u<=y)=false:=O0 oa;have e2:decide (y<=u)=true:=OY oa;simp only[Jj,tl,e1,e2,cond_true,cond_false,Og,Lg.hx,Oc]at I ⊢;rcases I.1 with G|G
     ·rcases Lk.1 G with G|G
      ·omega
      have:=ia.lt_of G;omega
     exact ib.lt_of G
abbrev ZX:O3:=nS
def srt (n:Nat)(l:LI):LI:=((oJ n).filter λi:Nat=>decide ((i:Int)∈l)).map λi:Nat=>(i:Int)
theorem Uk (n:Nat)(l:LI):Ys (srt n l):=by
 unfold srt Ys;rw[L9];exact((List.pairwise_lt_range).filter _).imp λh=>oa
theorem zr {x:Int}:x∈srt n l↔(0<=x/\x<(n:Int))/\x∈l:=by
 unfold srt;rw[Lx];constructor
 ·rintro⟨i,hi,rfl⟩;have E:=LJ.1 hi;have G:=MI.1 E.1;exact⟨⟨oa,oa⟩,OZ E.2⟩
 rintro⟨⟨E,G⟩,I⟩;have e:((x.toNat:Nat):Int)=x:=oa
 exact⟨x.toNat,LJ.2 ⟨MI.2 oa,OY (by rw[e];exact I)⟩,e⟩
theorem QfB (n:Nat)(l:LI):(srt n l).length<=n:=by
 unfold srt;rw[Ln];exact Lz (LK _ _) (by rw[Mb];exact Lp _)
theorem UH {m:LI}(hl:Ys l)(J:Ys m)(h:∀x,x∈l↔x∈m):l=m:=by
 induction l generalizing m with
 | nil =>
  cases m with
  | nil=>rfl
  | cons y m=>exact OX ((h y).2 Lh) od
 | cons x l ih =>
  cases m with
  | nil=>exact OX ((h x).1 Lh) od
  | cons y m =>
   obtain⟨G,T⟩:=L5.1 hl;obtain⟨I,U⟩:=L5.1 J;have e:x=y:=by
    rcases Lk.1 ((h x).1 Lh) with e|e
    ·exact e
    rcases Lk.1 ((h y).2 Lh) with e'|e'
    ·exact e'.symm
    have:=G y e';have:=I x e;omega
   subst e;refine OW _ (ih T U λz=>⟨λE=>?_,λE=>?_⟩)
   ·rcases Lk.1 ((h z).1 (Lj _ E)) with e|e
    ·have:=G z E;omega
    exact e
   rcases Lk.1 ((h z).2 (Lj _ E)) with e|e
   ·have:=I z E;omega
   exact e
theorem QiF {m:LI}(E:Ys m)(h:∀x,x∈m↔x∈l)(hb:∀x∈l,0<=x/\x<(n:Int)):m=srt n l :=
 UH E (Uk n l) λx=>by rw[zr,h x];exact⟨λhx=>⟨hb x hx,hx⟩,λhx=>hx.2⟩
def jb (ok:Ed->Bool)(l:LI)(e:Ed):LI:=if ok e=true/\e.2.2∉l then l++[e.2.2]else l
def bfs (ok:Ed->Bool)(ed:List Ed):Nat->Nat->LI->LI
 | 0,_,l=>l
 | f+1,i,l=>if i<l.length then bfs ok ed f (i+1) ((QM ed (O7 l i)).foldl (jb ok) l) else l
theorem Qdu {ok:Ed->Bool}{f:Nat}(h:¬i<l.length):bfs ok ed f i l=l:=by
 cases f with
 | zero=>rfl
 | succ f=>rw[bfs,OU h]
structure Ug (n:Nat)(l0 l:LI):Prop where
 ex:∃m,l=l0++m/\m.Nodup/\(∀x∈m,0<=x/\x<(n:Int))/\∀x∈m,x∉l0
theorem Ug.zero (n:Nat)(E:LI):Ug n E E:=⟨[],od,Mx,od,od⟩
theorem Ug.len {E:LI}(h:Ug n E l):l.length<=E.length+n:=by
 obtain⟨m,rfl,G,I,_⟩:=h.ex;have:=xI n m G I;rw[Lc];omega
theorem Ug.all {E:LI}(h:Ug n E l)(G:∀x∈E,0<=x/\x<(n:Int)):∀x∈l,0<=x/\x<(n:Int):=by
 obtain⟨m,rfl,_,I,_⟩:=h.ex;intro x hx;rcases Le.1 hx with hx|hx
 ·exact G x hx
 exact I x hx
theorem Ug.add {G:LI}(h:Ug n G l){x:Int}(hx:0<=x/\x<(n:Int))(I:x∉l):Ug n G (l++[x]):=by
 obtain⟨m,rfl,J,T,U⟩:=h.ex;refine⟨m++[x],by rw[LA],?_,λy E=>?_,λy E=>?_⟩
 ·rw[Mf];refine⟨J,od,λa V b hb e=>?_⟩;rw[Lb.1 hb]at e;exact I (Le.2 (.inr (e ▸ V)))
 ·rcases Le.1 E with E|E
  ·exact T y E
  rw[Lb.1 E];exact hx
 rcases Le.1 E with E|E
 ·exact U y E
 rw[Lb.1 E];exact λY=>I (Le.2 (.inl Y))
theorem Ug.edge {E:LI}(h:Ug n E l)(ok:Ed->Bool){e:Ed}(G:0<=e.2.2/\e.2.2<(n:Int)):Ug n E (jb ok l e):=by
 unfold jb;split
 ·rename_i I;exact h.add G I.2
 exact h
theorem Ug.edges {n:Nat}{E:LI}(ok:Ed->Bool):∀(es:List Ed) {l:LI},Ug n E l->(∀e∈es,0<=e.2.2/\e.2.2<(n:Int))->Ug n E (es.foldl (jb ok) l)
 | [],_,h,_=>h
 | e::es,_,h,G=>Ug.edges ok es (h.edge ok (G e Lh)) λx hx=>G x (Lj _ hx)
def cls (ok:Ed->Bool)(a:Qz)(l:LI):LI:=srt a.st.toNat (bfs ok a.ed (l.length+a.st.toNat) 0 l)
def yQ (l:LI)(x:Int):LI:=if x∉l then l++[x]else l
def ddp (l:LI):LI:=l.foldl yQ []
def hop (ed:List Ed)(l:LI)(v:Int):LI:=l.flatMap λs=>((QM ed s).filter λe=>decide (e.2.1=v)).map (·.2.2)
def mkd (a:Qz)(l:LI):Bool:=l.any λs=>decide (s∈a.mr)
def kpt (a:Qz)(o:LI):LI:=a.al.filter λv=>decide (v∈o)
def ers (a:Qz)(o:LI):LI:=a.al.filter λv=>!decide (v∈o)
def okR (ev:LI)(e:Ed):Bool:=decide (e.2.1∈ev)
def rch (a:Qz)(l ev:LI):LI:=cls (okR ev) a (ddp l)
def pnx (a:Qz)(er l:LI)(v:Int):LI:=rch a (hop a.ed l v) er
def K7 (z:Sy)(u:LI):Sy:=if u∈z.tup then z else⟨z.tup++[u],z.mk',z.ed⟩
def JD (a:Qz)(er:LI)(i:Nat)(t:LI)(z:Sy)(v:Int):Sy :=
 if(pnx a er t v).length=0 then z else⟨(K7 z (pnx a er t v)).tup,(K7 z (pnx a er t v)).mk',(K7 z (pnx a er t v)).ed++[((i:Int),v,((K7 z (pnx a er t v)).tup.idxOf (pnx a er t v):Int))]⟩
def zc (a:Qz)(i:Nat)(t:LI)(z:Sy):Sy:=if mkd a t=true then⟨z.tup,z.mk'++[(i:Int)],z.ed⟩else z
def ju (a:Qz)(kp er:LI):Nat->Nat->Sy->Sy
 | 0,_,z=>z
 | f+1,i,z=>if i<z.tup.length then ju a kp er f (i+1) (kp.foldl (JD a er i (Jq z i)) (zc a i (Jq z i) z)) else z
theorem Qja {kp er:LI}{f:Nat}{z:Sy}(h:¬i<z.tup.length):ju a kp er f i z=z:=by
 cases f with
 | zero=>rfl
 | succ f=>rw[ju,OU h]
def pj0 (a:Qz)(er:LI):Sy:=⟨[rch a [0] er],[],[]⟩
def prj (a:Qz)(o:LI):Sy:=if a.st=0 then⟨[],[],[]⟩else ju a (kpt a o) (ers a o) (2 ^ a.st.toNat) 0 (pj0 a (ers a o))
def ZO (a:Qz)(o:LI):Qz:=⟨kpt a o,(prj a o).tup.length,(prj a o).mk',(prj a o).ed⟩
def Ss (n:Nat)(l:LI):Prop:=Ys l/\∀x∈l,0<=x/\x<(n:Int)
theorem qa (n:Nat)(l:LI):Ss n (srt n l):=⟨Uk n l,λ_ hx=>(zr.1 hx).1⟩
theorem Qkl {α:Type}(q:α->Bool):∀l:List α,l.length=(l.filter q).length+(l.filter λx=>!q x).length
 | []=>rfl
 | x::l=>by
  rw[L4,L4,LP,Qkl q l];cases q x <;> simp <;> omega
theorem zt:∀(n:Nat) (L:List (LI)),L.Nodup->(∀l∈L,Ss n l)->L.length<=2 ^ n
 | 0,L,hd,h=>by
  have J:∀l∈L,l=[]:=λl hl=>by
   cases l with
   | nil=>rfl
   | cons x l=>have:=(h _ hl).2 x Lh;omega
  match L,hd,J with
  | [],_,_=>simp
  | [_],_,_=>simp
  | a::b::L,hd,J =>
   have e1:=J a od;have e2:=J b od;rw[e1,e2]at hd;simp at hd
 | n+1,L,hd,h=>by
  have hq:=Qkl (λl:LI=>decide ((n:Int)∈l)) L;have h1:=zt n (L.filter λl=>!decide ((n:Int)∈l)) (hd.filter _) λl hl=>by
   obtain⟨T,E⟩:=LJ.1 hl;have G:(n:Int)∉l:=by simpa using E
   refine⟨(h l T).1,λx hx=>?_⟩;have:=(h l T).2 x hx;have:x≠(n:Int):=λe=>G (e ▸ hx);omega
  have V:∀a∈L,∀b∈L,(n:Int)∈a->(n:Int)∈b->(a.filter λx=>!decide (x=(n:Int)))=(b.filter λx=>!decide (x=(n:Int)))->a=b:=λa U b hb na nb e=>by
   refine UH (h a U).1 (h b hb).1 λx=>?_;by_cases hx:x=(n:Int)
   ·rw[hx];exact⟨λ_=>nb,λ_=>na⟩
   have I:x∈(a.filter λx=>!decide (x=(n:Int)))↔x∈(b.filter λx=>!decide (x=(n:Int))):=by rw[e]
   simpa[Oj,hx]using I
  have T:=zt n ((L.filter λl=>decide ((n:Int)∈l)).map λl=>l.filter λx=>!decide (x=(n:Int))) (by
   unfold List.Nodup;rw[L9];refine(hd.filter _).imp_of_mem λ{a b} U hb Y e=>Y ?_;obtain⟨E,G⟩:=LJ.1 U;obtain⟨I,h6⟩:=LJ.1 hb;exact V a E b I (OZ G) (OZ h6) e) λl hl=>by
   obtain⟨m,hm,rfl⟩:=Lx.1 hl;have E:=h m (LJ.1 hm).1;refine⟨E.1.filter _,λx hx=>?_⟩;obtain⟨G,I⟩:=LJ.1 hx;have:=E.2 x G;have:x≠(n:Int):=by simpa using I
   omega
  rw[Ln]at T;have:2 ^ (n+1)=2 ^ n+2 ^ n:=by rw[OH];omega
  omega
def zd (o un:LI)(only:Bool)(e:Ed):Bool:=!decide (e.2.1∈o) && (!only || decide (e.2.1∈un))
def vcl (a:Qz)(o un:LI)(l:LI)(only:Bool):LI:=cls (zd o un only) a l
def vnx (a:Qz)(o un:LI)(l:LI)(v:Int):LI:=vcl a o un (hop a.ed l v) false
abbrev Dq:=LI×LI×LI
def KQ (l:List Dq)(x y:LI):Bool:=l.any λz=>decide (z.1=x/\z.2.1=y)
def dfE (a:Qz)(o un:LI)(x:Dq)(l:List Dq)(v:Int):List Dq :=
 if(vnx a o un x.1 v).length+(vnx a o un x.2.1 v).length > 0/\KQ l (vnx a o un x.1 v) (vnx a o un x.2.1 v)=false then l++[(vnx a o un x.1 v,vnx a o un x.2.1 v,x.2.2++[v])]else l
def dfL (a:Qz)(o un:LI)(bad:LI->LI->Bool):Nat->Nat->List Dq->Option (LI)
 | 0,_,_=>none
 | f+1,i,l=>match l[i]? with
  | none=>none
  | some x=>if bad x.1 x.2.1=true then some x.2.2 else dfL a o un bad f (i+1) ((kpt a o).foldl (dfE a o un x) l)
def dff (a:Qz)(o un:LI)(x y:LI)(bad:LI->LI->Bool):Option (LI):=dfL a o un bad (4 ^ a.st.toNat+1) 0 [(x,y,[])]
def Qco (a:Qz)(x y:LI):Bool:=mkd a x && !mkd a y
def rft (a:Qz)(o un:LI)(est:LI)(s:Int):Option (LI):=dff a o un est (vcl a o un [s] false) (Qco a)
abbrev Plc:=Int×LI×LI
def Qck (l:List Plc)(s:Int)(t:LI):Bool:=l.any λz=>decide (z.1=s/\z.2.1=t)
def obN (a:Qz)(o un:LI)(x:Plc)(e:Ed):Plc:=(e.2.2,if e.2.1∈o then vnx a o un x.2.1 e.2.1 else x.2.1,x.2.2++[e.2.1])
def obE (a:Qz)(o un:LI)(x:Plc)(l:List Plc)(e:Ed):List Plc:=if Qck l (obN a o un x e).1 (obN a o un x e).2.1=true then l else l++[obN a o un x e]
def obL (a:Qz)(o un:LI):Nat->Nat->List Plc->Option (LI×LI)
 | 0,_,_=>none
 | f+1,i,l=>match l[i]? with
  | none=>none
  | some x=>match rft a o un x.2.1 x.1 with
   | some t=>some (x.2.2,t)
   | none=>obL a o un f (i+1) ((QM a.ed x.1).foldl (obE a o un x) l)
def obs (a:Qz)(o un:LI):Option (LI×LI):=if a.st=0 then none else obL a o un (4 ^ a.st.toNat+1) 0 [(0,vcl a o un [0] false,[])]
def psb (a:Qz)(v:Int)(l:LI):Bool:=l.any λs=>(QM a.ed s).any λe=>decide (e.2.1=v)
def ctd (a:Qz)(o un:LI)(s v:Int):Bool:=decide (v∈o) && (decide (v∈un) && (psb a v (vcl a o un [s] false) && !psb a v (vcl a o un [s] true)))
abbrev Cq:=Int×LI
def csE (x:Cq)(l:List Cq)(e:Ed):List Cq:=if e.2.2∈l.map (·.1) then l else l++[(e.2.2,x.2++[e.2.1])]
def csL (a:Qz)(o un:LI):Nat->Nat->List Cq->Option (LI×Int)
 | 0,_,_=>none
 | f+1,i,l=>match l[i]? with
  | none=>none
  | some x=>match a.al.find? (ctd a o un x.1) with
   | some v=>some (x.2,v)
   | none=>csL a o un f (i+1) ((QM a.ed x.1).foldl (csE x) l)
def cns (a:Qz)(o un:LI):Option (LI×Int):=if a.st=0 then none else csL a o un (a.st.toNat+1) 0 [(0,[])]
def hld (a:Qz)(un set:LI):Bool:=(obs a set un).isNone && (cns a set un).isNone
def ins (set:LI)(v:Int):LI:=srt 32 (set++[v])
def xtA (a:Qz)(un:LI):LI->LI×LI->LI×LI
 | [],z=>z
 | v::vs,z=>if hld a un z.1=true then z else xtA a un vs (if v∈z.1 then z else(ins z.1 v,z.2++[v]))
def xtD (a:Qz)(un:LI)(set:LI)(v:Int):LI:=if hld a un (set.filter λx=>!decide (x=v))=true then set.filter λx=>!decide (x=v) else set
def QeG (a:Qz)(o un:LI):LI:=(xtA a un a.al (kpt a o,[])).2.foldl (xtD a un) (xtA a un a.al (kpt a o,[])).1
section
variable {all:xE}{C:xA}
theorem tf {pre:xu}{G I:Pt}(h:XP P all C (λf w=>(Z9 all f (QR all i)=true/\XO P (QR all i) f w λE w'=>C w'/\XT P all C K G E w') /\
   (Z9 all f (QR all j)=true/\XO P (QR all j) f w λE w'=>C w'/\XT P all C K I E w')) pre f w):XT P all C K (.fk pre i j G I) f w:=h
theorem tp {l:xu}(h:XP P all C K l f w):XT P all C K (.pl l) f w:=h
end
theorem Ys.I:∀{a b:LI},Ys a->Ys b->(∀x,x∈a↔x∈b)->a=b
 | [],[],_,_,_=>rfl
 | [],y::b,_,_,h=>by have:=(h y).2 Lh;cases this
 | x::a,[],_,_,h=>by have:=(h x).1 Lh;cases this
 | x::a,y::b,ia,ib,h=>by
  have e:x=y:=by
   have G:=(h x).1 Lh;have I:=(h y).2 Lh;rcases Lk.1 G with G|G
   ·exact G
   rcases Lk.1 I with I|I
   ·exact I.symm
   have:=ib.lt_of G;have:=ia.lt_of I;omega
  subst e;congr 1;refine Ys.I ia.tail ib.tail λz=>?_;have T:=h z;constructor
  ·intro J;have:=T.1 (Lj _ J);rcases Lk.1 this with G|G
   ·have:=ia.lt_of J;omega
   exact G
  intro J;have:=T.2 (Lj _ J);rcases Lk.1 this with G|G
  ·have:=ib.lt_of J;omega
  exact G
theorem K8 (es:List Ed)(s v:Int):nxt es s v=match xo es s v with|some u=>u|none=>-1:=by
 induction es with
 | nil=>rfl
 | cons e es ih =>
  rw[nxt,xo];split
  ·rfl
  exact ih
theorem V0 (G:QS a)(s v:Int):0<=nxt a.ed s v↔(xo a.ed s v).isSome=true:=by
 rw[K8];cases h:xo a.ed s v with
 | none=>simp
 | some u=>simp;exact(G.ed _ (YS h)).2.2.2.1
section
variable {w4 w'':O2}{b:Nat}{m q:Bool}{vd:O3}{E D:LI}
end
def grid (g:Nat->Int->Option Ed)(vs:LI)(n:Nat):List Ed:=(oO 0 n).flatMap λj=>vs.filterMap (g j)
theorem Kq (g:Nat->Int->Option Ed)(vs:LI)(n:Nat):grid g vs (n+1)=grid g vs n++vs.filterMap (g n):=by
 unfold grid;rw[Mj,LF];simp
theorem qR (l m:List Ed)(s v:Int):xo (l++m) s v=match xo l s v with|some u=>some u|none=>xo m s v:=by
 induction l with
 | nil=>rfl
 | cons e l ih =>
  rw[Mq,xo,xo];split
  ·rfl
  exact ih
def qK (g:Nat->Int->Option Ed):Prop:=∀j v e,g j v=some e->e.1=(j:Int)/\e.2.1=v
theorem Qda {g:Nat->Int->Option Ed}(G:qK g)(j:Nat)(v:Int):∀(vs:LI),xo (vs.filterMap (g j)) j v=if v∈vs then(g j v).map (·.2.2) else none
 | []=>by simp[xo]
 | u::vs=>by
  have ih:=Qda G j v vs;rw[Mr];cases E:g j u with
  | none =>
   simp only[];rw[ih];by_cases e:v=u
   ·subst e;simp[E]
   simp[e]
  | some e =>
   have I:=G j u e E;simp only[];rw[xo];by_cases e2:u=v
   ·subst e2;rw[OV I,OV Lh,E];rfl
   rw[OU (λh=>e2 (I.2.symm.D h.2)),ih];simp[Ne.symm e2]
theorem Qc9 {g:Nat->Int->Option Ed}(E:qK g)(h:j≠i)(v:Int)(vs:LI):xo (vs.filterMap (g j)) i v=none:=by
 refine VB λe G J=>?_;obtain⟨u,_,I⟩:=MF.1 G;have:=E j u e I;omega
theorem qA {g:Nat->Int->Option Ed}(E:qK g)(vs:LI)(j:Nat)(v:Int):∀n,xo (grid g vs n) j v=if j<n/\v∈vs then(g j v).map (·.2.2) else none
 | 0=>by simp[grid,xo]
 | n+1=>by
  rw[Kq,qR,qA E vs j v n];by_cases e:j=n
  ·subst e;rw[OU oa,Qda E];simp
  rw[Qc9 E (Ne.symm e)];by_cases h:j<n/\v∈vs
  ·rw[OV h,OV ⟨oa,h.2⟩];cases(g j v).map (·.2.2) <;> rfl
  rw[OU h,OU (λG=>h ⟨oa,G.2⟩)]
theorem yB {g:Nat->Int->Option Ed}{vs:LI}{e:Ed}(h:e∈grid g vs n):∃j v,j<n/\v∈vs/\g j v=some e:=by
 unfold grid at h;obtain⟨j,E,G⟩:=Mc.1 h;obtain⟨v,I,J⟩:=MF.1 G;rw[L8]at E;exact⟨j,v,oa,I,J⟩
theorem Qbo {g:Nat->Int->Option Ed}(E:qK g){vs:LI}(hi:Ys vs):∀n,(grid g vs n).Pairwise λx y:Ed=>x.1<y.1\/(x.1=y.1/\x.2.1<y.2.1)
 | 0=>by simp[grid]
 | n+1=>by
  rw[Kq,Mk];refine⟨Qbo E hi n,Ji (r:=(·<·)) (λx y u v Y J T=>?_) hi,λe U e' V=>?_⟩
  ·have G:=E n x u J;have I:=E n y v T;right;omega
  obtain⟨j,v,hj,_,G⟩:=yB U;obtain⟨v',_,I⟩:=MF.1 V;have h3:=E j v e G;have h4:=E n v' e' I;left;omega
theorem Qrx (l:List Qz):∀(acc:LI),(∀a∈l,Ys a.al)->Ys acc->Ys (l.foldl (λacc a=>mrg (· || ·) acc a.al) acc)/\∀x,x∈l.foldl (λacc a=>mrg (· || ·) acc a.al) acc↔x∈acc\/∃a∈l,x∈a.al:=by
 induction l with
 | nil=>intro acc _ h;exact⟨h,λx=>od⟩
 | cons a l ih =>
  intro acc hl h;have G:=hl a Lh;obtain⟨I,J⟩:=ih (mrg (· || ·) acc a.al) (λb hb=>hl b (Lj _ hb)) (Qa9 _ _ _ _ (Lp _) h G);rw[LQ];refine⟨I,λx=>?_⟩;rw[J x,UD h G];simp only[oK,exists_eq_or_imp];constructor
  ·rintro(⟨E|E,_⟩|E)
   ·exact .inl E
   ·exact .inr (.inl E)
   exact .inr (.inr E)
  rintro(E|E|E)
  ·exact .inl ⟨.inl E,by simp[E]⟩
  ·exact .inl ⟨.inr E,by simp[E]⟩
  exact .inr E
theorem Qbw {l:List Qz}(h:∀a∈l,QS a):Ys (evs l):=(Qrx l [] (λa E=>(h a E).ali) od).1
theorem Jn {l:List Qz}(h:∀a∈l,QS a)(x:Int):x∈evs l↔∃a∈l,x∈a.al:=by
 have:=(Qrx l [] (λa E=>(h a E).ali) od).2 x;unfold evs;rw[this];simp
def syF (aa:List Qz)(tup:List (LI))(j:Nat)(v:Int):Option Ed:=(QZ v aa (tup.getD j [])).map λu=>((j:Int),v,(tup.idxOf u:Int))
theorem Qiv (aa:List Qz)(tup:List (LI)):qK (syF aa tup):=by
 intro j v e h;unfold syF at h;obtain⟨u,_,rfl⟩:=Md.1 h;exact⟨O,O⟩
theorem UO {α β:Type}{f g:α->Option β}:∀{l:List α},(∀x∈l,f x=g x)->l.filterMap f=l.filterMap g
 | [],_=>rfl
 | x::l,h=>by rw[Mr,Mr,h x Lh,UO (λy E=>h y (Lj _ E))]
theorem Qbr {f:α->Option β}{v:α}{e:β}(h:f v=some e):[v].filterMap f=[e]:=by rw[Mr,h];rfl
theorem Qgh {f:α->Option β}{v:α}(h:f v=none):[v].filterMap f=[]:=by rw[Mr,h];rfl
theorem Qiw {tup:List (LI)}{v:Int}(h:QZ v aa (tup.getD j [])=none):syF aa tup j v=none:=by unfold syF;rw[h];rfl
theorem Qb7 {tup:List (LI)}{v:Int}(h:QZ v aa (tup.getD j [])=some u):syF aa tup j v=some ((j:Int),v,(tup.idxOf u:Int)):=by unfold syF;rw[h];rfl
def Clo (aa:List Qz)(tup:List (LI))(j:Nat)(vs:LI):Prop:=∀v∈vs,∀u,QZ v aa (tup.getD j [])=some u->u∈tup
theorem Y5 {tup r:List (LI)}(h:j<tup.length):(tup++r).getD j []=tup.getD j []:=by simp[oN,Oa h]
theorem Qfw {tup r:List (LI)}{vs:LI}(E:j<tup.length)(hc:Clo aa tup j vs):vs.filterMap (syF aa (tup++r) j)=vs.filterMap (syF aa tup j):=by
 refine UO λv G=>?_;unfold syF;rw[Y5 E];cases I:QZ v aa (tup.getD j []) with
 | none=>rfl
 | some u =>
  simp only[OD,Option.some.injEq,Prod.mk.injEq,true_and];rw[Ma,OV (hc v G u I)]
theorem Clo.pre {tup r:List (LI)}{vs:LI}(G:j<tup.length)(hc:Clo aa tup j vs):Clo aa (tup++r) j vs:=by
 intro v I u E;rw[Y5 G]at E;exact LG _ (hc v I u E)
theorem JF {l:List α}{u:α}(h:l.Nodup)(E:u∉l):(l++[u]).Nodup:=by
 rw[Mf];exact⟨h,od,λa G b hb=>by simp only[oF]at hb;subst hb;exact λe=>E (by rw[<-e];exact G)⟩
theorem jJ {aa:List Qz}{i:Nat}:∀(vs:LI) (s J:Sy),i<s.tup.length->s.tup.Nodup->VS aa i (Jq s i) vs s=some J ->
  ∃r,J.tup=s.tup++r/\J.mk'=s.mk'/\J.ed=s.ed++vs.filterMap (syF aa J.tup i)/\Clo aa J.tup i vs/\J.tup.Nodup
 | [],s,J,_,hd,e=>by cases e;exact⟨[],od,rfl,od,λv hv=>(by cases hv),hd⟩
 | v::vs,s,J,hi,hd,e=>by
  rw[VS]at e;obtain⟨T,E,h2⟩:=Ml.1 e;have key:∃Y,T.tup=s.tup++Y/\T.mk'=s.mk'/\T.ed=s.ed++[v].filterMap (syF aa T.tup i)/\Clo aa T.tup i [v]/\T.tup.Nodup:=by
   unfold syE at E;have eT:Jq s i=s.tup.getD i []:=rfl;rw[eT]at E;cases U:QZ v aa (s.tup.getD i []) with
   | none =>
    rw[U]at E;cases E
    refine⟨[],od,rfl,by rw[Qgh (Qiw U),Oi],λv' G u I=>?_,hd⟩;simp only[oF]at G;subst G;rw[U]at I;cases I
   | some u =>
    rw[U]at E;simp only[]at E;by_cases I:u∈s.tup
    ·rw[OV I]at E;cases E
     refine⟨[],od,rfl,by rw[Qbr (Qb7 U)],λv' G u' V=>?_,hd⟩;simp only[oF]at G;subst G;simp only[]at V ⊢;rw[U]at V;cases V;exact I
    rw[OU I]at E;split at E
    ·cases E
    cases E
    have e2:(s.tup++[u]).getD i []=s.tup.getD i []:=Y5 hi;have e3:(s.tup++[u]).idxOf u=s.tup.length:=by rw[Ma,OU I];simp
    refine⟨[u],O,O,?_,λv' G u' V=>?_,JF hd I⟩
    ·rw[Qbr (Qb7 (tup:=s.tup++[u]) (u:=u) (by rw[e2];exact U)),e3]
    simp only[oF]at G;subst G;rw[e2,U]at V;cases V;simp
  obtain⟨Y,k1,k2,k3,k4,k5⟩:=key;have ha:i<T.tup.length:=by rw[k1];simp;omega
  have eT:Jq T i=Jq s i:=by unfold Jq;rw[k1];exact Y5 hi
  rw[<-eT]at h2;obtain⟨r2,g1,g2,g3,g4,g5⟩:=jJ vs T J ha k5 h2;refine⟨Y++r2,by rw[g1,k1,LA],g2.D k2,?_,?_,g5⟩
  ·rw[g3,k3,LA];congr 1;rw[show v::vs=[v]++vs from rfl,List.filterMap_append];congr 1;rw[g1];exact(Qfw ha k4).symm
  intro v' G u I;rcases Lk.1 G with rfl|G
  ·have:=k4.pre (r:=r2) ha;rw[<-g1]at this;exact this v' Lh u I
  exact g4 v' G u I
structure SyG (aa:List Qz)(i:Nat)(s:Sy):Prop where
 nd:s.tup.Nodup
 le:i<=s.tup.length
 hd:s.tup.getD 0 []=oG aa.length 0/\0<s.tup.length
 mk2:s.mk'=((oO 0 i).filter λj=>JH aa (s.tup.getD j [])).map λj:Nat=>(j:Int)
 ed:s.ed=grid (syF aa s.tup) (evs aa) i
 cl:∀j,j<i->Clo aa s.tup j (evs aa)
theorem Y6 {α β:Type}{f g:α->List β}:∀{l:List α},(∀x∈l,f x=g x)->l.flatMap f=l.flatMap g
 | [],_=>rfl
 | x::l,h=>by rw[LM,LM,h x Lh,Y6 (λy E=>h y (Lj _ E))]
theorem SyG.next {s E:Sy}(h:SyG aa i s)(hi:i<s.tup.length)(e:VS aa i (Jq s i) (evs aa) (ZY aa i (Jq s i) s)=some E):SyG aa (i+1) E:=by
 have ht:(ZY aa i (Jq s i) s).tup=s.tup:=by unfold ZY;split <;> rfl
 have U:(ZY aa i (Jq s i) s).ed=s.ed:=by unfold ZY;split <;> rfl
 have hT:Jq (ZY aa i (Jq s i) s) i=Jq s i:=by show(ZY aa i (Jq s i) s).tup.getD i []=s.tup.getD i [];rw[ht]
 rw[<-hT]at e;obtain⟨r,g1,V,T,Y,g5⟩:=jJ (evs aa) _ E (by rw[ht];exact hi) (by rw[ht];exact h.nd) (by rw[hT]at e ⊢;exact e);rw[ht]at g1;rw[U]at T;have pre:∀j,j<=i->E.tup.getD j []=s.tup.getD j []:=λj G=>by rw[g1];exact Y5 oa
 refine⟨g5,by rw[g1];simp;omega,⟨by rw[pre 0 oa];exact h.hd.1,by rw[g1];simp;omega⟩,?_,?_,λj G=>?_⟩
 ·rw[V,Mj,LT,Ly,LW];have e1:((oO 0 i).filter λj=>JH aa (E.tup.getD j []))=(oO 0 i).filter λj=>JH aa (s.tup.getD j []):=by
   refine NB λj G=>?_;rw[L8]at G;rw[pre j oa]
  rw[e1];unfold ZY;by_cases I:JH aa (Jq s i)=true
  ·rw[OV I];have J:JH aa (E.tup.getD i [])=true:=by rw[pre i (Lp _)];exact I
   simp only[OA,J,if_true,List.filter_nil,oS,OC];rw[h.mk2]
  rw[OU I];have J:JH aa (E.tup.getD i [])=false:=by rw[pre i (Lp _)];exact eq_false_of_ne_true I
  rw[L4,OU (by rw[J];simp),MP,h.mk2];simp
 ·rw[T,Kq,h.ed];congr 1;unfold grid;refine Y6 λj G=>?_;rw[L8]at G;rw[g1];exact(Qfw oa (h.cl j oa)).symm
 by_cases e2:j=i
 ·subst e2;exact Y
 have:=(h.cl j oa).pre (r:=r) oa;rw[<-g1]at this;exact this
theorem Qb5 {aa:List Qz}:∀(f i:Nat) (s E:Sy),SyG aa i s->syL aa f i s=some E->∃G,SyG aa G E/\(E.tup.length=G\/G=i+f)
 | 0,i,s,E,h,e=>by cases e;exact⟨i,h,.inr O⟩
 | f+1,i,s,E,h,e=>by
  rw[syL]at e;split at e
  ·rename_i hi;obtain⟨I,J,T⟩:=Ml.1 e;obtain⟨G,U,V⟩:=Qb5 f (i+1) I E (h.next hi J) T;exact⟨G,U,oa⟩
  cases e;exact⟨i,h,.inl (oo h.le)⟩
structure SyP (aa:List Qz)(A:Qz)(Q:List (LI)):Prop where
 al:A.al=evs aa
 st:A.st=(Q.length:Int)
 nd:Q.Nodup
 v:∀t∈Q,Vt aa t
 le:Q.length<=4096
 hd:0<Q.length->Q.getD 0 []=oG aa.length 0
 mk2:A.mr=((oO 0 Q.length).filter λj=>JH aa (Q.getD j [])).map λj:Nat=>(j:Int)
 ed:A.ed=grid (syF aa Q) (evs aa) Q.length
 cl:∀j,j<Q.length->Clo aa Q j (evs aa)
theorem Yz (J:∀a∈aa,QS a){Q:List (LI)}(h:xp aa=some (A,Q)):SyP aa A Q/\(Q.length=0↔∃a∈aa,a.st=0):=by
 have hok:=zq J h;unfold xp at h;split at h
 ·rename_i G;cases h
  exact⟨⟨O,O,od,od,od,λh=>by simp at h,od,by simp[grid],λj I=>by simp at I⟩,ou G⟩
 rename_i G;obtain⟨s,T,U⟩:=Md.1 h;have V:SyG aa 0 (zT aa):=⟨by simp[zT],od,⟨by simp[zT],by simp[zT]⟩,by simp[zT],by simp[zT,grid],λj I=>oa⟩;obtain⟨Y,E,h4⟩:=Qb5 4096 0 (zT aa) s V T;cases U
 have hl:Y=s.tup.length:=by
  have h5:=E.le;have h6:=hok.2;simp only[]at h6;omega
 subst hl;refine⟨⟨rfl,O,E.nd,hok.1,hok.2,λ_=>E.hd.1,E.mk2,E.ed,E.cl⟩,?_⟩;have:=E.hd.2;constructor
 ·intro h;have h7:s.tup.length=0:=h;omega
 intro h;exact OX h G
theorem SyP.J {Q:List (LI)}(h:SyP aa A Q)(G:j<Q.length)(v:Int):
  xo A.ed j v=if v∈evs aa then(QZ v aa (Q.getD j [])).map λu=>(Q.idxOf u:Int) else none:=by
 rw[h.ed,qA (Qiv aa Q)];by_cases E:v∈evs aa
 ·rw[OV ⟨G,E⟩,OV E];unfold syF;rw[Option.map_map];rfl
 rw[OU (λe=>E e.2),OU E]
theorem SyP.to {Q:List (LI)}(h:SyP aa A Q)(E:j<Q.length){v:Int}(G:v∈evs aa)(I:QZ v aa (Q.getD j [])=some u):Q.idxOf u<Q.length/\Q.getD (Q.idxOf u) []=u:=by
 have hl:=L7 (h.cl j E v G u I);refine⟨hl,?_⟩;simp[oN,hl]
theorem SyP.okay (G:∀a∈aa,QS a){Q:List (LI)}(h:SyP aa A Q):QS A:=by
 have hf:=h.le;refine⟨λe E=>?_,by rw[h.al];exact Qbw G,by rw[h.st];omega,by rw[h.st];omega,λs I=>?_,?_,λe E=>?_,by rw[h.ed];exact Qbo (Qiv aa Q) (Qbw G) _⟩
 ·rw[h.al]at E;obtain⟨a,U,hx⟩:=(Jn G e).1 E;exact(G a U).al e hx
 ·rw[h.mk2]at I;simp only[Om,Oj,Oh]at I;obtain⟨i,⟨hi,_⟩,rfl⟩:=I;rw[h.st];omega
 ·rw[h.mk2];unfold Ys;rw[L9];refine List.Pairwise.sublist MD ?_;exact(M8 (s:=0) (n:=Q.length)).imp (λh=>oa)
 rw[h.ed]at E;obtain⟨j,v,V,J,T⟩:=yB E;unfold syF at T;obtain⟨u,Y,rfl⟩:=Md.1 T;have:=(h.to V J Y).1;rw[h.st,h.al];exact⟨oe,oe,J,oe,oe⟩
open Go.RowKit
instance:LawfulBEq ByteArray where
 eq_of_beq h:=(MapKept.bytes_beq _ _).1 h;rfl:=(MapKept.bytes_beq _ _).2 O
def chr (s:ByteArray)(i:Nat):Nat:=(s.get! i).toNat
theorem Qp3 {s:ByteArray}(h:i<s.size):(s[i]'h).toNat=chr s i:=by
 unfold chr;obtain⟨d⟩:=s;have hd:i<d.size:=h;simp[ByteArray.get!,hd,ByteArray.getElem_eq_getElem_data]
theorem QhM {a b:ByteArray}(h:a.data.toList=b.data.toList):a=b:=by
 obtain⟨⟨x⟩⟩:=a;obtain⟨⟨y⟩⟩:=b;have E:x=y:=h;rw[E]
theorem bytes_beq (a b:ByteArray):(a.toList == b.toList)=decide (a=b):=by
 rw[ByteArray.toList_eq,ByteArray.toList_eq];by_cases h:a=b
 ·subst h;simp
 rw[O0 h];have:a.data.toList≠b.data.toList:=λe=>h (QhM e);simpa using this
section
variable {t':Nat}{x:O4}
theorem QiY [h:St P t]{s:ByteArray}{k:IntKind}(hx:ev f x=.string s)(G:ev f y=.int k i)(hi:i<s.size):
  (execOp (ev f) ⟨d,.index t x y,ty,pS,af,gd⟩).run P w=.ok (.value (.int .u8 (chr s i))) w:=by
 have E:=run_index_string (P:=P) w t s k i h.u;rw[dif_pos ⟨oa,oa⟩]at E;have e:(s[(i:Int).toNat]'(ou hi)).toNat=chr s i:=Qp3 hi;simp only[execOp,hx,G,Sem.run_bind,E,Result.andThen_ok,Sem.run_pure,e]
theorem Qd8 [h:St P t]{s:ByteArray}(hx:ev f x=.string s):
  (execOp (ev f) ⟨d,.call ⟨.builtin .len,#[x],#[t]⟩,ty,pS,af,gd⟩).run P w=.ok (.value (sS s.size)) w:=QiX h.u hx
theorem QaT {a b:ByteArray}(hx:ev f x=.string a)(E:ev f y=.string b):
  (execOp (ev f) ⟨d,.binOp .eql t x y t',ty,pS,af,gd⟩).run P w=.ok (.value (.bool (decide (a=b)))) w:=by
 have G:(eqGuard .eql t x y (.string a) (.string b)).run P w=.ok () w:=by simp[eqGuard]
 simp only[execOp,hx,E,Sem.run_bind,G,Result.andThen_ok,binOp_string_eql,Sem.run_pure,bytes_beq]
theorem YL {a b:ByteArray}(hx:ev f x=.string a)(E:ev f y=.string b)(hl:a.size+b.size<=1000000000):
  (execOp (ev f) ⟨d,.binOp .add t x y t',ty,pS,af,gd⟩).run P w=.ok (.value (.string (a++b))) w:=by
 have G:(eqGuard .add t x y (.string a) (.string b)).run P w=.ok () w:=by simp[eqGuard]
 have I:¬(((a.size+b.size:Nat):Int) > IntKind.i64.max):=by
  rw[show IntKind.i64.max=9223372036854775807 from rfl];omega
 simp only[execOp,hx,E,Sem.run_bind,G,Result.andThen_ok,binOp_string_add,Op.stringOp,OU I,Sem.run_pure]
end
section
variable {P:O5}{ops:xE}{K:xz}{f:Fr}{w:O2}{d:xF}{ty:Nat}{pS:String}{af:xD}{gd:xt}{l:xE}
 {t e sz bys:Nat} {z:O3} {x y1 y2:O4} {L:LN} {v:O3} {n:Nat} {cs:LV} {H:xC} {k k':IntKind} {hi:Nat}
theorem QiU [h:Sl P t e sz bys z](hA:Zu L H v n sz cs)(hx:ev f x=v)(G:ev f y1=.int k hi)(I:ev f y2=.int k' hi)(V:hi<=n):
  ∃v',Zu L H v' hi sz (cs.take (hi*sz))/\∀w,(execOp (ev f) ⟨d,.slice t x none (some y1) (some y2),ty,pS,af,gd⟩).run P w=.ok (.value v') w:=by
 obtain⟨ii,J,_,Y,_⟩:=Sl.info h;rcases hA.2.2 with⟨rfl,rfl⟩|⟨a,cap,rfl,hc,T⟩
 ·have U:hi=0:=oa
  subst U;refine⟨nS,?_,λw=>?_⟩
  ·rw[Nat.zero_mul,NF];exact Zu.nil _ _ _
  simp[execOp,hx,G,I,Instr.sliceAt,Instr.slice,Instr.sliceBounds,Instr.sliceBound,asIntOf,run_underlying h.u,sizeOf,typeInfo,J]
 refine⟨.slice (some a) hi hi,⟨?_,oo hA.2.1,.inr ⟨a,hi,O,Lp _,λu E=>T.out u (L2 E),λu E=>T.lt u (L2 E),λj u E=>?_⟩⟩,λw=>?_⟩
 ·rw[LC,hA.1,M2 (MT _ V)]
 ·rw[LZ]at E;split at E
  ·exact T.cell j u E
  cases E
 by_cases U:hi=0
 ·subst U;simp[execOp,hx,G,I,Instr.sliceAt,Instr.slice,Instr.sliceBounds,Instr.sliceBound,asIntOf,run_underlying h.u,sizeOf,typeInfo,J]
 simp[execOp,hx,G,I,Instr.sliceAt,Instr.slice,Instr.sliceBounds,Instr.sliceBound,asIntOf,run_underlying h.u,sizeOf,typeInfo,J,Addr.add];intro h9;omega
end
section
variable {l:xE}{o:Oper}{C:xA}{pl:xu}
theorem xB {b:Bool}(E:(execOp (ev f) o).run P w=.ok (.value (.bool b)) w)(ht:b=true->XL P ops K l (QP f o.dst (.bool true)) w)(I:b=false->XL P ops K l (QP f o.dst (.bool false)) w)
  (G:Z9 ops f o=true:=by rfl):XL P ops K (o::l) f w:=by
 cases hb:b with
 | true=>rw[hb]at E;exact x E (ht hb) G
 | false=>rw[hb]at E;exact x E (I hb) G
theorem pB {b:Bool}(E:∀w',(execOp (ev f) (QR ops i)).run P w'=.ok (.value (.bool b)) w')(ht:b=true->XP P ops C K pl (QP f (QR ops i).dst (.bool true)) w)(I:b=false->XP P ops C K pl (QP f (QR ops i).dst (.bool false)) w)
  (G:Z9 ops f (QR ops i)=true:=by rfl):XP P ops C K ((i,true)::pl) f w:=by
 cases hb:b with
 | true=>rw[hb]at E;exact p E (ht hb) G
 | false=>rw[hb]at E;exact p E (I hb) G
theorem QeI {G:Prop}(b:Bool)(ht:b=true->G)(E:b=false->G):G:=by cases h:b with|true=>exact ht h|false=>exact E h
theorem bT {q:Prop}[Decidable q](h:q):true=decide q:=(OY h).symm
theorem bF {q:Prop}[Decidable q](h:¬q):false=decide q:=(O0 h).symm
theorem bD {q r:Prop}[Decidable q][Decidable r](h:q↔r):decide q=decide r:=decide_eq_decide.2 h
end
section
variable {x:O4}
theorem yb {q:Prop}[Decidable q](hx:ev f x=.bool (decide q)):(execOp (ev f) ⟨d,.unOp .not t x,ty,pS,af,gd⟩).run P w=.ok (.value (.bool (decide (¬q)))) w:=by
 rw[Zj hx];simp
end
structure VE where
 nm:ByteArray
 co:Bool
 ob:Bool
 fo:Bool
 fl:Int
structure Jp where
 nm:ByteArray
 a:Qz
structure Exc where
 nm:ByteArray
 ls:xx
structure xM where
 nm:ByteArray
 ts:xx
 bd:Int
structure ZS where
 ev:List VE
 co:List Jp
 rq:List Jp
 ex:List Exc
 cs:List xM
def VJ (n:Nat):LI:=(oJ n).map λi:Nat=>(i:Int)
def nmP (i c:Nat):Prop:=((97<=c/\c<=122)\/(65<=c/\c<=90)\/c=95)\/(i≠0/\48<=c/\c<=57)
instance (i c:Nat):Decidable (nmP i c):=by unfold nmP;infer_instance
def nmQ (s:ByteArray)(i:Nat):Bool:=decide (nmP i (chr s i))
def Xp (s:ByteArray):Bool:=(oO 0 s.size).all (nmQ s) && decide (0<s.size/\s.size<=32)
def Je (seen:List ByteArray)(e:VE):Int:=if Xp e.nm=false then 7 else if e.nm∈seen then 8 else if e.fl<0\/4<e.fl then 2 else if e.fl≠0/\(e.co || e.ob)=true then 13 else 0
def qT:List ByteArray->List VE->Int
 | _,[]=>0
 | seen,e::l=>if Je seen e≠0 then Je seen e else qT (seen++[e.nm]) l
def XQ (l:List VE):Int:=if 32<l.length then 3 else qT [] l
def ixs {α:Type}(q:α->Bool):Nat->List α->LI
 | _,[]=>[]
 | i,e::l=>if q e=true then(i:Int)::ixs q (i+1) l else ixs q (i+1) l
def unc (l:List VE):LI:=ixs (λe=>!e.co) 0 l
def XC (sz:LI):Option Int->List (Int×Int)->Int
 | _,[]=>0
 | pr,l::ls=>if l.1<0\/(sz.length:Int)<=l.1 then 2 else if yq pr l.1=true then 5 else if l.2<0\/O7 sz l.1.toNat<=l.2 then 2 else XC sz (some l.1) ls
def J0 (sz:LI)(ls:xx):Int:=if ls.length=0 then 12 else XC sz none ls
def grt (n:Int):Bool:=decide (n < -65536) || decide (65536<n)
def JZ (sz:LI):Option Int->List (Int×Int)->Int
 | _,[]=>0
 | pr,l::ls=>if l.1<0\/(sz.length:Int)<=l.1 then 2 else if yq pr l.1=true then 5 else if l.2=0\/grt l.2=true then 2 else JZ sz (some l.1) ls
def XD (sz:LI)(k:xM):Int:=if k.ts.length=0 then 12 else if JZ sz none k.ts≠0 then JZ sz none k.ts else if grt k.bd=true then 2 else 0
def Vi (seen:List ByteArray)(s:ByteArray):Int:=if Xp s=false then 7 else if s∈seen then 8 else 0
def YO (sz:LI):List ByteArray->List Exc->Int
 | _,[]=>0
 | seen,x::l=>if Vi seen x.nm≠0 then Vi seen x.nm else if J0 sz x.ls≠0 then J0 sz x.ls else YO sz (seen++[x.nm]) l
def Xq (sz:LI):List ByteArray->List xM->Int
 | _,[]=>0
 | seen,x::l=>if Vi seen x.nm≠0 then Vi seen x.nm else if XD sz x≠0 then XD sz x else Xq sz (seen++[x.nm]) l
def Jf (n:Int):Bool:=decide (n<1) || decide (4096<n)
def Y7 (sz:LI)(ex:List Exc)(cs:List xM):Int:=if 8<sz.length then 3 else if sz.any Jf=true then 2 else if 32<ex.length\/32<cs.length then 3 else if YO sz [] ex≠0 then YO sz [] ex else Xq sz [] cs
def mns (a b:LI):LI:=mrg (λp q=>p && !q) a b
def Kp (a:Qz):Bool:=decide (Jc a=0) && decide ((YG a).st=a.st/\(YG a).al=a.al/\(YG a).mr=a.mr/\(YG a).ed=a.ed)
def Yw (nev:Nat)(amg:LI)(seen:List ByteArray)(x:Jp):Int :=
 if Xp x.nm=false then 7 else if x.nm∈seen then 8 else if Jc x.a≠0 then Jc x.a else if Kp x.a=false then 6 else if x.a.st=0 then 12 else
 if(x.a.al.any λe=>decide ((nev:Int)<=e))=true then 2 else if(mns x.a.al amg).length≠0 then 9 else 0
def Yx (nev:Nat)(al:LI):List ByteArray->LI->List Jp->Int×List ByteArray×LI
 | s,u,[]=>(0,s,u)
 | s,u,x::l=>if Yw nev al s x≠0 then(Yw nev al s x,s,u) else Yx nev al (s++[x.nm]) (mrg (· || ·) u x.a.al) l
def Ks (nev:Nat)(u:LI):List ByteArray->List Jp->Int
 | _,[]=>0
 | s,x::l=>if Yw nev u s x≠0 then Yw nev u s x else Ks nev u (s++[x.nm]) l
def szs (l:List Jp):LI:=l.map (·.a.st)
def O8 (l:List Jp):List Qz:=l.map (·.a)
def Z2 (c:ZS):Int :=
 if XQ c.ev≠0 then XQ c.ev else if c.co.length=0 then 12 else if 8<c.co.length\/12<c.co.length+c.rq.length then 3 else
 if(Yx c.ev.length (VJ c.ev.length) [] [] c.co).1≠0 then(Yx c.ev.length (VJ c.ev.length) [] [] c.co).1 else
 if Ks c.ev.length (Yx c.ev.length (VJ c.ev.length) [] [] c.co).2.2 (Yx c.ev.length (VJ c.ev.length) [] [] c.co).2.1 c.rq≠0 then Ks c.ev.length (Yx c.ev.length (VJ c.ev.length) [] [] c.co).2.2 (Yx c.ev.length (VJ c.ev.length) [] [] c.co).2.1 c.rq else
 Y7 (szs c.co) c.ex c.cs
def VQ (t:LI)(x:Exc):Bool:=x.ls.all λl=>decide (t.getD l.1.toNat 0=l.2)
def QqR (t:LI)(k:xM):Int:=k.ts.foldl (λs p=>s+p.2*t.getD p.1.toNat 0) 0
def U8 (t:LI)(k:xM):Bool:=decide (k.bd<QqR t k)
def vio (c:ZS)(t:LI):Option (Int×Int):=
 if 0<=fix (VQ t) 0 c.ex then some (1,fix (VQ t) 0 c.ex) else if 0<=fix (U8 t) 0 c.cs then some (2,fix (U8 t) 0 c.cs) else none
def rfr (v:Int):Nat->List Jp->LI->Int
 | i,x::l,s::ss=>if v∈x.a.al/\(xo x.a.ed s v).isSome=false then(i:Int) else rfr v (i+1) l ss
 | _,_,_=>-1
structure Rsn where
 st:Int
 kd:Int
 ix:Int
 ev:Int
def rfd (c:ZS)(rs:LI):LI->Option (Int×Int)
 | []=>none
 | v::l=>if 0<=rfr v 0 c.rq rs/\(c.ev.getD v.toNat ⟨.empty,false,false,false,0⟩).co=false then some (rfr v 0 c.rq rs,v) else rfd c rs l
def yL (a:Qz)(s:Int):LI:=(QM a.ed s).map (·.2.1)
def rsn (c:ZS)(pl:Qz)(plc:Int)(i:Nat)(t:LI):Option Rsn :=
 match vio c (t.take c.co.length) with
 | some (k,j)=>some ⟨i,k,j,-1⟩
 | none=>match rfd c (t.drop c.co.length) (yL pl plc) with
  | some (j,v)=>some ⟨i,3,j,v⟩
  | none=>none
structure Spc where
 a:Qz
 co:List (LI)
 rq:List (LI)
 pl:LI
 fb:List Rsn
def plx (ps:List (LI))(t:LI):Int:=if t∈ps then(ps.idxOf t:Int) else 0
def QoL (c:ZS)(pl:Qz)(ps:List (LI))(s:Spc)(p:LI×Nat):Spc :=
 ⟨s.a,s.co++[p.1.take c.co.length],s.rq++[p.1.drop c.co.length],s.pl++[plx ps (p.1.take c.co.length)],
  match rsn c pl (plx ps (p.1.take c.co.length)) p.2 p.1 with|some r=>s.fb++[r]|none=>s.fb⟩
def YQ (c:ZS):Int:=if Z2 c≠0 then Z2 c else if KT (O8 c.co)≠0 then KT (O8 c.co) else match xp (O8 c.co) with
 | none=>3
 | some _=>if KT (O8 c.co++O8 c.rq)≠0 then KT (O8 c.co++O8 c.rq) else match xp (O8 c.co++O8 c.rq) with
  | none=>3
  | some _=>0
def J7 (l:List Qz):Qz:=match xp l with|none=>⟨[],0,[],[]⟩|some z=>z.1
def syQ (l:List Qz):List (LI):=match xp l with|none=>[]|some z=>z.2
def spc (c:ZS):Spc:=(syQ (O8 c.co++O8 c.rq)).zipIdx.foldl (QoL c (J7 (O8 c.co)) (syQ (O8 c.co))) ⟨J7 (O8 c.co++O8 c.rq),[],[],[],[]⟩
theorem Qd7 [h:Bk P t]{x:O4}{a b:Bool}(hx:ev f x=.bool a)(G:ev f y=.bool b):
  (execOp (ev f) ⟨d,.binOp .neq t x y E,ty,pS,af,gd⟩).run P w=.ok (.value (.bool (!(a == b)))) w:=by
 have I:(eqGuard .neq t x y (.bool a) (.bool b)).run P w=.ok () w:=by simp[eqGuard]
 simp[execOp,hx,G,I,run_neq_bool (P:=P) (w:=w) t a b h.u]
inductive Pu where
 | pl (l:xu)
 | f2 (pre:xu) (i j:Nat) (t1 t2:Pu)
 | f3 (pre:xu) (i j k:Nat) (t1 t2 t3:Pu)
def Pu.len:Pu->Nat
 | .pl l=>l.length
 | .f2 pre _ _ t1 _=>pre.length+(1+t1.len)
 | .f3 pre _ _ _ t1 _ _=>pre.length+(1+t1.len)
def QaW (all:Array Oper):Pu->Array Bool->Bool
 | .pl l,ls=>Xo all l ls
 | .f2 pre i j t1 t2,ls=>Jh all pre ls && Region.ready .any all (ZT pre ls) == [i,j] && t1.len == t2.len && QaW all t1 ((ZT pre ls).setIfInBounds i true) && QaW all t2 ((ZT pre ls).setIfInBounds j true)
 | .f3 pre i j k t1 t2 t3,ls=>Jh all pre ls && Region.ready .any all (ZT pre ls) == [i,j,k] && t1.len == t2.len && t1.len == t3.len && QaW all t1 ((ZT pre ls).setIfInBounds i true) && QaW all t2 ((ZT pre ls).setIfInBounds j true) && QaW all t3 ((ZT pre ls).setIfInBounds k true)
def QqZ (all:xE)(t:Pu):Bool:=Region.noSelect all.toArray && t.len == all.length && QaW all.toArray t (oP all.length false)
def XE (P:O5)(all:xE)(C:xA)(i:Nat)(N:xz)(f:Fr)(w:O2):Prop:=Z9 all f (QR all i)=true/\XO P (QR all i) f w λE w'=>C w'/\N E w'
def XU (P:O5)(all:xE)(C:xA)(K:xz):Pu->Fr->O2->Prop
 | .pl l=>XP P all C K l
 | .f2 pre i j t1 t2=>XP P all C (λf w=>XE P all C i (XU P all C K t1) f w/\XE P all C j (XU P all C K t2) f w) pre
 | .f3 pre i j k t1 t2 t3=>XP P all C (λf w=>XE P all C i (XU P all C K t1) f w/\XE P all C j (XU P all C K t2) f w/\XE P all C k (XU P all C K t3) f w) pre
section
variable {all:xE}{C:xA}{B:xz}
theorem Ku (E:Region.noSelect all.toArray=true):∀(t:Pu) (ls:Array Bool) (f:Fr) (w:O2),ls.size=all.length->C w->QaW all.toArray t ls=true->XU P all C K t f w->XA P all C K t.len ls f w
 | .pl l,ls,f,w,V,hC,G,h=>Yq E l ls f w V (.inl hC) G h
 | .f2 pre i j t1 t2,ls,f,w,V,hC,G,h=>by
  simp only[QaW,oI,beq_iff_eq]at G;obtain⟨⟨⟨⟨hq,I⟩,hl⟩,h1⟩,h2⟩:=G;rw[Pu.len];refine YI (B:=λf w=>XE P all C i (XU P all C K t1) f w/\XE P all C j (XU P all C K t2) f w) E pre ls f w hC hq (λf J=>?_) h;have T:∀k,((ZT pre ls).setIfInBounds k true).size=all.length:=λk=>by simp[YM,V]
  rw[MY 1];refine J2 (λh0=>(by rw[h0]at I;cases I)) ?_;rw[I];intro k Y o U;simp only[oK,oH,or_false]at Y;rcases Y with rfl|rfl
  ·have:=J.1;unfold XE at this;rw[ZG U]at this;rw[this.1,cond_true];exact this.2.S λv w' hx=>⟨.inr (.inr hx.1),Ku E t1 _ _ _ (T _) hx.1 h1 hx.2⟩
  have:=J.2;unfold XE at this;rw[ZG U]at this;rw[this.1,cond_true,hl];exact this.2.S λv w' hx=>⟨.inr (.inr hx.1),Ku E t2 _ _ _ (T _) hx.1 h2 hx.2⟩
 | .f3 pre i j k t1 t2 t3,ls,f,w,V,hC,G,h=>by
  simp only[QaW,oI,beq_iff_eq]at G;obtain⟨⟨⟨⟨⟨⟨hq,I⟩,hl⟩,ha⟩,h1⟩,h2⟩,h3⟩:=G;rw[Pu.len];refine YI (B:=λf w=>XE P all C i (XU P all C K t1) f w/\XE P all C j (XU P all C K t2) f w/\XE P all C k (XU P all C K t3) f w) E pre ls f w hC hq (λf J=>?_) h;have T:∀k,((ZT pre ls).setIfInBounds k true).size=all.length:=λk=>by simp[YM,V]
  rw[MY 1];refine J2 (λh0=>(by rw[h0]at I;cases I)) ?_;rw[I];intro q Y o U;simp only[oK,oH,or_false]at Y;rcases Y with rfl|rfl|rfl
  ·have:=J.1;unfold XE at this;rw[ZG U]at this;rw[this.1,cond_true];exact this.2.S λv w' hx=>⟨.inr (.inr hx.1),Ku E t1 _ _ _ (T _) hx.1 h1 hx.2⟩
  ·have:=J.2.1;unfold XE at this;rw[ZG U]at this;rw[this.1,cond_true,hl];exact this.2.S λv w' hx=>⟨.inr (.inr hx.1),Ku E t2 _ _ _ (T _) hx.1 h2 hx.2⟩
  have:=J.2.2;unfold XE at this;rw[ZG U]at this;rw[this.1,cond_true,ha];exact this.2.S λv w' hx=>⟨.inr (.inr hx.1),Ku E t3 _ _ _ (T _) hx.1 h3 hx.2⟩
theorem QgL {Q:Exit->Fr->O2->Prop}(C:xA)(t:Pu)(I:P.follows .mixedOrders=true)(J:Xx n all=true)(E:QqZ all t=true)
  (hC:C { w with drawn:=w.drawn+1 }) (h:XU P all C (λf w=>Q .normal f w) t f { w with drawn:=w.drawn+1 }):W P n (.region id all.toArray true) Q f w:=by
 simp only[QqZ,oI,beq_iff_eq]at E;obtain⟨⟨T,hl⟩,E⟩:=E;refine JJ C I J ?_;have G:=Ku T t _ _ _ od hC E h;rw[hl]at G;exact G
theorem uP {l:xu}(h:XP P all C K l f w):XU P all C K (.pl l) f w:=h
theorem u2 {pre:xu}{E G:Pu}(h:XP P all C (λf w=>XE P all C i (XU P all C K E) f w/\XE P all C j (XU P all C K G) f w) pre f w):XU P all C K (.f2 pre i j E G) f w:=h
theorem u3 {pre:xu}{k:Nat}{E G I:Pu}(h:XP P all C (λf w=>XE P all C i (XU P all C K E) f w/\XE P all C j (XU P all C K G) f w/\XE P all C k (XU P all C K I) f w) pre f w):XU P all C K (.f3 pre i j k E G I) f w:=h
theorem ue {N:xz}(h:XO P (QR all i) f w λE w'=>C w'/\N E w')(G:Z9 all f (QR all i)=true:=by rfl):XE P all C i N f w:=⟨G,h⟩
end
attribute [irreducible] XU XE
open Go.RowKit
abbrev fen (ro:xF):Fence:={ Fence.wide with round:=ro }
def coll (ds:LN):List Deferred:=ds.map λD=>{ target:=.collected D,args:=#[] }
structure Xi (n:Nat)(ds:LN)(a:Act)(f:Fr):Prop where
 size:a.tmps.size=n
 defers:a.defers=coll ds
 get:∀t,a.tmps.getD t undef=f t
theorem Xi.rel {a:Act}(h:Xi n ds a f):Rel n { a with defers:=[] } f:=⟨h.size,O,h.get⟩
theorem Xi.eval {n:Nat}{ds:LN}{a:Act}{f:Fr}(h:Xi n ds a f):a.eval=ev f:=by
 have:=h.rel.eval;rw[<-this];funext x;cases x <;> rfl
theorem Xi.put {n:Nat}{ds:LN}{a:Act}{f:Fr}(h:Xi n ds a f){dst:xF}(hd:∀d,dst=some d->d<n)(v:O3):Xi n ds (a.put dst v) (QP f dst v):=by
 have:=h.rel.put hd v;cases dst with
 | none=>exact h
 | some d=>exact⟨this.size,h.defers,this.get⟩
def Jg:Code->Nat->Bool
 | .region _ ops _,t=>Yn ops.toList t
 | .seq a b,t=>Jg a t || Jg b t
 | .cond _ a b,t=>Jg a t || Jg b t
 | .block _ a,t=>Jg a t
 | .loop a,t=>Jg a t
 | .skip,_| .exit _,_| .label _,_| .goto _,_| .ret,_| .rangeFunc ..,_=>false
 | _,_=>true
def wrG (D:xw):Code->Bool
 | .region _ ops _=>Qfn D ops.toList
 | .seq a b=>wrG D a && wrG D b
 | .cond _ a b=>wrG D a && wrG D b
 | .block _ a=>wrG D a
 | .loop a=>wrG D a
 | .skip| .exit _| .label _| .goto _| .ret| .rangeFunc ..=>true
 | _=>false
theorem JT {D:xw}{t:Nat}(ht:J8 D t=false):∀c:Code,wrG D c=true->Jg c t=false
 | .region _ ops _,h=>jC h ht
 | .seq a b,h=>by simp only[wrG,oI]at h;simp[Jg,JT ht a h.1,JT ht b h.2]
 | .cond _ a b,h=>by simp only[wrG,oI]at h;simp[Jg,JT ht a h.1,JT ht b h.2]
 | .block _ a,h=>JT ht a (by simpa[wrG]using h)
 | .loop a,h=>JT ht a (by simpa[wrG]using h)
 | .skip,_=>rfl
 | .exit _,_=>rfl
 | .label _,_=>rfl
 | .goto _,_=>rfl
 | .ret,_=>rfl
 | .rangeFunc ..,_=>rfl
 | .scope _,h=>by simp[wrG]at h
 | .refuse _,h=>by simp[wrG]at h
def WG (ro:xF)(m:Nat)(P:O5)(n:Nat)(c:Code)(Q:Exit->LN->Fr->O2->Prop)(ds:LN)(f:Fr)(w:O2):Prop :=
 ∀a,Xi n ds a f->c.wpIn (fen ro) m P (λe E w'=>∃ds' f',Xi n ds' E f'/\(∀t,Jg c t=false->f' t=f t)/\Q e ds' f' w') a w
def QdX (K:LN->Fr->O2->Prop)(Q:Exit->LN->Fr->O2->Prop):Exit->LN->Fr->O2->Prop
 | .normal,ds,f,w=>K ds f w
 | e,ds,f,w=>Q e ds f w
def QrH (id:Nat)(Q:Exit->LN->Fr->O2->Prop):Exit->LN->Fr->O2->Prop
 | .exit i,ds,f,w=>bif OS i id then Q .normal ds f w else Q (.exit i) ds f w
 | e,ds,f,w=>Q e ds f w
section
variable {ro:xF}{Q:Exit->LN->Fr->O2->Prop}
theorem WG.S {c:Code}{Q':Exit->LN->Fr->O2->Prop}(h:WG ro m P n c Q ds f w)(E:∀e ds f w,Q e ds f w->Q' e ds f w):WG ro m P n c Q' ds f w :=
 λa G=>wpIn_mono (h a G) λ_ _ _ ⟨I,J,T,U,V⟩=>⟨I,J,T,U,E _ _ _ _ V⟩
theorem WG.keeps {c:Code}(h:WG ro m P n c Q ds f w):WG ro m P n c (λe G E w'=>(∀t,Jg c t=false->E t=f t)/\Q e G E w') ds f w :=
 λa J=>wpIn_mono (h a J) λ_ _ _ ⟨G,E,T,I,U⟩=>⟨G,E,T,I,I,U⟩
theorem Yb (h:Q .normal ds f w):WG ro m P n .skip Q ds f w:=λ_ E=>wpIn_skip ⟨ds,f,E,λ_ _=>O,h⟩
theorem JL (h:Q (.exit i) ds f w):WG ro m P n (.exit i) Q ds f w:=λ_ E=>wpIn_exit ⟨ds,f,E,λ_ _=>O,h⟩
theorem J4 (h:Q .ret ds f w):WG ro m P n .ret Q ds f w:=λ_ E=>wpIn_ret ⟨ds,f,E,λ_ _=>O,h⟩
theorem QQ {x y:Code}(h:WG ro m P n x (QdX (λds f w=>WG ro m P n y Q ds f w) Q) ds f w):WG ro m P n (.seq x y) Q ds f w:=by
 intro a T;refine wpIn_seq (wpIn_mono (h a T) ?_);rintro e U w' ⟨J,E,G,V,I⟩;have k1:∀t,Jg (.seq x y) t=false->E t=f t:=λt ht=>V t (by simp only[Jg,oY]at ht;exact ht.1);cases e with
 | normal =>
  refine wpIn_mono (I U G) λ_ _ _ ⟨Y,he,g1,g2,g3⟩=>⟨Y,he,g1,λt ht=>(g2 t ?_).D (k1 t ht),g3⟩;simp only[Jg,oY]at ht;exact ht.2
 | exit id=>exact⟨J,E,G,k1,I⟩
 | goto l=>exact⟨J,E,G,k1,I⟩
 | ret=>exact⟨J,E,G,k1,I⟩
 | panic ch=>exact⟨J,E,G,k1,I⟩
 | outgrown=>exact⟨J,E,G,k1,I⟩
theorem QgT {x y:Code}(D:xw)(S:α->List (Nat×O3))(I:α->LN->O2->Prop)(hD:wrG D x=true)
  (U:WG ro m P n x (QdX (λE J w'=>∃z,Xa J (S z)/\I z E w') Q) ds f w)
  (V:∀z g E w',I z E w'->WG ro m P n y Q E (VR (S z) (mix D f g)) w'):WG ro m P n (.seq x y) Q ds f w:=by
 refine QQ (U.keeps.S ?_);rintro e E J w' ⟨Y,G⟩;cases e with
 | normal =>
  obtain⟨z,hs,hi⟩:=G;have T:=V z J E w' hi;rw[Vb (λt ht=>Y t (JT ht x hD)),XG hs]at T;exact T
 | exit id=>exact G
 | goto l=>exact G
 | ret=>exact G
 | panic ch=>exact G
 | outgrown=>exact G
theorem KM {c:O4}{x y:Code}{t:Bool}(hc:ev f c=.bool t)(ht:t=true->WG ro m P n x Q ds f w)(G:t=false->WG ro m P n y Q ds f w):
  WG ro m P n (.cond c x y) Q ds f w:=by
 intro a E;have I:a.eval c=.bool t:=by rw[E.eval];exact hc
 refine wpIn_cond_split I (λe=>wpIn_mono (ht e a E) ?_) (λe=>wpIn_mono (G e a E) ?_) <;>
  (rintro e a' w' ⟨J,T,U,V,Y⟩
   refine⟨J,T,U,λt ht=>V t ?_,Y⟩;simp only[Jg,oY]at ht
   first|exact ht.1|exact ht.2)
theorem Qn2 {c:O4}{x y:Code}{p:Prop}[Decidable p](hc:ev f c=.bool (decide p))(ht:p->WG ro m P n x Q ds f w)(E:¬p->WG ro m P n y Q ds f w):
  WG ro m P n (.cond c x y) Q ds f w :=
 KM hc (λe=>ht (OZ e)) (λe=>E (O1 e))
theorem U3 {c:O4}{x y:Code}{p:Prop}[Decidable p](hc:ev f c=.bool (decide p))(E:¬p->WG ro m P n y Q ds f w)(ht:p->WG ro m P n x Q ds f w):
  WG ro m P n (.cond c x y) Q ds f w:=Qn2 hc ht E
theorem jn {c:O4}{x y:Code}(hc:ev f c=.bool true)(h:WG ro m P n x Q ds f w):WG ro m P n (.cond c x y) Q ds f w:=KM hc (λ_=>h) (λe=>by cases e)
theorem J5 {c:O4}{x y:Code}(hc:ev f c=.bool false)(h:WG ro m P n y Q ds f w):WG ro m P n (.cond c x y) Q ds f w:=KM hc (λe=>by cases e) (λ_=>h)
theorem ZM {c:Code}(h:WG ro m P n c (QrH id Q) ds f w):WG ro m P n (.block id c) Q ds f w:=by
 intro a T;refine wpIn_block (wpIn_mono (h a T) ?_);rintro e V w' ⟨I,G,J,U,E⟩;have k1:∀t,Jg (.block id c) t=false->G t=f t:=λt ht=>U t (by simpa[Jg]using ht);cases e with
 | exit i =>
  simp only[Exit.inBlock];simp only[QrH]at E;by_cases hi:i=id
  ·subst hi;simp only[Nat.beq_refl,cond_true]at E;simp only[if_true];exact⟨I,G,J,k1,E⟩
  have hb:OS i id=false:=by
   cases e:OS i id with
   | false=>rfl
   | true=>exact OX (Nat.eq_of_beq_eq_true e) hi
  rw[hb]at E;rw[OU hi];exact⟨I,G,J,k1,E⟩
 | normal=>exact⟨I,G,J,k1,E⟩
 | goto l=>exact⟨I,G,J,k1,E⟩
 | ret=>exact⟨I,G,J,k1,E⟩
 | panic ch=>exact⟨I,G,J,k1,E⟩
 | outgrown=>exact⟨I,G,J,k1,E⟩
end
def Qf1 (l:xE):Bool:=l.all λo=>match o.op with| .defer _=>false|_=>true
theorem yk {l:xE}(h:Qf1 l=true):∀o∈l,∀c,o.op≠.defer c:=λo E c e=>by
 have:=Mh.1 h o E;rw[e]at this;cases this
section
variable {ro:xF}
theorem QgI {o:Oper}{a:Act}{K':Act->O2->Prop}{Q:Exit->Act->O2->Prop}(h:Xi n ds a f)(G:∀c,o.op≠.defer c)
  (hK:∀v w',K (QP f o.dst v) w'->K' (a.put o.dst v) w') (hx:XO P o f w K):o.wpIn (fen ro) m P a w K' Q:=by
 unfold XO at hx;refine⟨λ_ _=>trivial,?_⟩;have e:Oper.semAt (fen ro).round a.eval o=execOp (ev f) o:=by
  rw[h.eval];cases ro with
  | none=>rfl
  | some l=>exact Oper.semAt_some l _ _ G
 rw[e];generalize (execOp (ev f) o).run P w=r at hx;cases r with
 | ok nx w' =>
  cases nx <;> simp only[upF]at hx <;> simp only[Oper.uponIn]
  case value v=>exact hK v w' hx
  case skip=>exact hK _ w' hx
  case enter g args =>
   refine⟨λh=>by simp[Fence.wide]at h,?_⟩;refine(callsIn_wide (n:=m - 1)).2 (Calls.mono hx λe I E=>?_);cases e with
   | returned v=>exact hK v I E
   | panicked c=>exact E.elim
   | outgrown=>exact E.elim
 | halt x w'=>exact hx.elim
theorem VP {l:xE}{a:Act}(h:Xi n ds a f)(E:∀o∈l,∀d,o.dst=some d->d<n)(o:Oper):Region.wanted o (yielded l.toArray a.tmps)=Z9 l f o:=U6 h.rel E o
theorem QgJ {Q:Exit->LN->Fr->O2->Prop}{all:xE}(G:∀o∈all,∀d,o.dst=some d->d<n)(hd:∀o∈all,∀c,o.op≠.defer c)(f0:Fr):
  ∀(l:xE) (k:Nat) (a:Act) (f:Fr) (w:O2),(∀j,l[j]?=all[k+j]?)->Xi n ds a f->(∀t,Yn all t=false->f t=f0 t) ->
   XL P all (λf w=>Q .normal ds f w) l f w ->
   wpOpsIn (fen ro) m P all.toArray (λe V w'=>∃ds' f',Xi n ds' V f'/\(∀t,Yn all t=false->f' t=f0 t)/\Q e ds' f' w') (oO k l.length) a w
 | [],_,a,f,w,_,E,J,h=>⟨ds,f,E,J,by unfold XL at h;exact h⟩
 | o::l,k,a,f,w,hl,E,J,h=>by
  have T:all[k]?=some o:=by simpa using(hl 0).symm
  have I:o∈all:=Mt T;have ih:=λa f w=>QgJ (Q:=Q) G hd f0 l (k+1) a f w (λj=>by have:=hl (j+1);simpa[Nat.add_assoc,Nat.add_comm 1 j]using this);have next:∀v,(∀t,Yn all t=false->QP f o.dst v t=f0 t):=λv t ht=>(Xc (Jw I ht) v).D (J t ht);simp only[oQ,Oz,wpOpsIn,oR,T];rw[VP E G o];unfold XL at h;cases U:Z9 all f o with
  | false =>
   rw[U]at h;exact⟨λ_ _=>trivial,ih _ _ _ (E.put (G o I) _) (next _) h⟩
  | true =>
   rw[U]at h;exact QgI E (hd o I) (λv w' hx=>ih _ _ _ (E.put (G o I) v) (next v) hx) h
theorem Qx {Q:Exit->LN->Fr->O2->Prop}{l:xE}(E:Xx n l=true)(hd:Qf1 l=true)(h:XL P l (λf w=>Q .normal ds f w) l f w):WG ro m P n (.region id l.toArray false) Q ds f w:=by
 intro a G;refine wpIn_region ?_;have:=QgJ (ro:=ro) (m:=m) (XN E) (yk hd) f l 0 a f w od G (λ_ _=>rfl) h;simpa[List.range_eq_range',Jg]using this
attribute [local semireducible] XA in
theorem QbL {Q:Exit->Act->O2->Prop}{all:xE}{C:xA}{K:xz}(G:∀o∈all,∀d,o.dst=some d->d<n)(hd:∀o∈all,∀c,o.op≠.defer c)(f0:Fr)
  (I:∀a f w,Xi n ds a f->(∀t,Yn all t=false->f t=f0 t)->K f w->Q .normal a w):
  ∀(k:Nat) (ls:Array Bool) (a:Act) (f:Fr) (w:O2),Xi n ds a f->(∀t,Yn all t=false->f t=f0 t)->XA P all C K k ls f w->wpAnyIn (fen ro) m P .any all.toArray Q k ls a w
 | 0,_,a,f,w,E,J,h=>⟨h.1,I a f w E J h.2⟩
 | k+1,ls,a,f,w,E,J,h=>by
  refine⟨λh0=>I a f w E J (h.1 h0),λi hi=>?_⟩;unfold wpOpIn;simp only[oR];cases V:all[i]? with
  | none =>
   exfalso;obtain⟨_,o,ha,_⟩:=mem_ready.1 hi;simp[V]at ha
  | some o =>
   have T:o∈all:=Mt V;have U:=h.2 i hi o V;have next:∀v,(∀t,Yn all t=false->QP f o.dst v t=f0 t):=λv t ht=>(Xc (Jw T ht) v).D (J t ht);simp only[];rw[VP E G o];cases Y:Z9 all f o with
   | false =>
    rw[Y]at U;exact⟨λ_ _=>trivial,QbL G hd f0 I k _ _ _ _ (E.put (G o T) _) (next _) U⟩
   | true =>
    rw[Y]at U;exact QgI E (hd o T) (λv w' hx=>QbL G hd f0 I k _ _ _ _ (E.put (G o T) v) (next v) hx.2) U
theorem jo {Q:Exit->LN->Fr->O2->Prop}{all:xE}(C:xA)(G:P.follows .mixedOrders=true)(I:Xx n all=true)(hd:Qf1 all=true)
  (h:XA P all C (λf w=>Q .normal ds f w) all.length (oP all.length false) f { w with drawn:=w.drawn+1 }):WG ro m P n (.region id all.toArray true) Q ds f w:=by
 intro a J;refine wpIn_region_any G ?_;have T:=QbL (ro:=ro) (m:=m) (n:=n) (ds:=ds) (Q:=λe U w'=>∃ds' E,Xi n ds' U E/\(∀t,Yn all t=false->E t=f t)/\Q e ds' E w') (XN I) (yk hd) f
  (λa E w V Y hq=>⟨ds,E,V,Y,hq⟩) _ _ a f _ J (λ_ _=>O) h
 simpa[Jg]using T
theorem Ub {Q:Exit->LN->Fr->O2->Prop}{all:xE}(C:xA)(pl:xu)(I:P.follows .mixedOrders=true)(J:Xx n all=true)(hd:Qf1 all=true)(E:yd all pl=true)
  (hC:C { w with drawn:=w.drawn+1 }) (h:XP P all C (λf w=>Q .normal ds f w) pl f { w with drawn:=w.drawn+1 }):WG ro m P n (.region id all.toArray true) Q ds f w:=by
 simp only[yd,oI,beq_iff_eq]at E;obtain⟨⟨T,hl⟩,E⟩:=E;have G:=Yq T pl _ _ _ od (.inl hC) E h;rw[hl]at G;exact jo C I J hd G
end
section
variable {ro:xF}{Q:Exit->LN->Fr->O2->Prop}
theorem qZ {F:Fence}{c:Code}{Q:Exit->Act->O2->Prop}{a:Act}(J:α->Act->O2->Prop)(μ:α->Nat)(z:α)(h₀:J z a w)
  (round:∀x a w,J x a w->c.wpIn F m P (Exit.then (λI w'=>∃T,μ T<μ x/\J T I w') Q) a w):(Code.loop c).wpIn F m P Q a w:=by
 intro b k cs V hb U;have key:∀j x a w,μ x=j->J x a w ->
   ∃e I w',Q e I w'/\ArrivesIn (Machine.fenced P F) P (lone (b.atR a (.code c::.inLoop c::k)) cs w) b k cs e I w':=by
  intro j;induction j using Nat.strongRecOn with
  | _ j ih =>
   intro x a w Y hJ;obtain⟨e,a₁,w₁,E,G⟩:=round x a w hJ b (.inLoop c::k) cs V hb U;cases e with
   | normal =>
    obtain⟨T,ha,he⟩:=E;obtain⟨e₂,a₂,w₂,hq₂,harr₂⟩:=ih (μ T) (Y ▸ ha) T a₁ w₁ O he;exact⟨e₂,a₂,w₂,hq₂,.of_steps (StepsIn.trans G (.one (fenced_calm hb U O) stepR_inLoop)) harr₂⟩
   | exit id=>exact⟨_,a₁,w₁,E,.pass (x:=.inLoop c) O (λ_ _=>.inl od) G⟩
   | goto l=>exact⟨_,a₁,w₁,E,.pass (x:=.inLoop c) O (λ_ _=>.inl od) G⟩
   | ret=>exact⟨_,a₁,w₁,E,.pass (x:=.inLoop c) O (λ_ _=>.inl od) G⟩
   | panic ch=>exact⟨_,a₁,w₁,E,.pass (x:=.inLoop c) O (λ_ _=>.inl od) G⟩
   | outgrown=>exact⟨_,a₁,w₁,E,.pass (x:=.inLoop c) O (λ_ _=>.inl od) G⟩
 obtain⟨e,I,w',E,G⟩:=key _ z a w O h₀;exact⟨e,I,w',E,.of_steps (.one (fenced_calm hb U O) stepR_loop) G⟩
theorem KL {c:Code}(D:xw)(S:α->List (Nat×O3))(I:α->LN->O2->Prop)(μ:α->Nat)(hD:wrG D c=true)(z:α)
  (h0:Xa f (S z)) (hI:I z ds w)
  (round:∀x g J w',I x J w'->WG ro m P n c (QdX (λE T he=>∃V,μ V<μ x/\Xa T (S V)/\I V E he) Q) J (VR (S x) (mix D f g)) w'):WG ro m P n (.loop c) Q ds f w:=by
 intro a ha;refine qZ (λ(x:α) Y w'=>∃J T,Xi n J Y T/\(∀t,Jg c t=false->T t=f t)/\Xa T (S x)/\I x J w') μ z ⟨ds,f,ha,λ_ _=>O,h0,hI⟩ ?_;rintro x Y w' ⟨J,T,h1,h2,h3,h4⟩;have h5:=round x T J w' h4;rw[Vb (λt ht=>h2 t (JT ht c hD)),XG h3]at h5;refine wpIn_mono (h5 Y h1) ?_;rintro e hf he ⟨E,G,g1,g2,U⟩;have k1:∀t,Jg c t=false->G t=f t:=λt ht=>(g2 t ht).D (h2 t ht);have k2:∀t,Jg (.loop c) t=false->G t=f t:=λt ht=>k1 t (by simpa[Jg]using ht);cases e with
 | normal=>obtain⟨V,hm,hs,hi⟩:=U;exact⟨V,hm,E,G,g1,k1,hs,hi⟩
 | exit id=>exact⟨E,G,g1,k2,U⟩
 | goto l=>exact⟨E,G,g1,k2,U⟩
 | ret=>exact⟨E,G,g1,k2,U⟩
 | panic ch=>exact⟨E,G,g1,k2,U⟩
 | outgrown=>exact⟨E,G,g1,k2,U⟩
end
def rqG (P:O5)(rs:List ResultVar)(R:O3->O2->Prop):Exit->LN->Fr->O2->Prop
 | .normal,ds,f,w=>(∀D∈ds,w.heap[D]?=some (.deferred (some [])))/\ds.Nodup/\∃vs,∀w',O6 ds w w'->U2 P f w' rs vs/\R (tup vs) w'
 | .ret,ds,f,w=>(∀D∈ds,w.heap[D]?=some (.deferred (some [])))/\ds.Nodup/\∃vs,∀w',O6 ds w w'->U2 P f w' rs vs/\R (tup vs) w'
 | _,_,_,_=>False
theorem O6.putObj (w:O2)(D:Nat)(o:Obj):O6 [D] w (w.putObj D o):=⟨rfl,rfl,rfl,od,λk _ E=>World.putObj_heap_other (λe=>E (by simp[e]))⟩
theorem yp {F:Fence}{m:Nat}{P:O5}{fn:Func}{tmps:Array O3}{R:Ending->O2->Prop}:∀(ds:LN) (w:O2),(∀D∈ds,w.heap[D]?=some (.deferred (some [])))->ds.Nodup ->
  (∀w',O6 ds w w'->∃v,(results fn tmps).run P w'=.ok v w'/\R (.returned v) w')->LeavesInM F m P fn tmps R (coll ds) .returning w
 | [],w,_,_,h=>h w (O6.Y _ _)
 | D::ds,w,hD,I,h=>by
  refine⟨od,.inl ⟨D,_,rfl,run_takeDeferred (hD D Lh),?_⟩⟩;have G:=List.nodup_cons.1 I;refine yp ds _ (λE hE=>?_) G.2 (λw' J=>h w' ?_)
  ·rw[World.putObj_heap_other (λe=>G.1 (by rw[<-e];exact hE))];exact hD E (Lj _ hE)
  exact((O6.putObj w D (.deferred none)).S (λb hb=>by simp at hb;simp[hb])).V (J.S (λb hb=>Lj _ hb))
theorem QU.of_G {c:Code}{args:LV}{R:O3->O2->Prop}{rs:List ResultVar}(m:Nat)
  (Y:P.funcs[g]?=some fn) (hb:fn.body=some c) (hn:fn.ntmps=n) (ha:fn.results=rs.toArray) (hl:args.length<=n)
  (h:WG none m P n c (rqG P rs R) [] (ent args) w):QU P g args w R:=by
 unfold QU;refine(callsIn_wide (n:=m)).1 (callsIn_of_wp_marks Y hb Z (wpIn_mono (h _ ?_) ?_))
 ·refine⟨by simp[hn];omega,O,λt=>?_⟩;have key:∀(l:LV) (t:Nat),l[t]?.getD undef=ent l t:=by
   intro l;induction l with
   | nil=>intro t;rfl
   | cons v l ih=>intro t;cases t with|zero=>rfl|succ t=>simpa[ent]using ih t
  rw[<-key];simp only[Array.getD_eq_getD_getElem?,Array.getElem?_append,Od,oR];by_cases ht:t<args.length
  ·simp[ht]
  simp[ht,Array.getElem?_replicate];split <;> rfl
 rintro e J w' ⟨I,f',T,_,E⟩;have fin:((∀D∈I,w'.heap[D]?=some (.deferred (some [])))/\I.Nodup/\∃vs,∀G,O6 I w' G->U2 P f' G rs vs/\R (tup vs) G) ->
   LeavesInM Fence.wide m P fn J.tmps (λe w'=>match e with| .returned v=>R v w'|_=>False) J.defers .returning w':=by
  rintro⟨hd,he,vs,U⟩;rw[T.defers];refine yp I w' hd he λG V=>⟨tup vs,?_,(U G V).2⟩;simp only[results,ha,List.mapM_toArray,Sem.run_bind,Sem.run_map];rw[JU (a:={ J with defers:=[] }) T.rel _ (λ_=>rfl) (λ_ _=>rfl) rs vs (U G V).1]
  cases vs with
  | nil=>rfl
  | cons v vs=>cases vs with|nil=>rfl|cons u us=>rfl
 cases e with
 | normal=>exact fin E
 | ret=>exact fin E
 | exit id=>exact E.elim
 | goto l=>exact E.elim
 | panic c=>exact E.elim
 | outgrown=>exact E.elim
attribute [irreducible] WG
theorem Qm8 [Fu sV g fn]{q:Ed->Bool}{v:O3}(h:U4 L ↑w v es)
  (G:∀(e:Ed) (E:O2),sW w E->QU sV g ([sT (Qp e)]++cap) E λr w'=>r=.bool (q e)/\sW E w'):
  QU sV 159 [v,.func (.func g) #[] cap.toArray] w λr w'=>sW w w'/\IxQ q es r :=
 (ixG (c:=Qp) ⟨_,O,func159⟩ (λ_=>O) (ldA λ_=>O) h λe _=>G e).S λ_ _ ⟨I,J⟩=>⟨J,I ▸ Qna q es⟩
theorem Qes [Fu sV gp fn]{q:Int->Bool}{v:O3}(h:Zu L ↑w v l.length 1 (l.flatMap UI))
  (G:∀e∈l,∀(E:O2),sW w E->QU sV gp ([sS e]++cap) E λr w'=>r=.bool (q e)/\sW E w'):
  QU sV 142 [v,.func (.func gp) #[] cap.toArray] w λr w'=>r=sS (fix q 0 l)/\sW w w' :=
 ixG ⟨_,O,func142⟩ Qj9 (ld1 λ_=>O) h G
theorem QeX [Fu sV gp fn]{q:Int->Bool}{v:O3}(h:Zu L ↑w v l.length 1 (l.flatMap UI))
  (G:∀e∈l,∀(E:O2),sW w E->QU sV gp ([sS e]++cap) E λr w'=>r=.bool (q e)/\sW E w'):
  QU sV 170 [v,.func (.func gp) #[] cap.toArray] w λr w'=>r=.bool (l.any q)/\sW w w':=by
 refine Zm func170 ?_;refine Qc<|Qb<|Ql<|Qa<|KX<|(Qes h G).S ?_;rintro J E ⟨rfl,I⟩;refine x (Yf O O)<|Qb<|Qj ⟨[_],La,OW Value.bool (UQ q l 0),I⟩
theorem QbB [Fu sV g fn]{q:Int->Bool}{v:O3}{es:LI}(h:Qu L ↑w v es)
  (G:∀(e:Int) (E:O2),sW w E->QU sV g ([sS e]++cap) E λr w'=>r=.bool (q e)/\sW E w'):
  QU sV 170 [v,.func (.func g) #[] cap.toArray] w λr w'=>r=.bool (es.any q)/\sW w w' :=
 QeX (Qu.fl h) λe _=>G e
theorem Qf0 (es:List Ed)(s v:Int):nxt es s v=nxt (QM es s) s v:=by
 induction es with
 | nil=>rfl
 | cons e es ih =>
  unfold QM at *;rw[L4];by_cases h:e.1=s
  ·rw[OV (ou h),nxt,nxt,ih]
  rw[OU (ou h),nxt,OU (λc=>h c.1),ih]
theorem Qek:∀(l:List Ed) (s v:Int) (i:Nat) (hi:i<l.length),(∀e∈l,e.1=s)->(l[i]'hi).2.1=v->(∀m (E:m<i),(l[m]'oa).2.1≠v)->nxt l s v=(l[i]'hi).2.2
 | e::l,s,v,0,_,G,I,_=>by rw[nxt,OV ⟨G e Lh,I⟩];rfl
 | e::l,s,v,i+1,hi,G,I,E=>by
  rw[nxt,OU (λc=>E 0 oa c.2)];exact Qek l s v i (ou hi) (λe J=>G e (Lj _ J)) I (λm T=>E (m+1) oa)
theorem Qju:∀(l:List Ed) (s v:Int),(∀e∈l,e.2.1≠v)->nxt l s v=-1
 | [],_,_,_=>rfl
 | e::l,s,v,h=>by rw[nxt,OU (λc=>h e Lh c.2)];exact Qju l s v (λe E=>h e (Lj _ E))
theorem QjC {b:Nat}{n:Int}(e:Ed)(w:O2)(G:QK ↑w b T [sS n]):
  QU sV 160 ([sT (Qp e)]++[sP b]) w λr w'=>r=.bool (decide (e.2.1=n))/\sW w w':=by
 refine Zm func160 ?_;refine Qc<|Zf (Qp e) λJ U E V I=>Qb<|Qc<|Qs O I O O<|ZD (G.I E) O O<|x (Zc O O)<|Qb<|Qj ⟨[_],La,O,E⟩
theorem Qdv {st:Int}(h:U4 L ↑w ve a.ed)(I:QS a)(s v:Int)(hs0:0<=s)(T:s<a.st):
  QU sV 81 [.agg #[va,sS st,vm,ve],sS s,sS v] w λr w'=>r=sS (nxt a.ed s v)/\sW w w':=by
 have hk:=I.st1;refine Zm func81 ?_;refine Qc<|Zf [va,sS st,vm,ve] λb3 w1 T hn hf=>Zf [sS v] λb5 w2 U hp hg=>Qb<|Qc<|Q3 (hf.I U) O O<|Qa<|Qw<|(Qa1 ((h.I T).I U) I.eds (λe E=>⟨(I.ed e E).1,oo (I.ed e E).2.1⟩) s hs0 oa).S ?_;rintro vo w3 ⟨V,hE⟩;refine Qb ?_;have hh:∀e∈QM a.ed s,e.1=s:=λe E=>(Zt E).2;rw[Qf0];refine Ql<|x (Zl (l:=[]) (l':=[.tmp 5]))<|Qw<|(Qm8 (q:=λe=>decide (e.2.1=v)) (cap:=[sP b5]) hE (λe Y J=>QjC e Y ((hg.I V).I J))).S ?_;rintro r4 Y ⟨J,G⟩;have hW:=((T.D U).D V).D J;refine Or.elim G (λG=>?_) (λG=>?_)
 ·obtain⟨rfl,hq⟩:=G;have e1:nxt (QM a.ed s) s v=-1:=Qju _ _ _ λe E=>by
   obtain⟨i,hi,rfl⟩:=LR E;simpa using hq i hi
  rw[e1];refine Qb<|Qd<|Ql<|ZW O O<|xe<|jd O ?_;refine Qc<|Qb<|Qj ⟨[sS (-1)],La,O,hW⟩
 obtain⟨i,hi,rfl,h1,h2⟩:=G;have e1:nxt (QM a.ed s) s v=((QM a.ed s)[i]'hi).2.2:=Qek _ s v i hi hh (ou h1) (λm hm=>ou (h2 m hm));rw[e1];refine Qb<|Qd<|Ql<|ZW O O<|xe<|Zg O (λha=>OX ha oa) (λha=>?_);refine Qf<|Ql<|Qa<|xie (hE.I J) O O hi λhs hj=>x (ZF O)<|x (Qq (hj.fld 2 _ O) O)<|Qb<|Qj ⟨[_],La,O,hW⟩
def flw (a:Qz):Int->LI->Int×Nat
 | s,[]=>(s,0)
 | s,v::u=>if nxt a.ed s v<0 then(s,0) else((flw a (nxt a.ed s v) u).1,(flw a (nxt a.ed s v) u).2+1)
theorem Qjv (E:QS a){v:Int}(h:¬nxt a.ed s v<0):nxt a.ed s v<a.st:=(E.ed _ (zB oa)).2.2.2.2
theorem QhA {vw:O3}{st:Int}(h:U4 L ↑w ve a.ed)(I:Qu L' ↑w vw u)(V:QS a)(s:Int)(hs0:0<=s)(Y:s<a.st):
  QU sV 280 [.agg #[va,sS st,vm,ve],sS s,vw] w λr w'=>r=.tuple #[sS (flw a s u).1,sS (flw a s u).2]/\sW w w':=by
 have hp:=I.le;refine Zm func280 ?_;refine Qc<|Zf [va,sS st,vm,ve] λb3 w1 Y hq hg=>x Qe<|Qb<|Qd<|Ql<|QG I O<|Qa<|xe<|QX (α:=Nat×Int) [(1,1),(6,10),(13,27)] (λz=>[(1,sS z.2),(13,sS z.1)]) (λz w'=>z.1<=u.length/\0<=z.2/\z.2<a.st/\sW w1 w'/\flw a s u=((flw a z.2 (u.drop z.1)).1,(flw a z.2 (u.drop z.1)).2+z.1)) (λz=>u.length - z.1) (0,s) ov ⟨Lo _,hs0,by assumption,O6.Y _ _,od⟩ ?_;rintro⟨k,t⟩ g w2 ⟨hk,hh,hj,U,E⟩;have J:=Y.D U;refine Zk rfl O (λha=>?_) (λha=>?_)
 ·refine Qt<|Ql<|Qa<|QG I O<|x Qe<|Qb ?_;rw[Lu oa]at E;have hm:k=u.length:=by have hr:¬(k:Int)<(u.length:Int):=ha;omega
  refine Qj ⟨[sS t,sS u.length],ov,?_,J⟩;rw[E,hm];simp[flw,tup]
 have G:k<u.length:=oa
 rw[QY G,flw]at E;refine Qf<|Qd<|Qn<|Ql<|xii (I.I J) O O G λhs hn=>x (Qq hn O)<|x Qe<|Qb<|Qc<|Q3 (hg.I U) O O<|Qa<|Qa<|Qw<|(Qdv (h.I J) V t (u[k]'G) hh hj).S ?_;rintro r3 w3 ⟨rfl,he⟩;refine Qb<|Qd<|Ql<|ZW O O<|xe<|Zg rfl (λT=>?_) (λT=>?_)
 ·rw[OV T]at E;refine Ql<|Qa<|x Qe<|Qb<|Qj ⟨[sS t,sS k],ov,?_,J.D he⟩;rw[E];simp[tup]
 rw[OU T]at E;refine Qf<|Qr<|Qa<|Qb<|Qr<|QB O O<|Qa<|xe<|⟨(k+1,nxt a.ed t (u[k]'G)),oe,ov,G,oe,(Qjv V T),U.D he,?_⟩;simp only[];rw[E];simp;omega
def cks (a:Qz)(s:Int):Int:=if Jc a≠0 then Jc a else if s<0\/a.st<=s then 2 else 0
theorem Ka (h:Zr L ↑w va vm ve a)(s:Int):
  QU sV 79 [.agg #[va,sS a.st,vm,ve],sS s] w λr w'=>r=sS (cks a s)/\sW w w':=by
 refine Zm func79 ?_;refine Qc<|Zf [va,sS a.st,vm,ve] λb2 w1 T ha U=>Qb<|Qd<|Qc<|Q3 U O O<|Qw<|(Y8 (h.I T)).S ?_;rintro r2 Y ⟨rfl,V⟩;refine Qb ?_;unfold cks;have E:=T.D V;refine Ql<|ZN O O<|xe<|Zg rfl (λG=>?_) (λG=>?_)
 ·refine Ql<|Qb<|Qj ⟨[_],La,by rw[OV G];rfl,E⟩
 rw[OU G];refine Qf<|Qd<|QW (α:=Unit) [(11,18)] (λz=>[(18,.bool (decide (s<0\/a.st<=s)))]) (λz w'=>w'=Y) oh ?_ ?_
 ·refine Qr<|Qa<|xb (YB O O) (λI=>?_) (λI=>?_)
  ·refine Qa<|ZA<|Kd<|QC O<|xe ?_;exact⟨(),⟨by rw[OY (Or.inl I)];rfl,Z⟩,O⟩
  refine Qa<|Qa<|Qs O (U.I V) O O<|x (Yf O O)<|QC O<|xe ?_;exact⟨(),⟨by show Value.bool (decide (a.st<=s))=_;simp[I],Z⟩,rfl⟩
 rintro z g w3 rfl;refine Zg rfl (λJ=>?_) (λJ=>?_)
 ·refine Qc<|Qb<|Qj ⟨[_],La,by rw[OV J];rfl,E⟩
 refine Qf<|Qc<|Qb<|Qj ⟨[_],La,by rw[OU J];rfl,E⟩
theorem Qdh (h:cks a s=0):QS a/\0<=s/\s<a.st:=by
 unfold cks at h;split at h
 ·rename_i E;exact OX h E
 rename_i E;split at h
 ·cases h
 rename_i G;exact⟨(Zz a).1 (Lt.1 E),oa,oa⟩
theorem Qmb {b:Nat}{al:LI}(e:Int)(w:O2)(E:QK ↑w b T (va::us))(hA:Qu L ↑w va al):
  QU sV 279 ([sS e]++[sP b]) w λr w'=>r=.bool (decide (e∉al))/\sW w w':=by
 refine Zm func279 ?_;refine Qc<|Qb<|Qc<|Qs O E O O<|Qa<|Qw<|(ZH hA e).S ?_;rintro G I ⟨rfl,rfl⟩;refine x (Zj O)<|Qb<|Qj ⟨[_],La,?_,O6.Y _ _⟩;show Value.bool (!decide (e∈al))=_;rw[decide_not]
def Qma (a:Qz)(s:Int)(u:LI):Int:=if cks a s≠0 then cks a s else if(u.any λe=>decide (e∉a.al))=true then 9 else 0
theorem Qqk {vw:O3}(h:Zr L ↑w va vm ve a)(Y:Qu L' ↑w vw u)(s:Int):
  QU sV 248 [.agg #[va,sS a.st,vm,ve],sS s,vw] w λr w'=>sW w w'/\r=if Qma a s u≠0 then .tuple #[sS 0,sS 0,sS (Qma a s u)]else .tuple #[sS (flw a s u).1,sS (flw a s u).2,sS 0]:=by
 refine Zm func248 ?_;refine Qc<|Zf [va,sS a.st,vm,ve] λb3 w1 ha hf T=>x Qe<|x Qe<|Qb<|Qd<|Qc<|Q3 T O O<|Qa<|Qw<|(Ka (h.I ha) s).S ?_;rintro r2 w2 ⟨rfl,U⟩;refine Qb ?_;have G:=ha.D U;unfold Qma;refine Ql<|ZN O O<|xe<|Zg rfl (λE=>?_) (λE=>?_)
 ·refine Ql<|x Qe<|x Qe<|Qb<|Qj ⟨[_,_,_],ox,G,by rw[OV E,OV E];rfl⟩
 have hc:cks a s=0:=Lt.1 E;obtain⟨ho,h0,h1⟩:=Qdh hc;rw[OU E];refine Qf<|Qd<|Ql<|x (Zl (l:=[]) (l':=[.tmp 3]))<|Qw<|(QbB (q:=λe=>decide (e∉a.al)) (cap:=[sP b3]) (Y.I G) (λe w4 I=>Qmb e w4 ((T.I U).I I) ((h.al.I G).I I))).S ?_;rintro r3 w3 ⟨rfl,he⟩;refine xe ?_;have J:=G.D he;refine Q6 rfl (λV=>?_) (λV=>?_)
 ·rw[OV V];refine Qc<|x Qe<|x Qe<|Qb<|Qj ⟨[_,_,_],ox,J,by rw[OV og];rfl⟩
 rw[OU (by rw[V];simp)];refine Qf<|Qc<|Q3 ((T.I U).I he) O O<|Qa<|Qa<|Qw<|(QhA (h.ed.I J) (Y.I J) ho s h0 h1).S ?_;rintro r4 w4 ⟨rfl,I⟩;refine Qa<|x (Q0 O O) <|
  QO rfl rfl<|x Qe<|Qb<|Ql<|Qa<|x Qe<|x Qe<|Qb<|Qj ⟨[_,_,_],ox,J.D I,O⟩
def enb (a:Qz)(s:Int):LI:=(QM a.ed s).map (·.2.1)
theorem QkB {l:List Ed}{k:Nat}(h:k<l.length):(l.take (k+1)).map (·.2.1)=(l.take k).map (·.2.1)++[(l[k]'h).2.1]:=by
 rw[List.take_add_one,LD h,Ly];rfl
theorem Uc (h:Zr L ↑w va vm ve a)(s:Int):
  QU sV 32 [.agg #[va,sS a.st,vm,ve],sS s] w λr w'=>sW w w'/\∃v,r=.tuple #[v,sS (cks a s)]/\(cks a s≠0->v=Zq)/\(cks a s=0->Qh 3 ↑w w' v (enb a s)):=by
 refine Zm func32 ?_;refine Qc<|Zf [va,sS a.st,vm,ve] λb2 w1 hg h6 hh=>x Qe<|Qb<|Qd<|Qc<|Q3 hh O O<|Qa<|Qw<|(Ka (h.I hg) s).S ?_;rintro r2 w2 ⟨rfl,hj⟩;refine Qb ?_;have U:=hg.D hj;refine Ql<|ZN O O<|xe<|Zg rfl (λV=>?_) (λV=>?_)
 ·refine Ql<|x Qe<|Qb<|Qj ⟨[Zq,_],ov,U,Zq,O,λ_=>O,λe=>OX e V⟩
 have hc:cks a s=0:=Lt.1 V;obtain⟨G,h0,h1⟩:=Qdh hc;have h7:=G.st1;rw[hc];refine Qf<|Qc<|Qb<|Qd<|Qc<|Q3 (hh.I hj) O O<|Qa<|Qw<|(Qa1 (h.ed.I U) G.eds (λe he=>⟨(G.ed e he).1,oo (G.ed e he).2.1⟩) s h0 oa).S ?_;rintro vo w3 ⟨hn,hE⟩;refine QG hE O<|Qa<|xe ?_;have hm:=U.D hn;have hp:=hm.size;have hq:=Yg a.ed s;have h8:=G.ed_le;refine Zd (QM a.ed s) λos I=>?_;rw[I]at hE hq;refine QX (α:=Nat×O3) [(7,7),(9,9),(20,29)] (λz=>[(7,z.2),(20,sS z.1)]) (λz w'=>z.1<=os.length/\sW w3 w'/\Qh 3 ↑w3 w' z.2 ((os.take z.1).map (·.2.1))) (λz=>os.length - z.1) (0,nS) ⟨O,by rw[I];rfl,Z⟩ ⟨Lo _,O6.Y _ _,QL _ _ _ _⟩ ?_;rintro⟨k,v⟩ g w4 ⟨hk,T,J⟩;simp only[]at hk J;have h9:=T.size;refine Zk rfl O (λY=>?_) (λY=>?_)
 ·refine Qt<|Ql<|x Qe<|Qb ?_;rw[Lr (by rw[I]at Y;omega)]at J;refine Qj ⟨[v,_],ov,hm.D T,v,O,λe=>OX O e,λ_=>?_⟩;unfold enb;rw[I];exact Za J hp
 have E:k<os.length:=by rw[I]at Y;omega
 refine Qf<|Qd<|Qn<|Qc<|xie (hE.I T) O O E λhA hr=>x (QF hr O O)<|QT [sS 0,sS 0,sS 0] λb9 w5 hs hu hv=>Q5 (Qp (os[k]'E)) hv ox λw6 hw hy =>
  xe ?_
 have ha:sW w4 w6:=hs.Q hw hu;have hz:=Qm J ha;refine Qr<|Qa<|Qs O hy O O<|Qo<|Yo (us:=[[sS (os[k]'E).2.1]]) O O og od ⟨rfl,rfl,Z⟩ λhB w7 hf hC h2=>?_;have h3:=Qm hz hf;have hD:=(ha.D hf).size;have hF:((os.take k).map (·.2.1)).length<=131072:=by simp;omega
 refine Qo<|Q2 (news:=[sS (os[k]'E).2.1]) (L:=[]) h3 O O O (h2.at od) om oa oa λv8 w8 h4 h5 hG=>Qb<|Qr<|QB rfl rfl<|Qa<|xe<|⟨(k+1,v8),oe,ov,E,((T.D ha).D hf).O h5 (λb hb=>.inr ((Qi J) b hb).1),?_⟩;simp only[];rw[QkB E];exact Qh.snoc h4
theorem Qgr (I:QS a)(x v:Int):v∈enb a x↔0<=nxt a.ed x v:=by
 unfold enb;rw[V0 I];constructor
 ·intro h;obtain⟨e,J,rfl⟩:=Lx.1 h;obtain⟨T,U⟩:=Zt J;cases E:xo a.ed x e.2.1 with
  | some _=>rfl
  | none =>
   exfalso;have key:∀(l:List Ed),e∈l->xo l x e.2.1=none->False:=by
    intro l;induction l with
    | nil=>intro h;cases h
    | cons d l ih =>
     intro G E;rw[xo]at E;split at E
     ·cases E
     rename_i V;rcases Lk.1 G with rfl|G
     ·exact V ⟨U,O⟩
     exact ih G E
   exact key a.ed T E
 intro h;obtain⟨u,Y⟩:=Nm.1 h;have:=YS Y;refine Lx.2 ⟨(x,v,u),?_,O⟩;unfold QM;exact LJ.2 ⟨this,od⟩
theorem Qnv (E:QS a)(x:Int):Ys (enb a x):=by
 unfold enb Ys;rw[L9];have G:(QM a.ed x).Pairwise λx y:Ed=>x.1<y.1\/(x.1=y.1/\x.2.1<y.2.1):=List.Pairwise.sublist MD E.edi;refine List.Pairwise.imp_of_mem (λ{a b} I hb J=>?_) G;have T:=(Zt I).2;have U:=(Zt hb).2;omega
theorem QeK (E:QS a)(x:Int):enb a x=a.al.filter λv=>decide (0<=nxt a.ed x v):=by
 refine Ys.I (Qnv E x) (List.Pairwise.sublist MD E.ali) λv=>?_;rw[Qgr E,LJ];constructor
 ·intro h;exact⟨(E.ed _ (zB h)).2.2.1,ou h⟩
 intro h;simpa using h.2
theorem QaQ {v:O3}(h:Qu L ↑w v l)(n:Int):
  QU sV 254 [v,sS n] w λr w'=>r=sS (J9 n none l)/\w'=w:=by
 have hg:=h.le;refine Zm func254 ?_;refine Qc<|Qb<|Qd<|Ql<|QG h O<|Qa<|xe<|QX (α:=Nat) [(4,6),(9,34)] (λk=>[(9,sS k)]) (λk w'=>w'=w/\k<=l.length/\J9 n (pv l k) (l.drop k)=J9 n none l) (λk=>l.length - k) 0 La ⟨O,Lo _,O⟩ ?_;rintro k g V ⟨rfl,hk,E⟩;refine Zk rfl O (λY=>?_) (λY=>?_)
 ·refine Qt<|Qc<|Qb<|Qj ⟨[sS 0],La,?_,O⟩;rw[<-E,Lu oa];rfl
 have G:k<l.length:=oa
 rw[(QY G),J9]at E;refine Qf<|Qd<|Qn<|Ql<|xii h O O G λhh ha=>x (Qq ha O)<|x Qe<|Qb<|Qn<|QW (α:=Bool) [(14,21)] (λz=>[(14,.bool z)]) (λz w'=>w'=V/\z=decide (l[k]<0\/n<=l[k])) oh ?_ ?_
 ·refine Qr<|Qa<|xb (YB O O) (λI=>?_) (λI=>?_)
  ·refine Qa<|ZA<|QC O<|Qb<|⟨true,La,O,by simp[I]⟩
  refine Qa<|Qa<|Qa<|x (Yf O O)<|QC O<|Qb<|⟨_,La,O,by simp[I]⟩
 rintro z g w2 ⟨rfl,rfl⟩;refine Zg rfl (λJ=>?_) (λJ=>?_)
 ·refine Qc<|Qb<|Qj ⟨[sS 2],La,?_,O⟩;rw[<-E,OV J];rfl
 rw[OU J]at E;refine QW (α:=Bool) [(22,33)] (λz=>[(22,.bool z)]) (λz w'=>w'=w2/\z=yq (pv l k) l[k]) oh ?_ ?_
 ·refine Qr<|Qa<|xb (Z8 O O) (λhe=>?_) (λhe=>?_)
  ·have hk1:((k:Int) - 1)=((k - 1:Nat):Int):=oa
   refine Qa<|Qa<|Qa<|Qa<|x (JB O O ⟨oa,oa⟩)<|xii (i:=k - 1) h O (by show Value.int _ ((k:Int) - 1)=_;rw[hk1]) oa λhj hf=>x (Qq hf rfl)<|x (X3 rfl rfl)<|QC rfl<|Qb<|⟨_,⟨rfl,Z⟩,rfl,?_⟩;have:pv l k=some l[k - 1]:=by
    have T:k≠0:=oa
    simp[pv,T,show k - 1<l.length by omega]
   rw[this];rfl
  refine Qa<|ZA<|ZA<|Kd<|QC O<|Qb ?_;have T:k=0:=oa
  exact⟨false,La,O,by simp[pv,T,yq]⟩
 rintro z g w3 ⟨rfl,rfl⟩;refine Q6 rfl (λU=>?_) (λU=>?_)
 ·refine Qc<|Qb<|Qj ⟨[sS 5],La,?_,O⟩;rw[<-E,OV U];rfl
 rw[OU (by simp[U])]at E;refine Qf<|Qr<|QB O O<|Qa<|xe ?_;exact⟨k+1,oa,La,O,oa,by rw[KD G];exact E⟩
theorem qY {v:O3}(h:Qu L ↑w v l)(n:Int):
  QU sV 89 [v,sS n] w λr w'=>r=sS (J9 n none l)/\w'=w:=by
 have hg:=h.le;refine Zm func89 ?_;refine Qc<|Qb<|Qd<|Ql<|QG h O<|Qa<|xe<|QX (α:=Nat) [(4,6),(9,32)] (λk=>[(9,sS k)]) (λk w'=>w'=w/\k<=l.length/\J9 n (pv l k) (l.drop k)=J9 n none l) (λk=>l.length - k) 0 La ⟨O,Lo _,O⟩ ?_;rintro k g V ⟨rfl,hk,E⟩;refine Zk rfl O (λY=>?_) (λY=>?_)
 ·refine Qt<|Qc<|Qb<|Qj ⟨[sS 0],La,?_,O⟩;rw[<-E,Lu oa];rfl
 have G:k<l.length:=oa
 rw[(QY G),J9]at E;refine Qf<|Qd<|Qn<|Ql<|xii h O O G λhh ha=>x (Qq ha O)<|x Qe<|Qb<|Qd<|QW (α:=Bool) [(14,20)] (λz=>[(20,.bool z)]) (λz w'=>w'=V/\z=decide (l[k]<0\/n<=l[k])) oh ?_ ?_
 ·refine Qr<|Qa<|xb (YB O O) (λI=>?_) (λI=>?_)
  ·refine Qa<|ZA<|QC O<|xe ?_;exact⟨true,La,O,by simp[I]⟩
  refine Qa<|Qa<|Qa<|x (Yf O O)<|QC O<|xe ?_;exact⟨_,La,O,by simp[I]⟩
 rintro z g w2 ⟨rfl,rfl⟩;refine Zg rfl (λJ=>?_) (λJ=>?_)
 ·refine Qc<|Qb<|Qj ⟨[sS 2],La,?_,O⟩;rw[<-E,OV J];rfl
 rw[OU J]at E;refine Qf<|QW (α:=Bool) [(21,31)] (λz=>[(31,.bool z)]) (λz w'=>w'=w2/\z=yq (pv l k) l[k]) oh ?_ ?_
 ·refine Qr<|Qa<|xb (Z8 O O) (λhe=>?_) (λhe=>?_)
  ·have hk1:((k:Int) - 1)=((k - 1:Nat):Int):=oa
   refine Qa<|Qa<|Qa<|Qa<|x (JB O O ⟨oa,oa⟩)<|xii (i:=k - 1) h O (by show Value.int _ ((k:Int) - 1)=_;rw[hk1]) oa λhj hf=>x (Qq hf rfl)<|x (X3 rfl rfl)<|QC rfl<|xe<|⟨_,La,O,?_⟩;have:pv l k=some l[k - 1]:=by
    have T:k≠0:=oa
    simp[pv,T,show k - 1<l.length by omega]
   rw[this];rfl
  refine Qa<|ZA<|ZA<|Kd<|QC O<|xe ?_;have T:k=0:=oa
  exact⟨false,La,O,by simp[pv,T,yq]⟩
 rintro z g w3 ⟨rfl,rfl⟩;refine Q6 rfl (λU=>?_) (λU=>?_)
 ·refine Qc<|Qb<|Qj ⟨[sS 5],La,?_,O⟩;rw[<-E,OV U];rfl
 rw[OU (by simp[U])]at E;refine Qf<|Qr<|QB O O<|Qa<|xe ?_;exact⟨k+1,oa,La,O,oa,by rw[KD G];exact E⟩
theorem y7 {v:O3}(h:Qu L ↑w v l):
  QU sV 196 [.agg #[va,sS a.st,vm,ve],v] w λr w'=>r=sS (J9 a.st none l)/\sW w w':=by
 refine Zm func196 ?_;refine Qc<|Zf [va,sS a.st,vm,ve] λI J E T G=>Qb<|Ql<|Qs O G O O<|Qw<|(QaQ (h.I E) a.st).S ?_;rintro r2 U ⟨rfl,rfl⟩;refine Qb<|Qj ⟨[sS (J9 a.st none l)],La,O,E⟩
def flg (n:Nat)(l:LI):List Bool:=(oJ n).map λi:Nat=>decide ((i:Int)∈l)
theorem UP (n:Nat)(l:LI):(flg n l).length=n:=by simp[flg]
theorem Qbs (h:i<(flg n l).length):(flg n l)[i]'h=decide ((i:Int)∈l):=by simp[flg]
theorem zG {x:Int}(G:0<=x):(flg n l).set x.toNat true=flg n (l++[x]):=by
 apply L3
 ·simp[flg]
 intro i I E;rw[M6,Qbs E];by_cases e:x.toNat=i
 ·have:(i:Int)=x:=oa
  rw[OV e,this];simp
 have:(i:Int)≠x:=oa
 rw[OU e,Qbs];simp[this]
theorem Qc3 {v:O3}(h:Qu L ↑w v l)(V:a.st=(n:Int))(hr:a.st<=4096)(hl:∀s∈l,0<=s/\s<a.st):
  QU sV 197 [.agg #[va,sS a.st,vm,ve],v] w λr w'=>sW w w'/\∃b,r=sL b n n/\↑w<=b/\QK ↑w' b 4 ((flg n l).map Value.bool):=by
 have hu:=h.le;refine Zm func197 ?_;refine Qc<|Zf [va,sS a.st,vm,ve] λb2 w1 G hv he=>Qb<|Qc<|Qs O he O O<|Qo<|Y2 (n:=n) (OW sS V) (OW sS V) oa λb10 w2 Y hf hg=>Qb ?_;have hh:QK ↑w2 b10 4 ((flg n (l.take 0)).map Value.bool):=by
  have e:(oG n (Value.bool false).cells.toList).flatten=(flg n (l.take 0)).map Value.bool:=by
   simp only[flg,List.take_zero,oH,decide_false,List.map_map];apply L3
   ·simp[Value.cells]
   intro i h1 h2;simp[Value.cells]
  rw[<-e];exact hg
 refine Qd<|Ql<|QG (h.I (G.D Y)) O<|Qa<|xe<|QX (α:=Nat) [(7,7),(13,20)] (λz=>[(13,sS z)]) (λz w'=>z<=l.length/\sW w1 w'/\QK ↑w' b10 4 ((flg n (l.take z)).map Value.bool)) (λz=>l.length - z) 0 La ⟨Lo _,Y,hh⟩ ?_;rintro k g w3 ⟨hk,J,T⟩;refine Zk rfl O (λU=>?_) (λU=>?_)
 ·refine Qt ?_;have hj:l.length<=k:=by have I:¬(k:Int)<(l.length:Int):=U;omega
  rw[Lr hj]at T;refine Ql<|Qb ?_;have hw:=G.size;exact Qj ⟨[sL b10 n n],La,G.D J,b10,O,oa,T⟩
 have E:k<l.length:=by have I:(k:Int)<(l.length:Int):=U;omega
 have hx:=hl _ (Lm E);have ha:l.take (k+1)=l.take k++[l[k]'E]:=Ll E;refine Zd (l[k]'E) λs hs=>?_;rw[hs]at hx ha;have hm:s=(s.toNat:Int):=oa
 refine Qf<|Qd<|Qn<|Qc<|xii (i:=k) ((h.I G).I J) O O E λhy I=>?_;rw[hs]at I;refine x (Qq I O)<|Qb<|Qr<|Qa<|Qa<|x (QE (i:=s.toNat) O (OW sS hm) oa)<|Qo<|Qv (j:=0+s.toNat*1) (u:=.bool true) T O O (by rw[Ln,UP];omega) O λw4 ho hp=>xe ?_;have hq:QK ↑w4 b10 4 ((flg n (l.take (k+1))).map Value.bool):=by
  rw[ha,<-(zG (n:=n) (l:=l.take k) hx.1),NC];simpa using hp
 refine Qr<|QB O O<|Qa<|xe ?_;exact⟨k+1,oa,La,E,J.Q ho hf,hq⟩
def Rv (l:LI)(i:Nat)(li:LI):Prop:=∃h:li.length=l.length,∀k (E:k<l.length),li[k]'oa=if k<i\/l.length<=k+i then l[l.length - 1 - k]'oa else l[k]'E
theorem Rv.start (l:LI):Rv l 0 l:=⟨O,λk E=>by rw[OU oa]⟩
theorem Rv.next (h:Rv l i li)(hi:i<l.length - 1 - i):Rv l (i+1) ((li.set i (l[l.length - 1 - i]'oa)).set (l.length - 1 - i) (l[i]'oa)):=by
 obtain⟨E,G⟩:=h;refine⟨by simp[E],λk I=>?_⟩;rw[M6,M6];by_cases e1:l.length - 1 - i=k
 ·rw[OV e1,OV oa];congr 1;omega
 rw[OU e1];by_cases e2:i=k
 ·rw[OV e2,OV oa];subst e2;rfl
 rw[OU e2,G k I];by_cases e3:k<i\/l.length<=k+i
 ·rw[OV e3,OV oa]
 rw[OU e3,OU oa]
theorem Rv.fin (h:Rv l i li)(hi:l.length - 1 - i<=i)(J:2*i<=l.length):li=l.reverse:=by
 obtain⟨E,G⟩:=h;apply L3
 ·simp[E]
 intro k T U;have I:k<l.length:=oa
 rw[G k I,List.getElem_reverse];by_cases e:k<i\/l.length<=k+i
 ·rw[OV e]
 rw[OU e];congr 1;omega
theorem Rv.at_i (h:Rv l i li)(hi:i<l.length - 1 - i):∃(G:i<li.length) (I:l.length - 1 - i<li.length),li[i]'G=l[i]'oa/\li[l.length - 1 - i]'I=l[l.length - 1 - i]'oa:=by
 obtain⟨J,E⟩:=h;refine⟨oa,oa,?_,?_⟩
 ·rw[E i oa,OU oa]
 rw[E _ oa,OU oa]
theorem jh {v:O3}(h:Qh 3 base w v l)(hh:l.length<=1099511627776):
  QU sV 144 [v] w λ_ w'=>Qh 3 base w' v l.reverse/\O6 (ob v) w w':=by
 refine Zm func144 ?_;refine Ql<|QG (QN (L:=[]) h hh od) rfl<|x (JB rfl rfl ⟨oa,oa⟩)<|x Qe<|Qb<|QX (α:=Nat×LI) [(2,3),(7,27)] (λz=>[(2,sS z.1),(3,sS ((l.length:Int) - 1 - z.1))])
  (λz w'=>Rv l z.1 z.2/\2*z.1<=l.length/\O6 (ob v) w w'/\Qh 3 base w' v z.2) (λz=>l.length - z.1) (0,l) ⟨O,OW sS od,Z⟩ ⟨Rv.start l,od,O6.Y _ _,h⟩ ?_
 rintro⟨i,li⟩ g J ⟨hR,hk,T,E⟩;refine Qd<|Ql<|Qa<|ZW O O<|xe<|Zp rfl (λh9=>?_) (λh9=>?_)
 ·refine Qt ?_;rw[hR.fin oa hk]at E;exact⟨[],Z,E,T⟩
 have U:i<l.length - 1 - i:=oa
 have V:(l.length:Int) - 1 - (i:Int)=((l.length - 1 - i:Nat):Int):=oa
 have hq:li.length=l.length:=hR.1;refine Exists.elim (hR.at_i U) λY G=>Exists.elim G λh3 G=>?_;refine Exists.elim (qn E oa) λgg hg=>Exists.elim hg λcap I=>?_;have ha:Qu [] ↑J v li:=QN E oa od;refine Qf<|Qd<|Qn<|ZK [] (Xj 0 16 [13,15])<|p Qy<|p Qy<|p Qy<|p Qy<|p Qy<|p Qy<|pii (i:=l.length - 1 - i) O ha O (OW sS V) h3 λhs he=>?_;rw[G.2]at he;refine pq (λ_ hc=>Qq (he.I hc) O)<|p Qy<|p Qy<|pii (i:=i) O ha O O Y λhu hf=>?_;rw[G.1]at hf;refine pq (λ_ hc=>Qq (hf.I hc) O)<|p (λ_=>QE (i:=i) (show ev _ _=_ from I) O oa) <|
  pkk<|jZ (Qm E (O6.X [] J)) I O O Y λw2 hm hn=>p (λ_=>QE (i:=l.length - 1 - i) (show ev _ _=_ from I) (OW sS V) oa) <|
  pkk<|jZ hn (by rw[M0];exact I) O O (by rw[M0];exact h3) λw3 ho hp=>pe ?_
 refine Qr<|Qa<|QB O O<|Qa<|x (JB O O ⟨oa,oa⟩)<|x Qe<|Qb<|⟨(i+1,_),oe,⟨O,OW sS oa,Z⟩,(hR.next U),oe,((T.D (O6.X [] J)).V hm).V ho,hp⟩
open Go.RowKit
def upY (P:O5)(m:Nat)(dst:xF)(f:Fr)(K:xz):Result Next->Prop
 | .ok (.value v) w'=>K (QP f dst v) w'
 | .ok .skip w'=>K (QP f dst undef) w'
 | .ok (.enter g args) w'=>Calls P g args w' λe E=>match e with| .returned v=>K (QP f dst v) E|_=>False
 | .ok (.round l fn tmps assign body) w'=>RoundIn (fen none) (m - 1) P l fn tmps assign body w' λe E=>match e with| .returned v=>K (QP f dst v) E|_=>False
 | _=>False
def XOY (P:O5)(m:Nat)(o:Oper)(f:Fr)(w:O2)(K:xz):Prop:=upY P m o.dst f K ((execOp (ev f) o).run P w)
def Jv (P:O5)(m:Nat)(ops:xE)(K:xz):xE->Fr->O2->Prop
 | [],f,w=>K f w
 | o::l,f,w=>bif Z9 ops f o then XOY P m o f w (Jv P m ops K l) else Jv P m ops K l (QP f o.dst undef) w
theorem XOY.of_XO {o:Oper}{K':xz}(hK:∀f w,K f w->K' f w)(h:XO P o f w K):XOY P m o f w K':=by
 unfold XO at h;unfold XOY;generalize (execOp (ev f) o).run P w=r at h;cases r with
 | ok nx w' =>
  cases nx <;> simp only[upF]at h <;> simp only[upY]
  case value v=>exact hK _ _ h
  case skip=>exact hK _ _ h
  case enter g args =>
   refine Calls.mono h λe G E=>?_;cases e with
   | returned v=>exact hK _ _ E
   | panicked c=>exact E.elim
   | outgrown=>exact E.elim
 | halt x w'=>exact h.elim
theorem Jv.pre {ops:xE}{K:xz}{l2:xE}:∀(E:xE) (f:Fr) (w:O2),XL P ops (λf w=>Jv P m ops K l2 f w) E f w->Jv P m ops K (E++l2) f w
 | [],f,w,h=>by unfold XL at h;exact h
 | o::E,f,w,h=>by
  unfold XL at h;show(bif Z9 ops f o then XOY P m o f w (Jv P m ops K (E++l2)) else Jv P m ops K (E++l2) (QP f o.dst undef) w);cases G:Z9 ops f o with
  | false=>rw[G]at h;exact Jv.pre E _ _ h
  | true=>rw[G]at h;exact XOY.of_XO (λf w h=>Jv.pre E f w h) h
theorem Jv.pre2 {o1 o2:Oper}{l2:xE}(h:XL P ops (λf w=>Jv P m ops K l2 f w) [o1,o2] f w):Jv P m ops K (o1::o2::l2) f w:=Jv.pre [o1,o2] f w h
theorem Jv.of_XL {l:xE}(h:XL P ops K l f w):Jv P m ops K l f w:=by
 have:=Jv.pre (m:=m) (l2:=[]) l f w h
 rwa [LH]at this
theorem Qln {o:Oper}{a:Act}{K':Act->O2->Prop}{Q:Exit->Act->O2->Prop}(h:Xi n ds a f)
  (hK:∀v w',K (QP f o.dst v) w'->K' (a.put o.dst v) w') (hx:XOY P m o f w K):o.wpIn (fen none) m P a w K' Q:=by
 unfold XOY at hx;refine⟨λ_ _=>trivial,?_⟩;have e:Oper.semAt (fen none).round a.eval o=execOp (ev f) o:=by rw[h.eval];rfl
 rw[e];generalize (execOp (ev f) o).run P w=r at hx;cases r with
 | ok nx w' =>
  cases nx <;> simp only[upY]at hx <;> simp only[Oper.uponIn]
  case value v=>exact hK v w' hx
  case skip=>exact hK _ w' hx
  case enter g args =>
   refine⟨λh=>by simp[Fence.wide]at h,?_⟩;refine(callsIn_wide (n:=m - 1)).2 (Calls.mono hx λe G E=>?_);cases e with
   | returned v=>exact hK v G E
   | panicked c=>exact E.elim
   | outgrown=>exact E.elim
  case round l fn tmps assign body =>
   refine⟨λh=>by simp[Fence.wide]at h,?_⟩;refine RoundIn.mono hx λe G E=>?_;cases e with
   | returned v=>exact hK v G E
   | panicked c=>exact E.elim
   | outgrown=>exact E.elim
 | halt x w'=>exact hx.elim
theorem Qdx {Q:Exit->LN->Fr->O2->Prop}{all:xE}(G:∀o∈all,∀d,o.dst=some d->d<n)(f0:Fr):
  ∀(l:xE) (k:Nat) (a:Act) (f:Fr) (w:O2),(∀j,l[j]?=all[k+j]?)->Xi n ds a f->(∀t,Yn all t=false->f t=f0 t) ->
   Jv P m all (λf w=>Q .normal ds f w) l f w ->
   wpOpsIn (fen none) m P all.toArray (λe V w'=>∃ds' f',Xi n ds' V f'/\(∀t,Yn all t=false->f' t=f0 t)/\Q e ds' f' w') (oO k l.length) a w
 | [],_,a,f,w,_,E,I,h=>⟨ds,f,E,I,by unfold Jv at h;exact h⟩
 | o::l,k,a,f,w,hl,E,I,h=>by
  have T:all[k]?=some o:=by simpa using(hl 0).symm
  have J:o∈all:=Mt T;have ih:=λa f w=>Qdx (Q:=Q) G f0 l (k+1) a f w (λj=>by have:=hl (j+1);simpa[Nat.add_assoc,Nat.add_comm 1 j]using this);have next:∀v,(∀t,Yn all t=false->QP f o.dst v t=f0 t):=λv t ht=>(Xc (Jw J ht) v).D (I t ht);simp only[oQ,Oz,wpOpsIn,oR,T];rw[VP E G o];unfold Jv at h;cases U:Z9 all f o with
  | false =>
   rw[U]at h;exact⟨λ_ _=>trivial,ih _ _ _ (E.put (G o J) _) (next _) h⟩
  | true =>
   rw[U]at h;exact Qln E (λv w' hx=>ih _ _ _ (E.put (G o J) v) (next v) hx) h
theorem Kz {Q:Exit->LN->Fr->O2->Prop}{l:xE}(E:Xx n l=true)(h:Jv P m l (λf w=>Q .normal ds f w) l f w):WG none m P n (.region id l.toArray false) Q ds f w:=by
 unfold WG;intro a G;refine wpIn_region ?_;have:=Qdx (m:=m) (XN E) f l 0 a f w od G (λ_ _=>rfl) h;simpa[List.range_eq_range',Jg]using this
theorem xy {rest:xE}{x:O4}{l:Nat}{R:Ending->O2->Prop}
  (hx:ev f x=.func (.yield l) #[] #[]) (E:YieldAt (fen none) (m - 1) P l #[ev f y] w R) (hK:∀e w',R e w'->∃v,e=.returned v/\Jv P m ops K rest (QP f d v) w')
  (G:Z9 ops f ⟨d,.call ⟨.value x,#[y],at_⟩,ty,pS,af,gd⟩=true:=by rfl):
  Jv P m ops K (⟨d,.call ⟨.value x,#[y],at_⟩,ty,pS,af,gd⟩::rest) f w:=by
 obtain⟨fn,tmps,assign,body,I,J⟩:=E;have T:(execOp (ev f) ⟨d,.call ⟨.value x,#[y],at_⟩,ty,pS,af,gd⟩).run P w=.ok (.round l fn tmps assign body) w:=by
  simp[execOp,resolve,hx,Deferred.ofValue,invoke,I]
 unfold Jv;rw[G];simp only[XOY,T,upY,cond_true];exact J.mono λe w' h=>by obtain⟨v,rfl,U⟩:=hK e w' h;exact U
attribute [irreducible] Jv
structure Lw (B:Nat)(L:LN)(w w':O2):Prop where
 os:w'.os=w.os
 tape:w'.tape=w.tape
 output:w'.output=w.output
 size:w.heap.size<=↑w'
 low:∀k,k<B->k∉L->w'.heap[k]?=w.heap[k]?
theorem Lw.refl (B:Nat)(L:LN)(w:O2):Lw B L w w:=⟨O,O,O,Lp _,λ_ _ _=>O⟩
theorem Lw.D {B:Nat}{L:LN}{E w w':O2}(h:Lw B L E w)(k:Lw B L w w'):Lw B L E w' :=
 ⟨k.os.D h.os,k.tape.D h.tape,k.output.D h.output,Lz h.size k.size,λi hi G=>(k.low i hi G).D (h.low i hi G)⟩
theorem O6.lw {E:O2}(h:O6 L w w')(k:Lw ↑w L w' E):O6 L w E :=
 ⟨k.os.D h.os,k.tape.D h.tape,k.output.D h.output,Lz h.size k.size,λi hi G=>(k.low i hi G).D (h.block i hi G)⟩
structure X0 (B:Nat)(L:LN)(W W':O2):Prop where
 lw:Lw B L W W'
 other:∀(k:Nat) (o:Obj),W.heap[k]?=some o->o.isCells=false->W'.heap[k]?=some o
theorem X0.refl (B:Nat)(L:LN)(w:O2):X0 B L w w:=⟨Lw.refl _ _ _,λ_ _ h _=>h⟩
theorem X0.D {B:Nat}{L:LN}{E w w':O2}(h:X0 B L E w)(k:X0 B L w w'):X0 B L E w':=⟨h.lw.D k.lw,λi o hi G=>k.other i o (h.other i o hi G) G⟩
theorem X0.J {X:LN}{W:O2}(h:O6 X W W')(U:B<=↑W)(hX:∀b∈X,(b∈L\/B<=b)/\∃o:Obj,W.heap[b]?=some o/\o.isCells=true):X0 B L W W':=by
 refine⟨⟨h.os,h.tape,h.output,h.size,λk G J=>h.block k oa (λhx=>?_)⟩,λk o G T=>?_⟩
 ·rcases(hX k hx).1 with E|E
  ·exact J E
  omega
 refine(h.block k (LO.1 G).1 (λhx=>?_)).D G;obtain⟨V,E,I⟩:=(hX k hx).2;rw[G]at E;cases E;rw[T]at I;cases I
theorem X0.I {W:O2}(h:sW W W')(E:B<=↑W):X0 B L W W':=X0.J h E (λ_ hb=>by cases hb)
theorem QK.cells {H:xC}{b:Nat}(h:QK H b T cs):∃o:Obj,H[b]?=some o/\o.isCells=true:=⟨_,h,O⟩
theorem X0.blk {W:O2}{b:Nat}(h:O6 [b] W W')(E:B<=↑W)(hb:QK ↑W b T cs)(G:b∈L\/B<=b):X0 B L W W' :=
 X0.J h E (λc hc=>by
  have e:c=b:=by simpa using hc
  subst e;exact⟨G,hb.cells⟩)
def Ye (B:Nat)(I:xA):Prop:=∀W W' X,I W->O6 X W W'->(∀r∈X,B<=r/\∃o:Obj,W.heap[r]?=some o/\o.isCells=false)->I W'
theorem Ye.own {I:β->O2->Prop}(h:∀s,Ye B (I s)):OwnFrom B I:=λs W W' row G J T =>
 h s W W' _ G (O6.of_grown J) (λr E=>T r (by cases row <;> simp at E ⊢;exact E.symm))
theorem Ye.blk {b:Nat}:Ye B (λW=>QK ↑W b T cs):=λW W' X h G hX=>h.J G (λhb=>by
 obtain⟨_,o,E,I⟩:=hX b hb;unfold QK at h;rw[h]at E;cases E;cases I)
theorem Ye.and {I J:xA}(h:Ye B I)(k:Ye B J):Ye B (λW=>I W/\J W):=λW W' X hi E hX=>⟨h W W' X hi.1 E hX,k W W' X hi.2 E hX⟩
theorem Ye.ex {I:β->O2->Prop}(h:∀z,Ye B (I z)):Ye B (λW=>∃z,I z W):=λW W' X ⟨z,hi⟩ E hX=>⟨z,h z W W' X hi E hX⟩
theorem Ye.pure (p:Prop):Ye B (λ_=>p):=λ_ _ _ h _ _=>h
theorem Ye.J (G:↑w<=B):Ye B (λW=>O6 L w W):=λW W' X h E hX=>h.O E (λb hb=>.inr (oo (hX b hb).1))
theorem Q7 {e:Nat}{v:O3}(h:w.ownsRow base e sz v n cs):∀b∈ob v,∃o:Obj,w.heap[b]?=some o/\o.isCells=true:=by
 intro b hb;rcases h.2 with⟨E,_⟩|⟨g,cap,cur,E,I,G,_⟩
 ·subst E;simp[ob]at hb
 subst E;simp[ob]at hb;subst hb;exact⟨_,G,O⟩
theorem Ye.row {e:Nat}{v:O3}:Ye B (λW=>W.ownsRow base e sz v n cs):=λW W' X h I hX=>Qg h I (λb hb hx=>by
 obtain⟨_,o,J,T⟩:=hX b hx;obtain⟨U,E,G⟩:=Q7 h b hb;rw[J]at E;cases E;rw[T]at G;cases G)
theorem QgS {Q:Exit->LN->Fr->O2->Prop}{g:O4}{p:Nat}{assign body:Code}(L:LN)(Y:1<=m)
  {gf:Nat}  [hF:Fu P gf fn]  (hg:ev f g=.func (.func gf) #[] capt.toArray) {enc:α->O3} {S:List α->Prop}  (hp:p<n)
  (hj:SeqStopsK (fen none) (m - 1) P gf capt.toArray (λx=>#[enc x]) (Lw ↑w L) S (λ_=>True) N w)
  (I:List α->O2->Prop) (hI:∀s,Ye ↑w (I s)) (h0:I [] w) (A:Fr->α->Fr->O2->Prop) (hA:∀x E,Ye ↑w (A f x E))
  (hf:∀l pre x W,I pre W->WG (some l) (m - 1 - 1) P n assign (QdX (λhe E W'=>he=[]/\X0 ↑w L W W'/\I pre W'/\A f x E W') (λ_ _ _ _=>False)) [] (upd f p (enc x)) W)
  (hh:∀l pre x E W,I pre W->A f x E W->pre.length<N->WG (some l) (m - 1 - 1) P n body (QdX (λ_ _ W'=>X0 ↑w L W W'/\I (pre++[x]) W') (λ_ _ _ _=>False)) [] E W)
  (hm:∀D xs W,↑w<=D->S xs->I xs W->W.heap[D]?=some (.deferred (some []))->Q .normal (D::ds) f W):
  WG none m P n (.rangeFunc g #[p] assign body) Q ds f w:=by
 unfold WG at hf hh ⊢;intro a U;have eg:∀args w,(callFunc gf args).run P w=.ok (.enter gf args) w:=by
  intro args w;have Y:¬fn.name = "runtime.NumGoroutine" := by simpa using hF.nm
  have T:¬fn.body=none:=by have:=hF.b;intro e;rw[e]at this;cases this
  simp[callFunc,hF.f,Y,T]
 have keep:∀{W W':O2},X0 ↑w L W W'->KeepsFrom ↑w W W':=λh=>⟨h.lw.size,λk o _ hk ho=>h.other k o hk ho⟩;refine wpIn_rangeFunc_ownH (F:=fen none) O Y (gf:=gf) (lb:=capt.toArray) (by rw[U.eval];exact hg) Z eg hj (λh k=>h.D k)
  (λW l o o' hl ho _ _=>⟨O,O,O,od,λk hk _=>World.putObj_heap_other oa⟩) (Below.refl _ _) (λ_=>rfl) I (λ_ _ _=>False) (Ye.own hI) (λ_ _ _ _ _ hs _ _=>hs) h0
  (λx V W=>∃E,Xi n [] V E/\A f x E W) (λx V=>Ye.own λ_=>Ye.ex λE=>Ye.and (Ye.pure _) (hA x E)) ?_ ?_ ?_ ?_
 ·intro l pre x W K hi hK;have hr:Xi n [] { tmps:=((#[p]:Array Nat).zip #[enc x]).foldl (λt (p,v)=>t.setIfInBounds p v) a.tmps,defers:=[] } (upd f p (enc x)):=by
   have T:Xi n [] { a with defers:=[] } f:=⟨U.size,O,U.get⟩
   have G:=T.put (dst:=some p) (λd e=>by cases e;exact hp) (enc x);have e:((#[p]:Array Nat).zip #[enc x]).foldl (λt (p,v)=>t.setIfInBounds p v) a.tmps=a.tmps.setIfInBounds p (enc x):=od
   rw[e];exact G
  refine wpIn_mono (hf l pre x W hi _ hr) ?_;rintro e V W' ⟨he,E,T,_,G⟩;cases e with
  | normal=>obtain⟨rfl,h4,J,h6⟩:=G;exact hK V W' (keep h4) h4.lw J ⟨E,T,h6⟩
  | exit id=>exact G.elim
  | goto l=>exact G.elim
  | ret=>exact G.elim
  | panic ch=>exact G.elim
  | outgrown=>exact G.elim
 ·rintro l pre x V W _ _ hi ⟨E,T,G⟩ hn;refine wpIn_mono (hh l pre x E W hi G hn V T) ?_;rintro e hq W' ⟨he,hu,h4,_,J⟩;cases e with
  | normal=>exact⟨keep J.1,J.1.lw,J.2⟩
  | exit id=>exact J.elim
  | goto l=>exact J.elim
  | ret=>exact J.elim
  | panic ch=>exact J.elim
  | outgrown=>exact J.elim
 ·intro D xs W hD hS hi hd;exact⟨D::ds,f,⟨U.size,by rw[show coll (D::ds)={ target:=.collected D,args:=#[] }::coll ds from rfl,U.defers],U.get⟩,λ_ _=>rfl,hm D xs W hD hS hi hd⟩
 intro D c pre W _ _ h _;exact h.elim
def Qp9 (P:O5)(t:Nat):Option (LV×xw):=match P.info? t,P.underlying t with
 | some it,some (.struct fs)=>match it.zero,fs.toList.mapM (λf=>(P.info? f.type).map λi=>(f.offset,i.size)) with
  | some (.agg zs),some pl=>some (zs.toList,pl)
  | _,_=>none
 | _,_=>none
class Bw (P:O5)(t:Nat)(zs:outParam (LV))(pl:outParam xw):Prop where
 h:Qp9 P t=some (zs,pl):=by first|kernel_rfl|decide|rfl|exact sX (by kernel_rfl)
 b:pl.all (λx=>x.1+x.2<=zs.length)=true:=by first|kernel_rfl|decide|rfl|exact sX (by kernel_rfl)
def Qci:LV->Nat->LV->LV
 | zs,_,[]=>zs
 | zs,o,u::us=>Qci (zs.set o u) (o+1) us
def Qli (pl:xw)(zs:LV):List (Nat×LV)->LV
 | []=>zs
 | (j,us)::ps=>Qli pl (Qci zs (pl.getD j (0,0)).1 us) ps
def Qn5:List (Nat×O3)->List (Nat×LV)->Prop
 | [],[]=>True
 | (j,v)::vs,(j',us)::uss=>v.cells=us.toArray/\j=j'/\Qn5 vs uss
 | _,_=>False
theorem Qch:∀(us zs:LV) (o:Nat),(Qci zs o us).length=zs.length
 | [],_,_=>rfl
 | u::us,zs,o=>by rw[Qci,Qch us,M0]
theorem jQ (o:Nat):∀(us:LV) (k:Nat) (zs:LV),(us.zipIdx k).foldl (λ(cs:Array O3) (x:O3×Nat)=>cs.setIfInBounds (o+x.2) x.1) zs.toArray=(Qci zs (o+k) us).toArray
 | [],_,_=>rfl
 | u::us,k,zs=>by
  rw[NI,LQ,Qci];have:=jQ o us (k+1) (zs.set (o+k) u);rw[<-List.setIfInBounds_toArray]at this;exact this
theorem Qkk {pl:xw}:∀(vs:List (Nat×O3)) (uss:List (Nat×LV)) (zs:LV),Qn5 vs uss->uss.all (λp=>p.1<pl.length && (p.2.length == (pl.getD p.1 (0,0)).2))=true ->
  (∀x∈pl,x.1+x.2<=zs.length)->Instr.fill (pl.toArray[·]?) zs.toArray vs=some (Qli pl zs uss).toArray
 | [],[],zs,_,_,_=>rfl
 | [],_::_,_,h,_,_=>h.elim
 | _::_,[],_,h,_,_=>h.elim
 | (j,v)::vs,(j',us)::uss,zs,I,G,J=>by
  obtain⟨hc,rfl,I⟩:=I;simp only[Ob,oI,decide_eq_true_eq,beq_iff_eq]at G;obtain⟨⟨E,hl⟩,G⟩:=G;have T:pl.getD j (0,0)=pl[j]'E:=by simp[oN,E]
  have U:=J _ (Lm E);unfold Instr.fill;simp only[oR,oU E,hc];rw[T]at hl;rw[OU (by simp only[Od,hl,ne_eq,not_true,decide_false,Bool.false_or,decide_eq_true_eq];omega)];have e:=jQ (pl[j]'E).1 us 0 zs;rw[M1]at e;have e2:(us.toArray.zipIdx).foldl (λ(cs:Array O3) (x:O3×Nat)=>cs.setIfInBounds ((pl[j]'E).1+x.2) x.1) zs.toArray=(Qci zs (pl[j]'E).1 us).toArray:=by
   rw[<-e];simp
  rw[e2,Qli,T];simpa only[oR]using(Qkk vs uss (Qci zs (pl[j]'E).1 us) I G (λx hx=>by rw[Qch];exact J x hx))
theorem QeZ {zs:LV}{pl:xw}(h:Qp9 P t=some (zs,pl))(hb:pl.all (λx=>x.1+x.2<=zs.length)=true)(vs:List (Nat×O3))(uss:List (Nat×LV))(J:Qn5 vs uss)
  (T:uss.all (λp=>p.1<pl.length && (p.2.length == (pl.getD p.1 (0,0)).2))=true):P.built t vs=some (Qli pl zs uss).toArray:=by
 have U:∀x∈pl,x.1+x.2<=zs.length:=λo V=>ou (Mh.1 hb o V)
 unfold Qp9 at h;unfold Program.built;cases hi:P.info? t with
 | none=>simp[hi]at h
 | some it =>
  cases I:P.underlying t with
  | none=>simp[hi,I]at h
  | some dd =>
   simp only[hi,I]at h;cases dd <;> simp only[]at h <;> try (cases h)
   case struct fs =>
    cases E:it.zero with
    | none=>simp[E]at h
    | some z =>
     cases z <;> simp only[E]at h <;> try (cases h)
     rename_i za;cases G:fs.toList.mapM (λf=>(P.info? f.type).map λi=>(f.offset,i.size)) with
     | none=>simp[G]at h
     | some pl' =>
      simp only[G,Option.some.injEq,Prod.mk.injEq]at h;obtain⟨rfl,rfl⟩:=h;simp only[E,G,Value.cells];exact Qkk vs uss za.toList J T U
theorem ZB {zs:LV}{pl:xw}[h:Bw P t zs pl]{parts:List (Nat×O4)}(uss:List (Nat×LV))
  (E:Qn5 (parts.map λx=>(x.1,ev f x.2)) uss) (G:uss.all (λp=>p.1<pl.length && (p.2.length == (pl.getD p.1 (0,0)).2))=true:=by rfl):
  (execOp (ev f) ⟨d,.build t parts.toArray,ty,pS,af,gd⟩).run P w=.ok (.value (sT (Qli pl zs uss))) w:=by
 simp only[execOp,Sem.run_bind,(run_build (P:=P) w t (parts.toArray.map λ(i,x)=>(i,ev f x)) _ (by simpa using(QeZ h.h h.b _ uss E G))),Result.andThen_ok,Sem.run_pure]
def cnE (p:Ed->Bool)(es:List Ed):Int:=((es.filter p).length:Int)
theorem Qdg (p:Ed->Bool)(es:List Ed)(e:Ed):cnE p (es++[e])=cnE p es+if p e=true then 1 else 0:=by
 unfold cnE;rw[LT,Lc];by_cases h:p e=true
 ·simp[h]
 simp[h]
theorem V3 (p:Ed->Bool)(es:List Ed):0<=cnE p es/\cnE p es<=es.length:=by
 unfold cnE;have:=LK p es;omega
def gA (n:Nat)(f:Nat->Int):LI:=(oJ n).map f
theorem QpI (n:Nat)(f:Nat->Int):(gA n f).length=n:=by simp[gA]
theorem Qke {f:Nat->Int}(h:i<(gA n f).length):(gA n f)[i]'h=f i:=by simp[gA]
theorem QeC {f g:Nat->Int}{u:Int}(G:u=g i)(h:∀j,j<n->j≠i->g j=f j):(gA n f).set i u=gA n g:=by
 apply L3
 ·simp[gA]
 intro k I E;rw[M6,Qke E];by_cases e:i=k
 ·rw[OV e,G,e]
 rw[OU e,Qke];exact(h k (by simpa[gA]using E) (Ne.symm e)).symm
theorem QcZ {f g:Nat->Int}(h:∀j,j<n->f j=g j):gA n f=gA n g:=List.map_congr_left (λj E=>h j (MI.1 E))
def cN (es:List Ed)(s:Nat):Int:=cnE (λe=>decide (e.1+1=(s:Int))) es
def fS (es:List Ed)(s:Nat):Int:=cnE (λe=>decide (e.1<(s:Int))) es
theorem Qgm (es:List Ed)(s:Nat):fS es (s+1)=cN es (s+1)+fS es s:=by
 unfold fS cN cnE;induction es with
 | nil=>rfl
 | cons e es ih =>
  simp only[OA];by_cases I:e.1<(s:Int)
  ·have G:e.1<((s+1:Nat):Int):=oa
   have E:¬e.1+1=((s+1:Nat):Int):=oa
   simp only[I,G,E,decide_true,decide_false,if_true,oQ]at ih ⊢;simp only[Ol,if_false]at ih ⊢;omega
  by_cases G:e.1+1=((s+1:Nat):Int)
  ·have E:e.1<((s+1:Nat):Int):=oa
   simp only[I,G,E,decide_true,decide_false,if_true,oQ]at ih ⊢;simp only[Ol,if_false]at ih ⊢;omega
  have E:¬e.1<((s+1:Nat):Int):=oa
  simp only[I,G,E,decide_false,Ol,if_false]at ih ⊢;exact ih
theorem Qgl (h:∀e∈es,0<=e.1):fS es 0=0/\cN es 0=0:=by
 unfold fS cN cnE;refine⟨?_,?_⟩
 ·have:(es.filter λe=>decide (e.1<((0:Nat):Int)))=[]:=MO.2 (λe E=>by have:=h e E;simp;omega);rw[this];rfl
 have:(es.filter λe=>decide (e.1+1=((0:Nat):Int)))=[]:=MO.2 (λe E=>by have:=h e E;simp;omega);rw[this];rfl
def mX (es:List Ed)(s j:Nat):Int:=if j<=s then fS es j else cN es j
theorem QmL (h:∀e∈es,0<=e.1)(n:Nat):gA n (cN es)=gA n (mX es 0):=QcZ λj _=>by
 unfold mX;by_cases e:j<=0
 ·have:j=0:=oa
  subst this;rw[OV (Lp _),(Qgl h).1,(Qgl h).2]
 rw[OU e]
theorem QmM (es:List Ed)(s n:Nat):(gA n (mX es s)).set (s+1) (mX es s (s+1)+mX es s s)=gA n (mX es (s+1)):=by
 refine QeC ?_ λj _ E=>?_
 ·unfold mX;rw[OU oa,OV (Lp _),OV (Lp _),Qgm]
 unfold mX;by_cases e:j<=s
 ·rw[OV oa,OV e]
 rw[OU oa,OU e]
theorem QnK (es:List Ed)(e:Ed)(E:0<=e.1)(n:Nat):(gA n (cN es)).set (e.1.toNat+1) (cN es (e.1.toNat+1)+1)=gA n (cN (es++[e])):=by
 refine QeC ?_ λj _ G=>?_
 ·unfold cN;rw[Qdg,OV (by simp;omega)]
 unfold cN;rw[Qdg,OU (by simp;omega)];simp
theorem j8 (n:Nat):(oG n (sS 0).cells.toList).flatten=(gA n (cN [])).map (Value.int .i64):=by
 apply L3
 ·simp[Value.cells,gA]
 intro i E G;simp[Value.cells,gA,cN,cnE]
theorem Us [XS P t]{x:O4}{b:Nat}{g:Nat->Int}(h:QK ↑w b T ((gA n g).map (.int .i64)))(hx:ev f x=.pointer (some ⟨b,0+i*1,none⟩))(hi:i<n):
  (execOp (ev f) ⟨d,.load t x,ty,pS,af,gd⟩).run P w=.ok (.value (sS (g i))) w:=Qk h hx (by simp[gA,hi])
theorem yh [h1:XS P t]{x:O4}{b:Nat}{g E:Nat->Int}{u:Int}(G:QK ↑w b T ((gA n g).map (.int .i64)))(hx:ev f x=.pointer (some ⟨b,0+i*1,none⟩))(I:ev f y=sS u)(hi:i<n)(J:(gA n g).set i u=gA n E)
  (hK:∀w',O6 [b] w w'->QK ↑w' b T ((gA n E).map (.int .i64))->K (QP f d undef) w'):XO P ⟨d,.store t x y,ty,pS,af,gd⟩ f w K :=
 Kk G hx I (by rw[QpI];exact hi) λw' U V=>hK w' U (by rw[<-J];exact V)
instance:Bw sV 304 [nS,sS 0,nS,nS,nS] [(0,4),(4,1)]:={}
theorem QcH (h:Zr [] ↑w va vm ve a)(hn:a.st=(n:Int))(hT:a.st<=4096)(h5:∀e∈a.ed,0<=e.1/\e.1<a.st):
  QU sV 198 [.agg #[va,sS a.st,vm,ve]] w λr w'=>sW w w'/\∃b,r=.agg #[va,sS a.st,vm,ve,sL b (n+1) (n+1)]/\↑w<=b/\QK ↑w' b 3 ((gA (n+1) (fS a.ed)).map (Value.int .i64)):=by
 have hU:=h.ed.le;refine Zm func198 ?_;refine Qc<|Zf [va,sS a.st,vm,ve] λb1 w1 hw hE hF=>QT [nS,sS 0,nS,nS,nS] λb2 E hy hV h6=>xe ?_;have ha:=hF.I hy;have hp:a.st+1=((n+1:Nat):Int):=oa
 have hz:sW E { E with drawn:=E.drawn+1 }:=O6.X [] E
 have hW:=hz.size;refine QW (α:=Nat×Nat) [(3,3),(7,12)] (λz=>[(3,.pointer (some ⟨z.1,0,none⟩))]) (λz w'=>sW E w'/\QK ↑w' z.1 304 [va,sS a.st,vm,ve,.slice (some ⟨z.2,0,none⟩) (n+1) (n+1)]/\QK ↑w' z.2 3 ((gA (n+1) (cN [])).map (Value.int .i64))/\↑E<=z.1/\↑E<=z.2/\z.1≠z.2) oh ?_ ?_
 ·refine QgL (sW E) (.f2 [oz 0,oz 1,oz 2,oz 3] 4 6 (.pl [oz 5,oA 6,oA 7]) (.pl [oA 4,oz 5,oA 7])) mixed oh oc (O6.X _ _) ?_;refine u2<|pq (λ_ hc=>Zi (ha.I hc) O O)<|p (QH O)<|pq (λ_ hc=>Qk (ha.I hc) O O)<|p (λ_=>Xt O O ⟨oa,oa⟩)<|pe ⟨?_,?_⟩
  ·refine ue<|Y2 (n:=n+1) (OW sS hp) (OW sS hp) oa λb11 w3 h0 hG hq=>?_;have hf:=hz.D h0;have hX:=hq.lt;refine⟨hf,?_⟩;refine uP<|p (λ_=>ZB [(0,[va,sS a.st,vm,ve]),(1,[sL b11 (n+1) (n+1)])] ⟨O,O,O,O,Z⟩)<|pk<|YW (us:=[nS,sS 0,nS,nS,nS]) O λT w4 hg h7 U=>?_;have G:=hf.D hg;refine⟨G,?_⟩;refine pk<|qo [va,sS a.st,vm,ve,sL b11 (n+1) (n+1)] U ⟨h.al.one,O,h.mr.one,h.ed.one,O,Z⟩ λw5 I hh=>⟨G.Q I oa,pe ?_⟩;have h1:QK ↑w3 b11 3 ((gA (n+1) (cN [])).map (Value.int .i64)):=by rw[<-j8];exact hq
   exact⟨(T,b11),La,G.Q I oa,hh,(h1.I hg).J I (by simp;omega),oe,oe,oe⟩
  refine ue<|YW (us:=[nS,sS 0,nS,nS,nS]) O λT w3 h0 h7 U=>?_;have hf:=hz.D h0;have hY:=U.lt;refine⟨hf,?_⟩;refine uP<|pk<|Y2 (n:=n+1) (OW sS hp) (OW sS hp) oa λb11 w4 hg hG hq=>?_;have G:=hf.D hg;refine⟨G,?_⟩;refine p (λ_=>ZB [(0,[va,sS a.st,vm,ve]),(1,[sL b11 (n+1) (n+1)])] ⟨O,O,O,O,Z⟩)<|pk<|qo [va,sS a.st,vm,ve,sL b11 (n+1) (n+1)] (U.I hg) ⟨h.al.one,O,h.mr.one,h.ed.one,O,Z⟩ λw5 I hh=>⟨G.Q I oa,pe ?_⟩;have h1:QK ↑w4 b11 3 ((gA (n+1) (cN [])).map (Value.int .i64)):=by rw[<-j8];exact hq
  exact⟨(T,b11),La,G.Q I oa,hh,h1.J I (by simp;omega),oe,oe,oe⟩
 rintro⟨T,bF⟩ g6 w6 ⟨h8,U,hH,h7,h9,hZ⟩;have ga:=ha.lt;have gb:=h6.lt;refine Qd<|Qc<|Qs O (ha.I h8) O O<|QG h.ed O<|Qa<|xe ?_;have hI:∀e∈a.ed,0<=e.1:=λe he=>(h5 e he).1;refine QX (α:=Nat) [(5,5),(16,29)] (λz=>[(16,sS z)]) (λz w'=>z<=a.ed.length/\sW E w'/\QK ↑w' T 304 [va,sS a.st,vm,ve,sL bF (n+1) (n+1)]/\QK ↑w' bF 3 ((gA (n+1) (cN (a.ed.take z))).map (Value.int .i64))) (λz=>a.ed.length - z) 0 La
  ⟨Lo _,h8,U,hH⟩ ?_
 rintro k g w7 ⟨hk,hr,h2,hs⟩;refine Zk rfl O (λh3=>?_) (λh3=>?_)
 ·refine Qt ?_;have hJ:a.ed.length<=k:=by have hu:¬(k:Int)<(a.ed.length:Int):=h3;omega
  rw[Lr hJ,QmL hI (n+1)]at hs;refine Qd<|Qc<|Qs O (ha.I hr) O O<|Qa<|xe<|QX (α:=Nat) [(6,6),(32,48)] (λz=>[(32,sS z)]) (λz w'=>z<=n/\sW E w'/\QK ↑w' T 304 [va,sS a.st,vm,ve,sL bF (n+1) (n+1)]/\QK ↑w' bF 3 ((gA (n+1) (mX a.ed z)).map (Value.int .i64))) (λz=>n - z) 0 La
   ⟨Lo _,hr,h2,hs⟩ ?_
  rintro j g w8 ⟨hj,hm,hv,V⟩;refine Zk O O (λhA=>?_) (λhA=>?_)
  ·refine Qt ?_;have h4:j=n:=oa
   rw[h4]at V;have hK:gA (n+1) (mX a.ed n)=gA (n+1) (fS a.ed):=QcZ λi hi=>by unfold mX;rw[OV oa]
   rw[hK]at V;refine Qc<|Q3 hv O O<|Q5 [va,sS a.st,vm,ve,sL bF (n+1) (n+1)] (h6.I hm) ⟨h.al.one,O,h.mr.one,h.ed.one,O,Z⟩ λw9 J hL=>xe ?_;have gc:=hw.size;refine Qj ⟨[_],⟨JN hL,Z⟩,((hw.D hy).D hm).Q J oa,bF,O,oa,V.J J (by simp;omega)⟩
  have h4:j<n:=by have ge:(j:Int)<a.st:=hA;omega
  have gg:=V3 (λe:Ed=>decide (e.1<(j:Int))) a.ed;have gh:=V3 (λe:Ed=>decide (e.1+1=((j+1:Nat):Int))) a.ed;have hM:mX a.ed j (j+1)=cN a.ed (j+1):=by unfold mX;rw[OU oa]
  have hN:mX a.ed j j=fS a.ed j:=by unfold mX;rw[OV (Lp _)]
  have hE:0<=mX a.ed j (j+1)/\mX a.ed j (j+1)<=1099511627776:=by rw[hM];unfold cN;omega
  have gi:0<=mX a.ed j j/\mX a.ed j j<=1099511627776:=by rw[hN];unfold fS;omega
  refine Qf<|Qd<|Qn<|Ql<|Qb<|ZK [] (Xj 0 14 [13])<|p (QH O)<|pq (λ_ hc=>Qk (hv.I hc) O O)<|p Qy<|p (λ_=>Xt O O ⟨oa,oa⟩) <|
   p (λ_=>QE (i:=j+1) O O oa)<|pq (λ_ hc=>Us (i:=j+1) (V.I hc) O oa)<|p (QH O)<|pq (λ_ hc=>Qk (hv.I hc) O O) <|
   p Qy<|p (λ_=>QE (i:=j) O O oa)<|pq (λ_ hc=>Us (i:=j) (V.I hc) O oa)<|p (λ_=>Xt O O ⟨oa,oa⟩) <|
   p (λ_=>QE (i:=j+1) O O oa)<|pkk<|yh (i:=j+1) (V.I (O6.X [] w8)) O O oa (QmM a.ed j (n+1)) λw9 J hO=>pe ?_
  refine Qr<|QB O O<|Qa<|xe ?_;exact⟨j+1,oa,La,h4,(hm.D (O6.X [] w8)).Q J h9,(hv.I (O6.X [] w8)).J J (by simp;omega),hO⟩
 have Y:k<a.ed.length:=by have hu:(k:Int)<(a.ed.length:Int):=h3;omega
 have hB:a.ed.take (k+1)=a.ed.take k++[a.ed[k]'Y]:=Ll Y;have hC:=h5 _ (Lm Y);refine Zd (a.ed[k]'Y) λe he=>?_;rw[he]at hB hC;have hfr:e.1+1=((e.1.toNat+1:Nat):Int):=oa
 have hP:=V3 (λd:Ed=>decide (d.1+1=((e.1.toNat+1:Nat):Int))) (a.ed.take k);have gj:0<=cN (a.ed.take k) (e.1.toNat+1)/\cN (a.ed.take k) (e.1.toNat+1)<=1099511627776:=by unfold cN;rw[LC]at hP;omega
 refine Qf<|Qd<|Qn<|Qc<|xie ((h.I (hw.D hy)).ed.I hr) O O Y λgk hu=>?_;rw[he]at hu;refine x (QF hu O O)<|QT [sS 0,sS 0,sS 0] λb5 w8 hm hQ hh=>Q5 (Qp e) hh ox λw9 J hR=>xe ?_;have ho:sW w7 w9:=hm.Q J hQ;refine Qr<|Qs O (h2.I ho) O O<|Qs O hR O O<|QB O O<|x (QE (i:=e.1.toNat+1) O (OW sS hfr) oa) <|
  x (Us (i:=e.1.toNat+1) (hs.I ho) O oa)<|QB O O<|x (QE (i:=e.1.toNat+1) O (OW sS hfr) oa) <|
  Qo<|yh (i:=e.1.toNat+1) (hs.I ho) O O oa (QnK (a.ed.take k) e hC.1 (n+1)) λgl hD hS=>xe ?_
 refine Qr<|QB O O<|Qa<|xe<|⟨k+1,oa,La,Y,(hr.D ho).Q hD h9,(h2.I ho).J hD (by simp;omega),?_⟩;rw[hB];exact hS
open Go.RowKit
section
variable {l:xE}
end
def Xv {α:Type}(f:Nat->α)(i:Nat)(x:α):Nat->α:=λj=>if j=i then x else f j
theorem Zv (f:Nat->α)(i:Nat)(x:α):Xv f i x i=x:=by simp[Xv]
theorem ZP (f:Nat->α)(x:α)(h:j≠i):Xv f i x j=f j:=by simp[Xv,h]
theorem Ke (k:α->β)(n:Nat)(f:Nat->α)(i:Nat)(x:α):((oJ n).map λj=>k (f j)).set i (k x)=(oJ n).map λj=>k (Xv f i x j):=by
 apply L3
 ·simp
 intro j E G;rw[M6];by_cases e:i=j
 ·subst e;simp[Zv]
 rw[OU e];simp[ZP _ _ (Ne.symm e)]
structure VN (base:Nat)(w:O2)(n:Nat)(f:Nat->O3)(g:Nat->LI):Prop where
 own:∀i,i<n->Qh 3 base w (f i) (g i)
 dj:∀i j,i<n->j<n->i≠j->Dj (f i) (f j)
theorem VN.app {f:Nat->O3}{g:Nat->LI}(h:VN base w n f g)(hi:i<n)(U:Qh 3 base w' v' l)(V:O6 (ob (f i)) w w')
  (Y:∀b∈ob v',b∈ob (f i)\/↑w<=b):VN base w' n (Xv f i v') (Xv g i l):=by
 refine⟨λj E=>?_,λj k E I G=>?_⟩
 ·by_cases e:j=i
  ·subst e;rw[Zv,Zv];exact U
  rw[ZP _ _ e,ZP _ _ e];exact Qg (h.own j E) V (h.dj j i E hi e)
 have key:∀j,j<n->j≠i->Dj v' (f j):=λj E e b hb J=>by
  rcases Y b hb with T|T
  ·exact h.dj i j hi E (Ne.symm e) b T J
  have:=QV (h.own j E) b J;omega
 by_cases e1:j=i
 ·subst e1;rw[Zv,ZP _ _ (Ne.symm G)];exact key k I (Ne.symm G)
 rw[ZP _ _ e1];by_cases e2:k=i
 ·subst e2;rw[Zv];exact(key j E e1).symm
 rw[ZP _ _ e2];exact h.dj j k E I G
theorem VN.J {X:LN}{f:Nat->O3}{g:Nat->LI}(h:VN base w n f g)(E:O6 X w w')(hX:∀i,i<n->∀b∈ob (f i),b∉X):VN base w' n f g :=
 ⟨λi hi=>Qg (h.own i hi) E (hX i hi),h.dj⟩
theorem VN.I {f:Nat->O3}{g:Nat->LI}(h:VN base w n f g)(E:sW w w'):VN base w' n f g:=h.J E (λ_ _ _ _=>od)
def Y4 (es:List Ed)(s:Nat):LI:=(es.filter λe=>decide (e.2.2=(s:Int))).map (·.1)
theorem Qeu (es:List Ed)(e:Ed)(E:0<=e.2.2):∀s,Xv (Y4 es) e.2.2.toNat (Y4 es e.2.2.toNat++[e.1]) s=Y4 (es++[e]) s:=by
 intro s;unfold Y4;rw[LT,Ly];by_cases h:s=e.2.2.toNat
 ·subst h;rw[Zv];have:e.2.2=(e.2.2.toNat:Int):=oa
  simp[<-this]
 rw[ZP _ _ h];have:¬e.2.2=(s:Int):=oa
 simp[this]
theorem Qhv {s:Nat}{p:Int}(h:p∈Y4 es s):∃e∈es,e.1=p/\e.2.2=(s:Int):=by
 unfold Y4 at h;simp only[Om,Oj,decide_eq_true_eq]at h;obtain⟨e,⟨E,G⟩,I⟩:=h;exact⟨e,E,I,G⟩
theorem qv (es:List Ed)(s:Nat):(Y4 es s).length<=es.length:=by
 unfold Y4;rw[Ln];exact LK _ _
def bwE (s:Int)(st:LI×LI)(p:Int):LI×LI:=if O7 st.1 p.toNat<0 then(st.1.set p.toNat (O7 st.1 s.toNat+1),st.2++[p]) else st
def zh (n:Nat)(to:LI):LI:=(oJ n).map λi:Nat=>if(i:Int)∈to then 0 else -1
structure QlF (n:Nat)(o q:LI):Prop where
 len:o.length=n
 q:∀x∈q,0<=x/\x<(n:Int)
 le:∀x∈o,-1<=x/\x+(neg o:Int)<=n
theorem Qpc (l:LI):neg l<=l.length:=LK _ _
theorem Qqa {p:Int}{st:LI×LI}(h:QlF n st.1 st.2)(Y:0<=s/\s<(n:Int))(E:0<=O7 st.1 s.toNat)(J:0<=p/\p<(n:Int)):
  QlF n (bwE s st p).1 (bwE s st p).2/\neg (bwE s st p).1+(bwE s st p).2.length=neg st.1+st.2.length/\0<=O7 (bwE s st p).1 s.toNat:=by
 unfold bwE;have hl:=h.len;have G:p.toNat<st.1.length:=oa
 have T:s.toNat<st.1.length:=oa
 by_cases hc:O7 st.1 p.toNat<0
 ·rw[OV hc];have U:st.1[p.toNat]'G<0:=by rw[Zo G];exact hc
  have hv:=h.le _ (Xy T);have ha:=UB st.1 p.toNat (O7 st.1 s.toNat+1) G U oa;refine⟨⟨by simp[hl],λx hx=>?_,λx hx=>?_⟩,?_,?_⟩
  ·simp only[oW,oF]at hx;rcases hx with hx|rfl
   ·exact h.q x hx
   exact J
  ·simp only[]at hx ⊢;rcases Ny hx with I|I
   ·have:=h.le x I;omega
   subst I;omega
  ·simp only[oM,oL];omega
  simp only[];have V:s.toNat≠p.toNat:=λe=>by rw[e]at E;omega
  have:O7 (st.1.set p.toNat (O7 st.1 s.toNat+1)) s.toNat=O7 st.1 s.toNat:=by
   unfold O7;simp[oN,List.getElem?_set_ne (Ne.symm V)]
  rw[this];exact E
 rw[OU hc];exact⟨h,rfl,E⟩
theorem UZ (n:Nat)(to:LI):(zh n to).length=n:=by simp[zh]
theorem Qqb {to:LI}(h:∀x∈to,0<=x/\x<(n:Int)):QlF n (zh n to) to:=by
 refine⟨UZ n to,h,λx hx=>?_⟩;have E:=Qpc (zh n to);rw[UZ]at E;unfold zh at hx;simp only[Om]at hx;obtain⟨i,_,rfl⟩:=hx;split <;> omega
theorem QnN {to:LI}{x:Int}(h:0<=x/\x<(n:Int))(hx:x∈to):O7 (zh n to) x.toNat=0:=by
 have E:x.toNat<(zh n to).length:=by rw[UZ];omega
 rw[<-Zo E];have:((x.toNat:Nat):Int)=x:=oa
 simp[zh,this,hx]
def Qqj (o q:LI):Prop:=∀x∈q,0<=O7 o x.toNat
theorem Qle {p:Int}{st:LI×LI}(h:QlF n st.1 st.2)(I:0<=O7 st.1 s.toNat)(J:0<=p/\p<(n:Int))(E:Qqj st.1 st.2):Qqj (bwE s st p).1 (bwE s st p).2:=by
 unfold bwE;have G:p.toNat<st.1.length:=by have:=h.len;omega
 by_cases hc:O7 st.1 p.toNat<0
 ·rw[OV hc];intro x hx;have e1:O7 (st.1.set p.toNat (O7 st.1 s.toNat+1)) x.toNat=if x.toNat=p.toNat then O7 st.1 s.toNat+1 else O7 st.1 x.toNat:=by
   by_cases e:x.toNat=p.toNat
   ·rw[OV e,e];unfold O7;simp[oN,G]
   rw[OU e];unfold O7;simp[oN,List.getElem?_set_ne (Ne.symm e)]
  rw[e1];split
  ·omega
  rename_i e;simp only[oW,oF]at hx;rcases hx with hx|rfl
  ·exact E x hx
  exact OX O e
 rw[OU hc];exact E
theorem Up (n:Nat):(oG n (nS).cells.toList).flatten=(oJ n).map (λ_=>nS):=by
 apply L3
 ·simp[Value.cells]
 intro i E G;simp[Value.cells]
theorem Qhu (n:Nat):(oG n (sS 0).cells.toList).flatten=(gA n (λj=>if j<0 then -1 else 0)).map (Value.int .i64):=by
 apply L3
 ·simp[Value.cells,gA]
 intro i E G;simp[Value.cells,gA]
theorem K5 {rv:Nat->O3}(hi:i<n):((oJ n).map rv)[0+i*1]?=some (rv i):=by simp[hi]
theorem QsC {C:xA}{pl:xu}
  {e bys:Nat}  {x G I:O4}  {v:O3}   {H:xC} {k:IntKind} {lo hi:Nat} [h:Sl P t e sz bys z]
  (J:QR ops E=⟨d,.slice t x (some G) (some I) none,ty,pS,af,gd⟩) (hA:Zu L H v n sz cs) (hx:ev f x=v) (hl:ev f G=.int k lo) (T:ev f I=.int k' hi) (U:lo<=hi) (V:hi<=n)
  (hK:∀v',Zu L H v' (hi - lo) sz ((cs.drop (lo*sz)).take ((hi - lo)*sz))->XP P ops C K pl (QP f d v') w)
  (Y:Z9 ops f (QR ops E)=true:=by rfl):XP P ops C K ((E,true)::pl) f w:=by
 obtain⟨v',h3,h4⟩:=QfN (P:=P) (d:=d) (ty:=ty) (pS:=pS) (af:=af) (gd:=gd) (t:=t) hA hx hl T U V;exact Lg.p (λw'=>by rw[J];exact h4 w') (by rw[J];exact hK v' h3) Y
theorem Qgn (G:es.Pairwise λx y=>x.1<=y.1)(s:Nat):∀(m:Nat) (E:m<es.length),(m:Int)<fS es s↔(es[m]'E).1<(s:Int):=by
 unfold fS cnE;induction es with
 | nil=>intro m E;simp at E
 | cons e es ih =>
  intro m E;simp only[OB]at G;have ih:=ih G.2;simp only[OA];by_cases I:e.1<(s:Int)
  ·simp only[I,decide_true,if_true,oQ];cases m with
   | zero=>simp only[Ot];omega
   | succ m =>
    have:=ih m (ou E);simp only[List.getElem_cons_succ];rw[<-this];omega
  have J:(es.filter λe=>decide (e.1<(s:Int)))=[]:=MO.2 (λd hd=>by have:=G.1 d hd;simp;omega);simp only[I,decide_false,Ol,if_false,J,List.length_nil];cases m with
  | zero=>simp only[Ot];omega
  | succ m =>
   have hd:es[m]'(ou E)∈es:=Lm _;have:=G.1 _ hd;simp only[List.getElem_cons_succ];omega
theorem Qnp (es:List Ed)(s:Nat):fS es s<=fS es (s+1):=by
 have h:=Qgm es s;have:=(V3 (λe:Ed=>decide (e.1+1=((s+1:Nat):Int))) es).1;unfold cN at h;omega
theorem Ql9 (G:es.Pairwise λx y=>x.1<=y.1)(s lo hi:Nat)(V:fS es s=(lo:Int))(J:fS es (s+1)=(hi:Int)):(es.drop lo).take (hi - lo)=QM es s/\hi<=es.length/\lo<=hi:=by
 have E:=Qnp es s;have hl:=(V3 (λe:Ed=>decide (e.1<((s+1:Nat):Int))) es).2;have I:hi<=es.length:=by unfold fS at J;omega
 refine⟨?_,I,oa⟩;exact yR (λe:Ed=>decide (e.1=(s:Int))) es lo hi oa I
  (λm E Y=>by have:=(Qgn G s m E).1 oa;simp;omega)
  (λm E T h4=>by
   have h5:¬(es[m]'E).1<(s:Int):=λh=>oo ((Qgn G s m E).2 h)
   have U:=(Qgn G (s+1) m E).1 oa;simp;omega)
  (λm E T=>by
   have U:¬(es[m]'E).1<((s+1:Nat):Int):=λh=>oo ((Qgn G (s+1) m E).2 h)
   simp;omega)
theorem Qak:∀(l:List Ed) (k:Nat),(l.flatMap Qp).drop (k*3)=(l.drop k).flatMap Qp
 | [],k=>od
 | e::l,0=>od
 | e::l,k+1=>by
  simp only[oT,List.drop_succ_cons,Ou,OL];rw[MY,<-List.drop_drop,show(Qp e++l.flatMap Qp).drop 3=l.flatMap Qp from rfl,Qak l k]
theorem Qaj:∀(l:List Ed) (k:Nat),(l.flatMap Qp).take (k*3)=(l.take k).flatMap Qp
 | [],k=>od
 | e::l,0=>od
 | e::l,k+1=>by
  simp only[oT,List.take_succ_cons,Ou,OL];rw[MY,NG,show(Qp e).length=3 from rfl,show 3+k*3 - 3=k*3 by omega,Qaj l k,Lr (by rw[show(Qp e).length=3 from rfl];omega)]
theorem QkE {vf:O3}{st:Int}:
  QU sV 255 [.agg #[va,sS st,vm,ve,vf],sS s] w λr w'=>sW w w'/\∃b1 E,r=.func (.func 285) #[] #[sP b1,sP E] /\
   ↑w<=b1/\↑w<=E/\QK ↑w' b1 304 [va,sS st,vm,ve,vf]/\QK ↑w' E 3 [sS s]:=by
 refine Zm func255 ?_;refine Qc<|Zf [va,sS st,vm,ve,vf] λE Y G J T=>Zf [sS s] λU w2 I ha V=>Qb<|Qc<|x Zl<|Qb ?_;have he:=G.size;exact Qj ⟨[_],La,G.D I,E,U,O,J,oa,T.I I,V⟩
theorem QeM {V bF s:Nat}(h5:QK ↑w U 304 [va,sS a.st,vm,ve,sL bF (n+1) (n+1)])(h6:QK ↑w V 3 [sS s])
  (h7:QK ↑w bF 3 ((gA (n+1) (fS a.ed)).map (Value.int .i64))) (hE:U4 L ↑w ve a.ed) (h8:a.ed.Pairwise λx y=>x.1<=y.1) (hs:s<n) (hn:n<=4096):
  SeqStopsK (fen none) m sV 285 #[sP U,sP V] (λx:{ e:Ed // e∈a.ed }=>#[sT (Qp x.1)]) (Lw ↑w L)
   (λys=>ys.map (·.1)=QM a.ed s) (λ_=>True) (a.ed.length+1) w:=by
 intro l J Jx W h9 hJ hA hY h0;have hf:sW w W:=O6.of_below h9;have ab:∀{ys:List { e:Ed // e∈a.ed }} {W1 W2:O2},J ys W1->sW W1 W2->J ys W2:=λ{ys W1 W2} hj Y=>hJ ys W1 W2 none hj ⟨Y.os,Y.tape,Y.output,Y.size,λk hk _=>Y.block k hk od⟩ (λr e=>by cases e);have hP:=V3 (λe:Ed=>decide (e.1<(s:Int))) a.ed;have hQ:=V3 (λe:Ed=>decide (e.1<((s+1:Nat):Int))) a.ed;obtain⟨lo,hq⟩:∃lo:Nat,fS a.ed s=(lo:Int):=⟨(fS a.ed s).toNat,by unfold fS;omega⟩;obtain⟨hi,hr⟩:∃hi:Nat,fS a.ed (s+1)=(hi:Int):=⟨(fS a.ed (s+1)).toNat,by unfold fS;omega⟩;obtain⟨hu,hB,hC⟩:=Ql9 h8 s lo hi hq hr;have hR:=hE.le;have hD:(QM a.ed s).length=hi - lo:=by rw[<-hu,LC,Mo];omega
 have hF:∀e∈QM a.ed s,e∈a.ed:=λe E=>(Zt E).1;have key:QU sV 285 [.func (.yield l) #[] #[],sP U,sP V] W (λ_ W'=>(∃ys,ys.map (·.1)=QM a.ed s/\J ys W')\/(∃pre,True/\Jx pre W')):=by
  refine QU.of_G m func285 O ntmps285 results285 od ?_;have hm:=h5.I hf;have hv:=h6.I hf;have hw:=h7.I hf;refine QQ<|Ub (sW W) [oz 0,oz 1,oz 2,oz 3,oz 4,oz 5,oz 6,oz 7,oz 8,oz 9,oz 10,oz 11,oz 12,oz 13,oz 14,oz 15,oz 16] mixed oh oh oc (O6.X _ _) ?_;refine p (QH O)<|p (QH O)<|pq (λ_ hc=>Qk (hm.I hc) O O)<|p (QH O)<|pq (λ_ hc=>Qk (hm.I hc) O O)<|pq (λ_ hc=>Qk (hv.I hc) O O) <|
   p (λ_=>QE (i:=s) O O oa)<|pq (λ_ hc=>Us (i:=s) (hw.I hc) O oa)<|p (QH O)<|pq (λ_ hc=>Qk (hm.I hc) O O) <|
   pq (λ_ hc=>Qk (hv.I hc) O O)<|p (λ_=>Xt O O ⟨oa,oa⟩)<|p (λ_=>QE (i:=s+1) O O oa)<|pq (λ_ hc=>Us (i:=s+1) (hw.I hc) O oa) <|
   QsC (lo:=lo) (hi:=hi) O hE O (OW sS hq) (OW sS hr) hC hB λhG hy=>p (λ_=>Y1 hy O)<|p Qy<|pe ?_
  have hS:U4 L ↑w hG (QM a.ed s):=by
   unfold U4;rw[hD,<-hu,<-Qaj,<-Qak];exact hy
  have hz:sW W { W with drawn:=W.drawn+1 }:=O6.X _ _
  refine ZM<|KL (α:=Nat×List { e:Ed // e∈a.ed }) [(5,5),(22,30)] (λz=>[(22,sS z.1)]) (λz ds W'=>ds=[]/\z.1<=(QM a.ed s).length/\O6 L w W'/\z.2.map (·.1)=(QM a.ed s).take z.1/\J z.2 W') (λz=>(QM a.ed s).length - z.1) oh (0,[]) La
   ⟨O,Lo _,(hf.D hz).any,O,ab h0 hz⟩ ?_
  rintro⟨k,ys⟩ g ds w1 ⟨rfl,hk,h2,ha,ho⟩;simp only[]at hk ha ho;refine QQ<|Qx oh oh<|ZW O O<|xe<|QQ<|U3 O (λhp=>?_) (λhp=>?_)
  ·refine JL ?_;have hH:(QM a.ed s).length<=k:=by
    have hg:¬(k:Int)<((hi - lo:Nat):Int):=hp;omega
   rw[Lr hH]at ha;exact⟨λ_ h=>(by cases h),Mx,[],λW' G=>⟨Z,.inl ⟨ys,ha,ab ho G⟩⟩⟩
  refine Yb ?_;have I:k<(QM a.ed s).length:=by
   have hg:(k:Int)<((hi - lo:Nat):Int):=hp;omega
  have hT:=Yg a.ed s;have h3:(QM a.ed s).take (k+1)=(QM a.ed s).take k++[(QM a.ed s)[k]'I]:=Ll I;have hh:=hF _ (Lm I);have hU:ys.length=k:=by have:=OW oV ha;rw[Ln,LC]at this;omega
  refine Zd ((QM a.ed s)[k]'I) λe E=>?_;rw[E]at h3 hh;refine QQ<|ZM<|QQ<|Qx oh oh<|xie (i:=k) (hS.st h2) O O I λhV hg=>?_;rw[E]at hg;refine x (QF hg O O)<|QT [sS 0,sS 0,sS 0] λb5 w2 hI hK hL=>Q5 (Qp e) hL ox λw3 hM hN=>xe ?_;have h4:sW w1 w3:=hI.Q hM hK;refine QQ<|Kz oh ?_;refine Jv.pre2 ?_;refine Qa<|Q3 hN O O<|xe<|xy (l:=l) O (hY ys ⟨e,hh⟩ w3 (ab ho h4) oa) λen W3 hO=>Or.elim hO (λT=>⟨.bool true,T.1,?_⟩) (λT=>⟨.bool false,T.1,?_⟩)
  ·refine Jv.of_XL<|x (Zj O)<|xe<|J5 O<|Yb ?_;refine Qx oh oh<|QB O O<|Qa<|xe ?_;exact⟨(k+1,ys++[⟨e,hh⟩]),oe,La,O,I,(h2.D h4).lw T.2.2,by rw[h3,Ly,ha];rfl,T.2.1⟩
  refine Jv.of_XL<|x (Zj O)<|xe<|jn O ?_;refine J4 ⟨λ_ h=>(by cases h),Mx,[],λW' G=>⟨Z,.inr ⟨ys++[⟨e,hh⟩],Z,?_⟩⟩⟩;exact hA _ W3 W' none T.2 ⟨G.os,G.tape,G.output,G.size,λk hk _=>G.block k hk od⟩ (λr e=>by cases e)
 refine(callsIn_wide (n:=m)).2 ?_;have ea:(#[.func (.yield l) #[] #[]]++[sP U,sP V].toArray:Array O3)=#[.func (.yield l) #[] #[],sP U,sP V]:=od
 rw[ea];unfold QU at key;refine Calls.mono key λe w' E=>?_;cases e with
 | returned v=>exact⟨⟨v,O⟩,E⟩
 | panicked c=>exact E.elim
 | outgrown=>exact E.elim
def stS (st:List Ed):LI:=st.map (·.1)
def gE (st:List Ed)(k:Nat):Ed:=st.getD k (0,-1,0)
theorem Qkd {st:List Ed}{k:Nat}(h:k<st.length):st[k]'h=gE st k:=by simp[gE,oN,h]
theorem QpH {st:List Ed}{k:Nat}(h:k<st.length):gE st k∈st:=by rw[<-Qkd h];exact Lm h
def KK (pm:Ed->Bool)(i:Nat)(st:List Ed)(e:Ed):List Ed:=if e.2.2∉stS st/\pm e=true then st++[(e.2.2,(i:Int),e.2.1)]else st
def wrd (st:List Ed):Nat->Nat->LI
 | 0,_=>[]
 | f+1,k=>if 0<=(gE st k).2.1 then(gE st k).2.2::wrd st f (gE st k).2.1.toNat else[]
def QaX (wt:Int->Bool)(pm:Ed->Bool)(es:List Ed):Nat->Nat->List Ed->LI×Bool
 | 0,_,_=>([],false)
 | f+1,i,st=>if i<st.length then(if wt (gE st i).1=true then((wrd st (i+1) i).reverse,true) else QaX wt pm es f (i+1) ((QM es (gE st i).1).foldl (KK pm i) st)) else([],false)
def pth (wt:Int->Bool)(pm:Ed->Bool)(es:List Ed)(n from0:Nat):LI×Bool:=QaX wt pm es (n+1) 0 [((from0:Int),-1,-1)]
structure Qfa (n:Nat)(st:List Ed):Prop where
 nd:(stS st).Nodup
 rg:∀x∈st,0<=x.1/\x.1<(n:Int)
 par:∀k,k<st.length->(gE st k).2.1=-1\/(0<=(gE st k).2.1/\(gE st k).2.1<(k:Int))
theorem Qfa.le {st:List Ed}(h:Qfa n st):st.length<=n:=by
 have:=xI n (stS st) h.nd (λx hx=>by
  unfold stS at hx;obtain⟨y,E,rfl⟩:=Lx.1 hx;exact h.rg y E)
 simpa[stS]using this
theorem Qni {st:List Ed}{x:Ed}{k:Nat}(h:k<st.length):gE (st++[x]) k=gE st k:=by
 unfold gE;simp[oN,Oa h]
theorem Qnj (st:List Ed)(x:Ed):gE (st++[x]) st.length=x:=by
 unfold gE;simp[oN]
theorem QnW {pm:Ed->Bool}{st:List Ed}{e:Ed}(h:Qfa n st)(hi:i<st.length)(G:0<=e.2.2/\e.2.2<(n:Int)):Qfa n (KK pm i st e)/\i<(KK pm i st e).length:=by
 unfold KK;split
 ·rename_i hc;refine⟨⟨?_,λx hx=>?_,λk I=>?_⟩,by simp;omega⟩
  ·unfold stS at hc ⊢;rw[Ly];exact JF h.nd hc.1
  ·simp only[oW,oF]at hx;rcases hx with hx|rfl
   ·exact h.rg x hx
   exact G
  by_cases E:k<st.length
  ·rw[Qni E];exact h.par k E
  have:k=st.length:=by simp at I;omega
  subst this;rw[Qnj];simp only[];omega
 exact⟨h,hi⟩
theorem QoW {from0:Nat}(h:from0<n):Qfa n [((from0:Int),-1,-1)]:=by
 refine⟨by simp[stS],λx hx=>?_,λk E=>?_⟩
 ·simp at hx;subst hx;simp only[];omega
 simp at E;subst E;exact .inl O
theorem Qha {wt:Int->Bool}{pm:Ed->Bool}{f:Nat}{st:List Ed}(h:¬i<st.length):QaX wt pm es f i st=([],false):=by
 cases f with
 | zero=>rfl
 | succ f=>rw[QaX,OU h]
abbrev Lf:=List Bool
def lft (l:Lf)(s:Int):Bool:=l.getD s.toNat false
def cut (l:Lf)(s:Int):Lf:=l.set s.toNat false
def JO (ul:LI)(lf:Lf)(out:xx)(e:Ed):xx:=
 if lft lf e.1=false\/lft lf e.2.2=true\/e.2.1∉ul then out else if out.getLast?.map (·.1)=some e.1 then out else out++[(e.1,e.2.1)]
def lost (a:Qz)(ul:LI)(lf:Lf):xx:=a.ed.foldl (JO ul lf) []
def dsE (lf:Lf)(x:Int)(z:LI×LI)(y:Int):LI×LI:=if lft lf y=true/\O7 z.1 y.toNat<0 then(z.1.set y.toNat (O7 z.1 x.toNat+1),z.2++[y]) else z
def dsL (es:List Ed)(lf:Lf):Nat->Nat->LI×LI->LI×LI
 | 0,_,z=>z
 | f+1,i,z=>if i<z.2.length then dsL es lf f (i+1) ((Y4 es (O7 z.2 i).toNat).foldl (dsE lf (O7 z.2 i)) z) else z
def ds1 (lf:Lf)(z:LI×LI)(x:Int):LI×LI:=if lft lf x=true then(z.1.set x.toNat 0,z.2++[x]) else z
def ds0 (a:Qz)(lf:Lf):LI×LI:=a.mr.foldl (ds1 lf) (oG a.st.toNat (-1),[])
def dsts (a:Qz)(lf:Lf):LI:=(dsL a.ed lf a.st.toNat 0 (ds0 a lf)).1
def VI (lf:Lf):Nat->LI->LI
 | _,[]=>[]
 | i,d::l=>if lf.getD i false=true/\d<0 then(i:Int)::VI lf (i+1) l else VI lf (i+1) l
def nxs (a:Qz)(ul:LI)(lf:Lf):LI:=if(lost a ul lf).length≠0 then(lost a ul lf).map (·.1) else VI lf 0 (dsts a lf)
def VU (a:Qz)(ul:LI):Nat->Lf->Lf
 | 0,lf=>lf
 | f+1,lf=>if(nxs a ul lf).length=0 then lf else VU a ul f ((nxs a ul lf).foldl cut lf)
def lf0 (n:Nat)(fb:LI):Lf:=fb.foldl cut (oG n true)
def JM (a:Qz)(fb ul:LI):Lf:=VU a ul (a.st.toNat+1) (lf0 a.st.toNat fb)
def rstr (a:Qz)(lf:Lf):Qz:=⟨a.al,a.st,a.mr,a.ed.filter λe=>lft lf e.2.2⟩
def QaI (a:Qz)(lf:Lf):Qz:=if a.st=0\/lft lf 0=false then⟨a.al,0,[],[]⟩else YG (rstr a lf)
def Uj (a:Qz)(fb ul:LI):Qz:=QaI a (JM a fb ul)
def fbs (s:Spc):LI:=s.fb.map (·.st)
def suE (c:ZS):Int:=YQ c
def X2 (c:ZS):Qz:=Uj (spc c).a (fbs (spc c)) (unc c.ev)
def orB (b:Nat)(k:Nat):Nat:=b ||| (1 <<< k)
def rqB (x:Jp):Nat->Nat->List Jp->Nat
 | _,b,[]=>b
 | k,b,y::l=>rqB x (k+1) (if(y.a.al.any λe=>decide (e∈x.a.al))=true then orB b k else b) l
def prB (ls:xx):Nat:=ls.foldl (λb l=>orB b l.1.toNat) 0
def srR (c:ZS):LN:=c.rq.map λx=>rqB x 0 0 c.co
def srX (c:ZS):LN:=c.ex.map λx=>prB x.ls
def srC (c:ZS):LN:=c.cs.map λx=>prB x.ts
structure Mdl where
 kd:Int
 ix:Int
 co:LI
def QmK (k:Int):Nat->LN->List Mdl
 | _,[]=>[]
 | i,b::l=>⟨k,i,setK b 8⟩::QmK k (i+1) l
def xd (c:ZS):List Mdl:=QmK 1 0 (srR c)++(QmK 2 0 (srX c)++QmK 3 0 (srC c))
def sets (c:ZS):LN:=srR c++(srX c++srC c)
def Qsw (c:ZS):Nat:=(sets c).foldl (λl b=>l &&& (65535 ^^^ b)) (2 ^ c.co.length - 1)
def rem (c:ZS):LI:=setK (Qsw c) 8
structure Prt where
 co:LI
 rq:LI
 ex:LI
 cs:LI
def chs (l:List Jp)(ix:LI):List Jp:=ix.map λi=>l.getD i.toNat ⟨.empty,⟨[],0,[],[]⟩⟩
def ixP (co:LI)(ls:xx):xx:=ls.map λl=>((co.idxOf l.1:Int),l.2)
def Qss (c:ZS)(p:Prt):List Exc:=p.ex.map λi=>⟨(c.ex.getD i.toNat ⟨.empty,[]⟩).nm,ixP p.co (c.ex.getD i.toNat ⟨.empty,[]⟩).ls⟩
def Qst (c:ZS)(p:Prt):List xM:=p.cs.map λi=>⟨(c.cs.getD i.toNat ⟨.empty,[],0⟩).nm,ixP p.co (c.cs.getD i.toNat ⟨.empty,[],0⟩).ts,(c.cs.getD i.toNat ⟨.empty,[],0⟩).bd⟩
def Qsu (c:ZS)(p:Prt):ZS:=⟨c.ev,chs c.co p.co,chs c.rq p.rq,Qss c p,Qst c p⟩
def prt (m:Mdl):Prt:=⟨m.co,if m.kd=1 then[m.ix]else[],if m.kd=2 then[m.ix]else[],if m.kd≠1/\m.kd≠2 then[m.ix]else[]⟩
def mcC (c:ZS)(m:Mdl):ZS:=Qsu c (prt m)
def msA (c:ZS)(m:Mdl):Qz:=X2 (mcC c m)
def Qso (c:ZS):List Qz:=(xd c).map (msA c)++(rem c).map λi=>(c.co.getD i.toNat ⟨.empty,⟨[],0,[],[]⟩⟩).a
def KC (l:List Qz):Int:=if KT l≠0 then KT l else match xp l with|none=>3|some _=>0
def tgA (c:ZS):Qz:=J7 (Qso c)
theorem QpQ (lf:Lf)(x:Int)(z:LI×LI)(y:Int):dsE lf x z y=if lft lf y=true then bwE x z y else z:=by
 unfold dsE bwE;by_cases h:lft lf y=true <;> by_cases E:O7 z.1 y.toNat<0 <;> simp[h,E]
structure DsI (n:Nat)(z:LI×LI):Prop where
 ok:QlF n z.1 z.2
 cnt:neg z.1+z.2.length=n
 s0:Qqj z.1 z.2
theorem DsI.le {z:LI×LI}(h:DsI n z):z.2.length<=n:=by have:=h.cnt;omega
theorem QkI {lf:Lf}{x y:Int}{z:LI×LI}(h:DsI n z)(hx:0<=x/\x<(n:Int))(E:0<=O7 z.1 x.toNat)(G:0<=y/\y<(n:Int)):
  DsI n (dsE lf x z y)/\0<=O7 (dsE lf x z y).1 x.toNat:=by
 rw[QpQ];split
 ·obtain⟨I,T,J⟩:=Qqa h.ok hx E G;exact⟨⟨I,oo h.cnt,Qle h.ok E G h.s0⟩,J⟩
 exact⟨h,E⟩
theorem Qnx (lf:Lf)(x:Int)(z:LI×LI)(y:Int):∃r,(dsE lf x z y).2=z.2++r:=by
 unfold dsE;split
 ·exact⟨[y],O⟩
 exact⟨[],od⟩
theorem Qnw {n:Nat}{lf:Lf}{x:Int}(hx:0<=x/\x<(n:Int)):∀(l:LI) (z:LI×LI),DsI n z->0<=O7 z.1 x.toNat->(∀y∈l,0<=y/\y<(n:Int)) ->
  DsI n (l.foldl (dsE lf x) z)/\∃r,(l.foldl (dsE lf x) z).2=z.2++r
 | [],z,h,_,_=>⟨h,[],od⟩
 | y::l,z,h,E,hl=>by
  obtain⟨G,I⟩:=QkI (lf:=lf) h hx E (hl y Lh);obtain⟨J,r2,T⟩:=Qnw hx l _ G I (λy U=>hl y (Lj _ U));obtain⟨V,Y⟩:=Qnx lf x z y;exact⟨J,V++r2,by rw[LQ,T,Y,LA]⟩
theorem QkH {lf:Lf}{f:Nat}{z:LI×LI}(h:¬i<z.2.length):dsL es lf f i z=z:=by
 cases f with
 | zero=>rfl
 | succ f=>rw[dsL,OU h]
theorem QgG {x:Int}(E:0<=x):(zh n l).set x.toNat 0=zh n (l++[x]):=by
 apply L3
 ·simp[zh]
 intro i G I;rw[M6];by_cases e:x.toNat=i
 ·have:(i:Int)=x:=oa
  rw[OV e];simp[zh,this]
 have:(i:Int)≠x:=oa
 rw[OU e];simp[zh,this]
theorem Qdd {lf:Lf}(G:∀x∈a.mr,0<=x)(k:Nat):(a.mr.take k).foldl (ds1 lf) (oG a.st.toNat (-1),[])=(zh a.st.toNat ((a.mr.take k).filter (lft lf)),(a.mr.take k).filter (lft lf)):=by
 induction k with
 | zero =>
  simp only[List.take_zero,List.foldl_nil,List.filter_nil];congr 1;apply L3
  ·simp[zh]
  intro i I J;simp[zh]
 | succ k ih =>
  by_cases E:k<a.mr.length
  ·rw[Ll E,Mn,ih,LT];simp only[List.foldl_cons,List.foldl_nil,ds1];by_cases hl:lft lf (a.mr[k]'E)=true
   ·rw[OV hl,QgG (G _ (Lm E))];simp[hl]
   rw[OU hl];simp[hl]
  have e:a.mr.take (k+1)=a.mr.take k:=by rw[Lr oa,Lr oa]
  rw[e];exact ih
theorem QpS {lf:Lf}(E:∀x∈a.mr,0<=x):ds0 a lf=(zh a.st.toNat (a.mr.filter (lft lf)),a.mr.filter (lft lf)):=by
 have:=Qdd (lf:=lf) E a.mr.length;rw[OI]at this;exact this
theorem QmI (l:LI)(G:l.Nodup)(hb:∀x∈l,0<=x/\x<(n:Int)):neg (zh n l)+l.length=n:=by
 have key:∀k,k<=l.length->neg (zh n (l.take k))+k=n:=by
  intro k;induction k with
  | zero =>
   intro _;have e:zh n (l.take 0)=oG n (-1):=by
    apply L3
    ·simp[zh]
    intro i I Y;simp[zh]
   rw[e];unfold neg;simp
  | succ k ih =>
   intro hk;have I:=ih oa;have hx:=hb _ (Lm (show k<l.length by omega));rw[Ll (show k<l.length by omega),<-QgG hx.1];have J:(l[k]'oa).toNat<(zh n (l.take k)).length:=by rw[UZ];omega
   have ha:=UB (zh n (l.take k)) (l[k]'oa).toNat 0 J (by
    have e:(((l[k]'oa).toNat:Nat):Int)=l[k]'oa:=oa
    have T:(l[k]'oa)∉l.take k:=λh=>by
     obtain⟨j,U,E⟩:=LR h;rw[M9]at E;have V:j<k:=by simp at U;omega
     have:=(Mg.1 G) j k oa oa V;exact this E
    simp[zh,e,T]) (MC _)
   omega
 have:=key l.length (Lp _)
 rwa [OI]at this
theorem QpR {lf:Lf}(E:QS a)(G:a.st=(n:Int)):DsI n (ds0 a lf):=by
 have hb:∀x∈a.mr.filter (lft lf),0<=x/\x<(n:Int):=λx hx=>by rw[<-G];exact E.mr x (LJ.1 hx).1
 have e:a.st.toNat=n:=oa
 rw[QpS (λx hx=>(E.mr x hx).1),e];refine⟨Qqb hb,QmI _ ((E.mri.imp (λh=>oa)).filter _) hb,λx hx=>?_⟩;rw[QnN (hb x hx) hx];exact MC _
def VH (l:Lf):Nat:=l.countP (· == true)
theorem Qgz (l:Lf):VH l<=l.length:=List.countP_le_length
theorem Qgw (l:Lf)(s:Int):(cut l s).length=l.length:=by simp[cut]
theorem UV:∀(xs:LI) (l:Lf),(xs.foldl cut l).length=l.length
 | [],_=>rfl
 | x::xs,l=>by rw[LQ,UV xs,Qgw]
theorem Qgx:∀(l:Lf) (i:Nat),VH (l.set i false)+(if l.getD i false=true then 1 else 0)=VH l
 | [],i=>by simp[VH]
 | b::l,0=>by cases b <;> simp[VH]
 | b::l,i+1=>by
  have ih:=Qgx l i;unfold VH at *;simp only[List.set_cons_succ,List.countP_cons,List.getD_cons_succ];omega
theorem Qgy (l:Lf)(s:Int):VH (cut l s)+(if lft l s=true then 1 else 0)=VH l:=Qgx l s.toNat
theorem Qdf:∀(xs:LI) (l:Lf),VH (xs.foldl cut l)<=VH l
 | [],_=>Lp _
 | x::xs,l=>by
  have E:=Qdf xs (cut l x);have G:=Qgy l x;rw[LQ];omega
theorem QkT {xs:LI}{l:Lf}(h:0<xs.length)(E:∀x∈xs,lft l x=true):VH (xs.foldl cut l)<VH l:=by
 cases xs with
 | nil=>simp at h
 | cons x xs =>
  have I:=Qdf xs (cut l x);have G:=Qgy l x;rw[OV (E x Lh)]at G;rw[LQ];omega
def Qly (a:Qz)(lf:Lf)(out:xx):Prop:=∀p∈out,lft lf p.1=true/\∃e∈a.ed,e.1=p.1/\e.2.1=p.2
theorem QmO {lf:Lf}{out:xx}{e:Ed}(h:Qly a lf out)(G:e∈a.ed):Qly a lf (JO ul lf out e)/\(JO ul lf out e).length<=out.length+1:=by
 unfold JO;split
 ·exact⟨h,oa⟩
 rename_i hc;split
 ·exact⟨h,oa⟩
 refine⟨λp E=>?_,od⟩;simp only[oW,oF]at E;rcases E with E|rfl
 ·exact h p E
 exact⟨by cases hl:lft lf e.1 with|true=>rfl|false=>exact OX (.inl hl) hc,e,G,rfl,rfl⟩
theorem ym {a:Qz}{ul:LI}{lf:Lf}:∀(l:List Ed) (out:xx),(∀e∈l,e∈a.ed)->Qly a lf out->Qly a lf (l.foldl (JO ul lf) out)/\(l.foldl (JO ul lf) out).length<=out.length+l.length
 | [],out,_,h=>⟨h,od⟩
 | e::l,out,hl,h=>by
  obtain⟨E,J⟩:=QmO (ul:=ul) h (hl e Lh);obtain⟨G,T⟩:=ym l _ (λe I=>hl e (Lj _ I)) E;exact⟨G,by rw[LQ,LP];omega⟩
theorem Qbb (a:Qz)(ul:LI)(lf:Lf):Qly a lf (lost a ul lf)/\(lost a ul lf).length<=a.ed.length:=by
 have:=ym (ul:=ul) (lf:=lf) a.ed [] (λ_ h=>h) (λp E=>by cases E);unfold lost;simpa using this
theorem U0 (lf:Lf):∀(l:LI) (i:Nat),(∀x∈VI lf i l,lft lf x=true/\(i:Int)<=x/\x<(i:Int)+l.length)/\(VI lf i l).length<=l.length
 | [],i=>⟨λx hx=>(by cases hx),Lp _⟩
 | d::l,i=>by
  obtain⟨E,G⟩:=U0 lf l (i+1);unfold VI;split
  ·rename_i hc;refine⟨λx hx=>?_,by simp;omega⟩;rcases Lk.1 hx with rfl|hx
   ·exact⟨by unfold lft;simpa using hc.1,MC _,by simp;omega⟩
   have:=E x hx;exact⟨this.1,oa,by simp only[oQ];omega⟩
  refine⟨λx hx=>?_,by simp;omega⟩;have:=E x hx;exact⟨this.1,oa,by simp only[oQ];omega⟩
theorem Qjy {lf:Lf}(x:Int)(hx:x∈nxs a ul lf):lft lf x=true:=by
 unfold nxs at hx;split at hx
 ·obtain⟨p,E,rfl⟩:=Lx.1 hx;exact((Qbb a ul lf).1 p E).1
 exact((U0 lf (dsts a lf) 0).1 x hx).1
theorem Qg6 {f:Nat}{lf:Lf}(h:(nxs a ul lf).length=0):VU a ul f lf=lf:=by
 cases f with
 | zero=>rfl
 | succ f=>rw[VU,OV h]
theorem jT {f:Nat}{lf:Lf}(h:(nxs a ul lf).length≠0):VU a ul (f+1) lf=VU a ul f ((nxs a ul lf).foldl cut lf):=by rw[VU,OU h]
theorem QcG {lf:Lf}(h:(nxs a ul lf).length≠0):VH ((nxs a ul lf).foldl cut lf)<VH lf:=QkT oa (λx hx=>Qjy x hx)
theorem Kg (h:QS a)(lf:Lf):QS (rstr a lf):=
 ⟨h.al,h.ali,h.st0,h.st1,h.mr,h.mri,λe E=>h.ed e (LJ.1 E).1,h.edi.filter _⟩
structure PI (w0:O2)(b4 b7 b10 b11 bS n:Nat)(gc:LV)(pf:O3)(bi i:Nat)(vs:O3)(st:List Ed)(W:O2):Prop where
 stp:sW w0 W
 B4:QK ↑W b4 304 gc
 B7:QK ↑W b7 275 [pf]
 B10:QK ↑W b10 356 [vs]
 B11:QK ↑W b11 301 [sL bS n n]
 BS:QK ↑W bS 4 ((flg n (stS st)).map Value.bool)
 BI:QK ↑W bi 3 [sS i]
 R:Yd 355 ↑w0 W vs st
 ne:∀b∈ob vs,b≠b4/\b≠b7/\b≠b10/\b≠b11/\b≠bS/\b≠bi
theorem PI.I {G:O2}{I J b10 b11 bS n:Nat}{gc:LV}{pf:O3}{bi i:Nat}{vs:O3}{st:List Ed}{W W':O2}(h:PI G I J b10 b11 bS n gc pf bi i vs st W)(E:sW W W'):PI G I J b10 b11 bS n gc pf bi i vs st W' :=
 ⟨h.stp.D E,h.B4.I E,h.B7.I E,h.B10.I E,h.B11.I E,h.BS.I E,h.BI.I E,Qm h.R E,h.ne⟩
theorem PI.stb {G:O2}{I J b10 b11 bS:Nat}{gc:LV}{pf:O3}{bi:Nat}{st:List Ed}(T:↑G<=B):Ye B (λW=>PI G I J b10 b11 bS n gc pf bi i vs st W):=λW W' X h E hX =>
 ⟨Ye.J T W W' X h.stp E hX,Ye.blk W W' X h.B4 E hX,Ye.blk W W' X h.B7 E hX,Ye.blk W W' X h.B10 E hX,Ye.blk W W' X h.B11 E hX,Ye.blk W W' X h.BS E hX,Ye.blk W W' X h.BI E hX,Ye.row W W' X h.R E hX,h.ne⟩
def KN (lo hi:Nat)(ds:LN)(W:O2):Prop:=ds.Nodup/\∀D∈ds,lo<=D/\D<hi/\W.heap[D]?=some (.deferred (some []))
theorem KN.J {lo hi:Nat}{W:O2}{X:LN}(h:KN lo hi ds W)(I:O6 X W W')(hX:∀b∈X,∃o:Obj,W.heap[b]?=some o/\o.isCells=true):KN lo hi ds W':=by
 refine⟨h.1,λD hD=>⟨(h.2 D hD).1,(h.2 D hD).2.1,?_⟩⟩;have E:=(h.2 D hD).2.2;refine(I.block D (LO.1 E).1 (λhx=>?_)).D E;obtain⟨o,G,J⟩:=hX D hx;rw[E]at G;cases G;cases J
theorem KN.I {lo hi:Nat}{W:O2}(h:KN lo hi ds W)(E:sW W W'):KN lo hi ds W':=h.J E (λ_ hb=>by cases hb)
theorem KN.blk {lo hi:Nat}{W:O2}{b:Nat}(h:KN lo hi ds W)(E:O6 [b] W W')(hb:QK ↑W b T cs):KN lo hi ds W' :=
 h.J E (λc hc=>by
  have e:c=b:=by simpa using hc
  subst e;exact hb.cells)
theorem KN.up {lo hi hi':Nat}{W:O2}(h:KN lo hi ds W)(E:hi<=hi'):KN lo hi' ds W:=⟨h.1,λD hD=>⟨(h.2 D hD).1,oo (h.2 D hD).2.1,(h.2 D hD).2.2⟩⟩
theorem KN.cons {lo hi:Nat}{W:O2}{D:Nat}(h:KN lo hi ds W)(hl:lo<=hi)(hD:hi<=D)(hd:W.heap[D]?=some (.deferred (some []))):KN lo ↑W (D::ds) W:=by
 have G:=(LO.1 hd).1;refine⟨List.nodup_cons.2 ⟨λI=>oo (h.2 D I).2.1,h.1⟩,λE hE=>?_⟩;rcases Lk.1 hE with rfl|hE
 ·exact⟨oa,G,hd⟩
 have:=h.2 E hE;exact⟨this.1,(LO.1 this.2.2).1,this.2.2⟩
theorem KN.stb {lo hi:Nat}(I:hi<=B):Ye B (λW=>KN lo hi ds W):=λW W' X h G hX=>by
 refine⟨h.1,λD hD=>⟨(h.2 D hD).1,(h.2 D hD).2.1,?_⟩⟩;have E:=(h.2 D hD).2.2;refine(G.block D (LO.1 E).1 (λhx=>?_)).D E;have:=(hX D hx).1;have:=(h.2 D hD).2.1;omega
theorem KN.own {lo hi:Nat}{W:O2}{e:Nat}{v:O3}(h:KN lo hi ds W)(G:W.ownsRow base e sz v n cs):∀b∈ob v,b∉ds:=λb hb hd=>by
 obtain⟨o,E,I⟩:=Go.Lg.Q7 G b hb;rw[(h.2 b hd).2.2]at E;cases E;cases I
theorem KN.rst {lo hi:Nat}{W:O2}(h:KN lo hi ds W)(E:X0 B L W W'):KN lo hi ds W':=⟨h.1,λD hD=>⟨(h.2 D hD).1,(h.2 D hD).2.1,E.other D _ (h.2 D hD).2.2 O⟩⟩
theorem PI.add {I:O2}{J b10 b11 bS:Nat}{gc:LV}{pf:O3}{bi:Nat}{v:O3}{st:List Ed}{x:Ed}{W W1 W2 W3 W4:O2}{L0:LN}(h:PI I J U b10 b11 bS n gc pf bi i v st W)
  (hd:bS≠J/\bS≠U/\bS≠b10/\bS≠b11/\bS≠bi/\b10≠J/\b10≠U/\b10≠b11/\b10≠bi) (hB:B<=↑W) (ha:↑I<=bS) (he:↑I<=b10) (hk:J<↑W/\U<↑W/\b11<W.heap.size/\bi<↑W)
  (V:O6 [bS] W W1) (hS:QK ↑W1 bS 4 ((flg n (stS (st++[x]))).map Value.bool)) (G:sW W1 W2) (Y:O6 (ob v) W2 W3) (hR:Yd 355 ↑I W3 v' (st++[x])) (hn:∀b∈ob v',b∈ob v\/↑W2<=b)
  (h4:O6 [b10] W3 W4) (hf:QK ↑W4 b10 356 [v']) (hv:∀b∈ob v,b∈L0\/B<=b):
  PI I J U b10 b11 bS n gc pf bi i v' (st++[x]) W4/\X0 B (bS::b10::L0) W W4/\(∀b∈ob v',b∈L0\/B<=b):=by
 have ho:=V.size;have hp:=G.size;have hq:=Y.size;have hr:=h.BS.lt;have hs:=h.B10.lt;have key:∀b T cs,QK ↑W b T cs->b≠bS->b∉ob v->b≠b10->QK ↑W4 b T cs:=λb T cs hb e1 e2 e3=>(((hb.J V (ou e1)).I G).J Y e2).J h4 (ou e3);have E:=h.ne;have nin:∀b,(∀c∈ob v,c≠b)->b∉ob v:=λb hb hm=>hb b hm O;have hg:b10∉ob v:=nin _ λc hc=>(E c hc).2.2.1;have hh:bS∉ob v:=nin _ λc hc=>(E c hc).2.2.2.2.1;have hj:W2.ownsRow ↑I 355 3 v st.length (st.flatMap Qp):=Qm (Qg h.R V (λb hb=>by have:=(E b hb).2.2.2.2.1;simpa using this)) G;have hge:∀b∈ob v',b≠J/\b≠U/\b≠b10/\b≠b11/\b≠bS/\b≠bi:=λb hb=>by
  rcases hn b hb with hb|hb
  ·exact E b hb
  omega
 refine⟨⟨?_,key _ _ _ h.B4 hd.1.symm (nin _ λc hc=>(E c hc).1) hd.2.2.2.2.2.1.symm,key _ _ _ h.B7 hd.2.1.symm (nin _ λc hc=>(E c hc).2.1) hd.2.2.2.2.2.2.1.symm,hf,
  key _ _ _ h.B11 hd.2.2.2.1.symm (nin _ λc hc=>(E c hc).2.2.2.1) hd.2.2.2.2.2.2.2.1.symm,((hS.I G).J Y hh).J h4 (by have:=hd.2.2.1;simpa using this),key _ _ _ h.BI hd.2.2.2.2.1.symm (nin _ λc hc=>(E c hc).2.2.2.2.2) hd.2.2.2.2.2.2.2.2.symm,
  Qg hR h4 (λb hb=>by have:=(hge b hb).2.2.1;simpa using this),hge⟩,?_,λb hb=>?_⟩
 ·exact(((h.stp.Q V ha).D G).O Y (λb hb=>.inr (Qi h.R b hb).1)).Q h4 he
 ·have r1:X0 B (bS::b10::L0) W W1:=X0.blk V hB h.BS (.inl od);have r2:X0 B (bS::b10::L0) W1 W2:=X0.I G oa;have r3:X0 B (bS::b10::L0) W2 W3:=X0.J Y oa (λb hb=>⟨(hv b hb).imp (λh=>by simp[h]) id,Go.Lg.Q7 hj b hb⟩);have r4:X0 B (bS::b10::L0) W3 W4:=X0.blk h4 oa ((((h.B10.J V (by have:=hd.2.2.1;simpa using this.symm)).I G).J Y hg)) (.inl od);exact((r1.D r2).D r3).D r4
 rcases hn b hb with hb|hb
 ·exact hv b hb
 exact .inr oa
theorem yG {x:Int}(G:0<=x)(I:x<(n:Int)):((flg n l).map Value.bool)[0+x.toNat*1]?=some (.bool (decide (x∈l))):=by
 have E:x.toNat<(flg n l).length:=by rw[UP];omega
 have e:((x.toNat:Nat):Int)=x:=oa
 simp only[oX,OR,List.getElem?_map,oU E,OD,Qbs,e]
theorem Qmq {bF from0 gw:Nat}{fw fp:Func}[Fu sV gw fw][Fu sV gp fp]{cw cp:LV}{wt:Int->Bool}{pm:Ed->Bool}
  (hA:Zr [] ↑w va vm ve a) (hn:a.st=(n:Int)) (kq:n<=4096) (kr:∀e∈a.ed,0<=e.2.2/\e.2.2<(n:Int)) (kt:a.ed.Pairwise λx y=>x.1<=y.1) (ku:QK ↑w bF 3 ((gA (n+1) (fS a.ed)).map (Value.int .i64))) (hf:from0<n)
  (kv:∀(s:Int) (w':O2),0<=s->s<(n:Int)->sW w w'->QU sV gw (sS s::cw) w' λr hR=>r=.bool (wt s)/\sW w' hR)
  (kw:∀(e:Ed) (w':O2),e∈a.ed->sW w w'->QU sV gp (sT (Qp e)::cp) w' λr hR=>r=.bool (pm e)/\sW w' hR):
  QU sV 199 [.agg #[va,sS a.st,vm,ve,sL bF (n+1) (n+1)],sS from0,.func (.func gw) #[] cw.toArray,.func (.func gp) #[] cp.toArray] w λr w' =>
   sW w w'/\∃v,r=.tuple #[v,.bool (pth wt pm a.ed n from0).2]/\Qh 3 ↑w w' v (pth wt pm a.ed n from0).1:=by
 refine QU.of_G 3 func199 O ntmps199 results199 od ?_;refine QQ<|Qx oh oh<|Zf [va,sS a.st,vm,ve,sL bF (n+1) (n+1)] λb4 w1 kx z1 hS=>Zf [.func (.func gp) #[] cp.toArray] λb7 w2 kz z2 gl=>x Qe<|Qb<|QQ<|Qx oh oh<|Qa<|x (QD ⟨O,O,O,Z⟩)<|Qo<|Q8 [[sS from0,sS (-1),sS (-1)]] λbL w3 gm z3 gn =>
  QT [nS] λb10 w4 hT z4 gq=>Qo<|Qv (u:=sL bL 1 1) gq O O og O λw5 hC hE=>xe ?_
 have z5:=hS.lt;have hl7:=gl.lt;have hlL:=gn.lt;have hl10:=gq.lt;have hz5:=hC.size;have hU:sW w1 w5:=((kz.D gm).D hT).Q hC oa;have k0:sW w2 w5:=(gm.D hT).Q hC oa;have k4:sW w3 w5:=hT.Q hC oa;refine QQ<|Qx oh oh<|Q9 O<|Qs O (hS.I hU) O O<|Qo<|Y2 (n:=n) (OW sS hn) (OW sS hn) oa λbS w6 k5 hbS gr=>QT [nS] λb11 w7 gs hb11 gt =>
  Qo<|Qv (u:=sL bS n n) gt O O og O λw8 hV gu=>xe ?_
 have hlS:=gr.lt;have hl11:=gt.lt;have hz8:=hV.size;have h5:sW w5 w8:=(k5.D gs).Q hV oa;have k6:sW w6 w8:=gs.Q hV oa;have k9:QK ↑w6 bS 4 ((flg n []).map Value.bool):=by
  have e:(oG n (Value.bool false).cells.toList).flatten=(flg n []).map Value.bool:=by
   simp only[flg,oH,decide_false,List.map_map];apply L3
   ·simp[Value.cells]
   intro i h1 h2;simp[Value.cells]
  rw[<-e];exact gr
 refine QQ<|Qx oh oh<|ZD gu O O<|Qa<|x (QE (i:=from0) O O hf)<|Qo<|Qv (j:=0+from0*1) (u:=.bool true) (k9.I k6) O O (by rw[Ln,UP];omega) O λw9 ho ma=>xe ?_;have hz9:=ho.size;have mc:QK ↑w9 bS 4 ((flg n [(from0:Int)]).map Value.bool):=by
  have e1:=zG (n:=n) (l:=[]) (x:=(from0:Int)) oa;rw[Mz]at e1;rw[<-e1,NC];simpa using ma
 refine QQ<|QQ<|Qx oh oh<|QT [sS 0] λgv w10 mf mg gx=>Qo<|Qv (u:=sS 0) gx O O og O λhF gy mh=>xe ?_;have hl12:=gx.lt;have hz11:=gy.size;have hq:sW w9 hF:=mf.Q gy mg;have mj:sW w hF:=(((kx.D hU).D h5).Q ho oa).D hq;have mo:PI w b4 b7 b10 b11 bS n [va,sS a.st,vm,ve,sL bF (n+1) (n+1)] (.func (.func gp) #[] cp.toArray) gv 0 (sL bL 1 1) [((from0:Int),-1,-1)] hF:=by
  refine⟨mj,(((hS.I hU).I h5).J ho (by simp;omega)).I hq,(((gl.I k0).I h5).J ho (by simp;omega)).I hq,((hE.I h5).J ho (by simp;omega)).I hq,
   (gu.J ho (by simp;omega)).I hq,mc.I hq,mh,?_,λb hb=>?_⟩
  ·have mq:=(((gn.I k4).I h5).J ho (by simp;omega)).I hq;exact mq.own (n:=1) (sz:=3) O oa oa
  have e:b=bL:=by simpa[ob]using hb
  subst e;omega
 refine ZM<|KL (α:=Nat×Nat×Nat×O3×List Ed) [(8,9),(12,15),(26,68),(70,94)] (λz=>[(12,.pointer (some ⟨z.2.1,0,none⟩))])
  (λz ds W=>PI w b4 b7 b10 b11 bS n [va,sS a.st,vm,ve,sL bF (n+1) (n+1)] (.func (.func gp) #[] cp.toArray) z.2.1 z.1 z.2.2.2.1 z.2.2.2.2 W/\Qfa n z.2.2.2.2/\KN ↑w ↑W ds W/\hF.heap.size<=↑W /\
   (z.2.1≠b4/\z.2.1≠b7/\z.2.1≠b10/\z.2.1≠b11/\z.2.1≠bS)/\↑w<=z.2.1/\z.1<=z.2.2.2.2.length/\n+1<=z.2.2.1+z.1/\QaX wt pm a.ed z.2.2.1 z.1 z.2.2.2.2=pth wt pm a.ed n from0)
  (λz=>n+1 - z.1) oh (0,gv,n+1,sL bL 1 1,[((from0:Int),-1,-1)]) La
  ⟨mo,QoW hf,⟨Mx,λ_ h=>by cases h⟩,Lp _,oe,oe,od,od,rfl⟩ ?_
 rintro⟨i,bi,fu,vs,st⟩ g ds hG ⟨hP,hok,h6,hz12,ms,mt,mu,mv,T⟩;simp only[]at hP hok h6 ms mt mu mv T;have hstl:=hok.le;refine QQ<|QQ<|Qx oh oh<|ZD hP.BI O O<|ZD hP.B10 O O<|QG (QN (L:=[]) hP.R oa od) rfl<|ZW rfl rfl<|xe<|U3 rfl (λhW=>?_) (λhW=>?_)
 ·refine JL ?_;have mw:¬i<st.length:=by have my:¬(i:Int)<(st.length:Int):=hW;omega
  rw[Qha mw]at T;refine QQ<|Qx oh oh<|x Qe<|Qb<|J4 ⟨λD hD=>(h6.2 D hD).2.2,h6.1,[nS,.bool false],λw' hH=>⟨ov,hP.stp.O hH (λD hD=>.inr (h6.2 D hD).1),_,by rw[<-T];rfl,?_⟩⟩;rw[<-T];exact QL _ _ _ _
 have hr:i<st.length:=by have my:(i:Int)<(st.length:Int):=hW;omega
 refine Exists.elim (Np (show fu≠0 by omega)) λmz hX=>?_;subst hX;rw[QaX,OV hr]at T;have hY:=hok.rg _ (QpH hr);have hge:=Qkd hr;refine Zd (gE st i) λs0 hs0=>?_;rw[hs0]at T hY hge;refine Yb<|QQ<|ZM<|QQ<|QQ<|Qx oh oh<|Qa<|ZD hP.B10 O O<|ZD hP.BI O O<|xie (i:=i) (QN (L:=[]) hP.R oa od) rfl rfl hr λa35 gz=>?_;rw[hge]at gz;refine x (ZF O)<|x (Qq (gz.fld 0 (sS s0.1) O) O)<|Qo<|xc (first:=[]) (capt:=cw) O<|(kv s0.1 _ hY.1 hY.2 hP.stp).S ?_;rintro r13 hj ⟨rfl,hZ⟩;have hz13:=hZ.size;have hk:=hP.I hZ;have g0:=h6.I hZ;refine xe<|KM rfl (λga=>?_) (λga=>?_)
 ·rw[OV ga]at T;have m0:KN ↑w ↑hG ds hj:=g0;refine QQ<|Qx oh oh<|Qb<|QQ<|QQ<|Qx oh oh<|ZD hk.BI O O<|Qb<|ZM<|KL (α:=Nat×Nat×O3×LI) [(13,14),(40,58)] (λz=>[(13,z.2.2.1),(14,sS z.2.1)])
   (λz g2 W=>g2=ds/\sW hj W/\KN ↑w ↑hG ds W/\z.2.1<z.1/\z.2.1<st.length/\Qh 3 ↑hj W z.2.2.1 z.2.2.2/\z.2.2.2.length+z.1<=i+1/\z.2.2.2++wrd st z.1 z.2.1=wrd st (i+1) i)
   (λz=>z.1) oh (i+1,i,nS,[]) ov ⟨O,O6.Y _ _,m0,od,hr,QL _ _ _ _,od,rfl⟩ ?_
  rintro⟨f,k,v,acc⟩ g g2 hg ⟨rfl,h7,hI,m1,hz,hu,m2,hv⟩;simp only[]at m1 hz hu m2 hv;refine Exists.elim (Np (show f≠0 by omega)) λf' hX=>?_;subst hX;rw[wrd]at hv;have hJ:=Qkd hz;have m3:=hok.par k hz;refine Zd (gE st k) λs1 m4=>?_;rw[m4]at hv hJ m3;have J:=hk.I h7;have m5:=h7.size;refine QQ<|QQ<|Qx oh oh<|ZD J.B10 O O<|Qa<|xie (i:=k) (QN (L:=[]) J.R oa od) rfl rfl hz λa42 g3=>?_;rw[hJ]at g3;refine x (ZF O)<|x (Qq (g3.fld 1 (sS s1.2.1) O) O)<|x (Yf O O)<|xe<|U3 O (λgb=>?_) (λgb=>?_)
  ·refine JL ?_;rw[OU gb,LH]at hv;refine QQ<|Qx oh oh<|Qa<|KX<|(jh hu oa).S ?_;rintro r15 g4 ⟨g5,Y⟩;have hK:=hI.J Y (Go.Lg.Q7 hu);refine xe<|QQ<|Qx oh oh<|Qa<|x Qe<|Qb<|J4 ⟨λD hD=>(hK.2 D hD).2.2,hK.1,[v,.bool true],λw' hH=>⟨ov,?_,v,by rw[<-T];rfl,?_⟩⟩
   ·exact((J.stp).O Y (λb hb=>.inr (oo (Qi hu b hb).1))).O hH (λD hD=>.inr (hK.2 D hD).1)
   rw[<-T,<-hv];exact Za (Qg g5 hH (hK.own g5)) oa
  rw[OV gb]at hv;refine Yb<|QQ<|ZM<|Qx oh oh<|Qa<|ZD J.B10 O O<|Qa<|xie (i:=k) (QN (L:=[]) J.R oa od) rfl rfl hz λa54 g6=>?_;rw[hJ]at g6;refine x (ZF O)<|x (Qq (g6.fld 2 (sS s1.2.2) O) O)<|Qo<|Q8 [[sS s1.2.2]] λb57 h8 I hb57 m6=>Qo<|Q2 (m:=1) (news:=[sS s1.2.2]) (Qm hu I) O O O (m6.at (L:=[]) od) om oa (oo I.size) λm7 g7 m8 hw hn17 =>
   Qb ?_
  have g8:sW hj g7:=(h7.D I).O hw (λb hb=>.inr (Qi hu b hb).1);have g9:=hk.I g8;have m9:=(hI.I I).J hw (Go.Lg.Q7 (Qm hu I));refine Qx oh oh<|ZD g9.B10 O O<|Qa<|xie (i:=k) (QN (L:=[]) g9.R oa od) rfl rfl hz λa48 ka=>?_;rw[hJ]at ka;refine x (ZF O)<|x (Qq (ka.fld 1 (sS s1.2.1) O) O)<|Qb ?_;have pc:s1.2.1=(s1.2.1.toNat:Int):=oa
  refine⟨(f',s1.2.1.toNat,m7,acc++[s1.2.2]),oe,⟨O,OW sS pc,Z⟩,O,g8,m9,oe,oe,Qh.snoc m8,?_,?_⟩
  ·simp only[oM,oL];omega
  rw[LA];exact hv
 rw[OU (by rw[ga];decide)]at T;have kb:s0.1=(s0.1.toNat:Int):=oa
 refine Yb ?_;have pd:sW hj { hj with drawn:=hj.drawn+1 }:=O6.X _ _
 refine QQ<|Ub (sW hj) [oz 0,oz 1,oz 2,oz 3,oz 4,oz 5,oA 6] mixed oh oh oc (O6.X _ _) ?_;refine pq (λ_ hc=>Zi (hk.B4.I hc) O O)<|pq (λ_ hc=>Qk (hk.B10.I hc) O O)<|pq (λ_ hc=>Qk (hk.BI.I hc) O O) <|
  pie (i:=i) O (QN (L:=[]) hk.R oa od) rfl rfl hr λa65 kc=>?_
 rw[hge]at kc;refine p (λ_=>ZF O)<|pq (λ_ hc=>Qq ((kc.fld 0 (sS s0.1) O).I hc) O)<|pk<|xf<|(QkE (va:=va) (vm:=vm) (ve:=ve) (vf:=sL bF (n+1) (n+1)) (st:=a.st) (s:=s0.1)).S ?_;rintro r18 hg ⟨h7,b1,b2,rfl,hb1,hb2,pf,ke⟩;have hL:=pd.D h7;refine⟨hL,pe ?_⟩;have J:=hk.I hL;have hI:KN ↑w ↑hG ds hg:=g0.I hL;have m5:=hL.size;have pg:U4 (bS::b10::ob vs) ↑hg ve a.ed:=by
  refine(hA.ed.up (L':=bS::b10::ob vs) (λb hb=>.inr ?_)).J J.stp (λ_ hb=>by cases hb);rcases Lk.1 hb with rfl|hb
  ·omega
  rcases Lk.1 hb with rfl|hb
  ·omega
  exact(Qi J.R b hb).1
 rw[kb]at ke;have ph:w.heap.size<=hg.heap.size:=J.stp.size;have gc:bS≠b4/\bS≠b7/\bS≠b10/\bS≠b11/\bS≠bi/\b10≠b4/\b10≠b7/\b10≠b11/\b10≠bi:=oa
 have hqS:=J.BS.lt;have hqi:=J.BI.lt;refine ZM<|QgS (α:={ e:Ed // e∈a.ed }) (bS::b10::ob vs) oa (capt:=[sP b1,sP b2]) O (enc:=λx=>sT (Qp x.1)) og
  (QeM pf ke (ku.I J.stp) pg kt oa kq)
  (λpre W=>∃v,PI w b4 b7 b10 b11 bS n [va,sS a.st,vm,ve,sL bF (n+1) (n+1)] (.func (.func gp) #[] cp.toArray) bi i v ((pre.map (·.1)).foldl (KK pm i) st) W/\Qfa n ((pre.map (·.1)).foldl (KK pm i) st)/\i<((pre.map (·.1)).foldl (KK pm i) st).length /\
   (∀b∈ob v,b∈ob vs\/↑hg<=b)/\KN ↑w ↑hG ds W/\hg.heap.size<=↑W)
  (λpre=>Ye.ex λv=>(PI.stb ph).and ((Ye.pure _).and ((Ye.pure _).and ((Ye.pure _).and ((KN.stb oa).and (λW W' X h hs _=>Lz h hs.size))))))
  ⟨vs,J,hok,hr,λb hb=>.inl hb,hI,Lp _⟩
  (λf x f' W=>∃b,f'=upd (upd f 69 (sT (Qp x.1))) 15 (sP b)/\↑hg<=b/\QK ↑W b 179 (Qp x.1))
  (λx f'=>Ye.ex λb=>(Ye.pure _).and ((Ye.pure _).and Ye.blk)) ?_ ?_ ?_
 ·rintro l pre ⟨e,he⟩ W ⟨v,E,U,ha,h0,hy,h3⟩;refine Qx oh oh<|QT [sS 0,sS 0,sS 0] λb15 g4 Y kf h4=>Q5 (Qp e) h4 ox λh8 I pn=>xe ?_;have hM:sW W h8:=Y.Q I kf;have po:=hM.size;exact⟨O,X0.I hM h3,⟨v,E.I hM,U,ha,h0,hy.I hM,oa⟩,b15,O,oa,pn⟩
 ·rintro l pre ⟨e,he⟩ f' W ⟨v,E,U,ha,h0,hy,h3⟩ ⟨b15,rfl,kf,h4⟩ _;have h9:((pre++[(⟨e,he⟩:{ e:Ed // e∈a.ed })]).map (·.1)).foldl (KK pm i) st=KK pm i ((pre.map (·.1)).foldl (KK pm i) st) e:=by rw[Ly,Mn];rfl
  refine Zd ((pre.map (·.1)).foldl (KK pm i) st) λG ge=>?_;rw[ge]at E U ha h9;have hN:=kr e he;have gg:e.2.2=(e.2.2.toNat:Int):=oa
  have gh:=QnW (pm:=pm) U ha hN;have hO:=yG (l:=stS G) hN.1 hN.2;have pp:=U.le;have po:=E.stp.size;refine ZM<|QQ<|Qx oh oh ?_;by_cases hQ:e.2.2∈stS G
  ·rw[OY hQ]at hO;have hB:KK pm i G e=G:=by unfold KK;rw[OU (λh=>h.1 hQ)]
   refine ZD E.B11 O O<|Qs O h4 O O<|x (QE (i:=e.2.2.toNat) O (OW sS gg) oa)<|ZD E.BS O hO<|x (Zj O)<|x VX <|
    ZA<|QC rfl<|xe ?_
   refine J5 O<|Yb ?_;refine⟨X0.refl _ _ _,v,?_⟩;rw[h9,hB];exact⟨E,U,ha,h0,hy,h3⟩
  rw[O0 hQ]at hO;refine ZD E.B11 O O<|Qs O h4 O O<|x (QE (i:=e.2.2.toNat) O (OW sS gg) oa)<|ZD E.BS O hO<|x (Zj O)<|x VX <|
   ZD E.B7 O O<|Q3 h4 O O<|Qo<|xc (first:=[]) (capt:=cp) O<|(kw e _ he E.stp).S ?_
  rintro r19 g4 ⟨rfl,Y⟩;refine QC O<|xe ?_;have hh:=E.I Y;have hz15:=Y.size;refine KM O (λhp=>?_) (λhp=>?_)
  ·have hB:KK pm i G e=G++[(e.2.2,(i:Int),e.2.1)]:=by unfold KK;rw[OV ⟨hQ,hp⟩]
   rw[hB]at h9 gh;have kg:=h4.I Y;refine QQ<|Qx oh oh<|ZD hh.B11 O O<|Qs O kg O O<|x (QE (i:=e.2.2.toNat) O (OW sS gg) oa)<|Qo<|Qv (j:=0+e.2.2.toNat*1) (u:=.bool true) hh.BS O O (by rw[Ln,UP];omega) O λh8 I pt=>xe ?_;have pu:QK ↑h8 bS 4 ((flg n (stS (G++[(e.2.2,(i:Int),e.2.1)]))).map Value.bool):=by
    have e1:=zG (n:=n) (l:=stS G) hN.1;have e2:stS (G++[(e.2.2,(i:Int),e.2.1)])=stS G++[e.2.2]:=by unfold stS;rw[Ly];rfl
    rw[e2,<-e1,NC];simpa using pt
   have hz16:=I.size;have hE:=hh.B10.J I (by have:=gc.2.2.1;simpa using this.symm);have pw:=hh.BI.J I (by have:=gc.2.2.2.2.1;simpa using this.symm);have pz:Yd 355 ↑w h8 v G:=Qg hh.R I (λb hb=>by have:=(hh.ne b hb).2.2.2.2.1;simpa using this);have kh:=kg.J I (by simp;omega);refine Qx oh oh<|ZD hE O O<|Qs O kh O O<|ZD pw O O<|Qs O kh O O<|x (QD ⟨O,O,O,Z⟩) <|
    Qo<|Q8 [[sS e.2.2,sS i,sS e.2.1]] λb92 g7 hw hb92 p0 =>
    Qo<|Q2 (m:=1) (news:=[sS e.2.2,sS i,sS e.2.1]) (Qm pz hw) O O O (p0.at (L:=[]) od) om oa (oo hw.size) λki w18 kj kk p4=>?_
   have p5:b10∉ob v:=λhm=>(hh.ne b10 hm).2.2.1 O;refine Qo<|Qv (u:=ki) ((hE.I hw).J kk p5) O O od (QN (L:=[]) kj oa od).one λp6 p7 p8=>xe ?_;have gi:=hh.add (B:=↑hg) (L0:=ob vs) gc oa oa oa ⟨oa,oa,oa,oa⟩ I pu hw kk (Yd.snoc kj) p4 p7 p8 h0;have gj:X0 ↑hg (bS::b10::ob vs) W p6:=(X0.I Y h3).D gi.2.1;have hzf:=gj.lw.size;refine⟨gj,ki,?_⟩;rw[h9];exact⟨gi.1,gh.1,gh.2,gi.2.2,hy.rst gj,oa⟩
  have hB:KK pm i G e=G:=by unfold KK;rw[OU (λh=>by rw[hp]at h;exact OX h.2 og)]
  refine Yb<|⟨X0.I Y h3,v,?_⟩;rw[h9,hB];exact⟨hh,U,ha,h0,hy.I Y,oa⟩
 rintro D xs W hD p9 ⟨v,E,U,ha,h0,hy,h3⟩ qf;rw[p9,<-kb]at E U ha;refine Zd ((QM a.ed s0.1).foldl (KK pm i) st) λG ge=>?_;rw[ge]at E U ha T;have pp:=U.le;have qj:=hy.cons oa oa qf;refine QQ<|QQ<|Qx oh oh<|ZD E.BI O O<|xe<|Qx oh oh<|QT [sS 0] λbj w20 ql kn q4=>Qo<|Qv (u:=sS i) q4 O O od rfl λw21 q5 ko=>xe ?_;refine Qx oh oh<|ZD ko O O<|QB O O<|Qo<|Qv (u:=sS ((i:Int)+1)) ko O O od rfl λj1 j2 j3=>xe ?_;have gk:sW W j1:=(ql.Q q5 kn).Q j2 kn;have j4:=gk.size;have V:=E.I gk;have za:=(qj.I gk).up j4;have z0:∀b∈ob v,b≠bj:=λb hb e=>oo (QV E.R b hb)
 refine⟨(i+1,bj,mz,v,G),oe,La,⟨V.stp,V.B4,V.B7,V.B10,V.B11,V.BS,j3,V.R,λb hb=>⟨(V.ne b hb).1,(V.ne b hb).2.1,(V.ne b hb).2.2.1,(V.ne b hb).2.2.2.1,(V.ne b hb).2.2.2.2.1,z0 b hb⟩⟩,U,za,oa,?_,oe,ha,oe,T⟩;have t4:=E.B4.lt;have t7:=E.B7.lt;have t10:=E.B10.lt;have t11:=E.B11.lt;have tS:=E.BS.lt;simp only[];omega
open Go.RowKit
def sl (d:xF)(f:Fr):O3:=match d with|some d=>f d|none=>undef
def ow:O3->LN
 | .slice (some a) _ _=>[a.block]
 | .pointer (some a)=>[a.block]
 | .map (some b)=>[b]
 | _=>[]
def Fa (p:Nat->Prop):LN->Prop
 | []=>True
 | i::l=>p i/\Fa p l
theorem Fa.all {p:Nat->Prop}:∀{l:LN},Fa p l->∀i∈l,p i
 | [],_,_,hi=>by cases hi
 | j::l,h,i,hi=>by
  rcases Lk.1 hi with rfl|hi
  ·exact h.1
  exact Fa.all h.2 i hi
theorem Fa.of {p:Nat->Prop}:∀{l:LN},(∀i∈l,p i)->Fa p l
 | [],_=>trivial
 | i::_,h=>⟨h i Lh,Fa.of λj E=>h j (Lj _ E)⟩
def undup:List (Array Bool)->List (Array Bool)->List (Array Bool)
 | [],acc=>acc
 | x::l,acc=>if acc.contains x then undup l acc else undup l (x::acc)
theorem U9 {x:Array Bool}:∀{l acc:List (Array Bool)},(x∈l\/x∈acc)->x∈undup l acc
 | [],acc,h=>h.elim (λh=>by cases h) id
 | y::l,acc,h=>by
  unfold undup;split
  ·rename_i hc;refine U9 ?_;rcases h with h|h
   ·rcases Lk.1 h with e|h
    ·exact .inr (e ▸ List.contains_iff_mem.1 hc)
    exact .inl h
   exact .inr h
  refine U9 ?_;rcases h with h|h
  ·rcases Lk.1 h with e|h
   ·exact .inr (e ▸ Lh)
   exact .inl h
  exact .inr (Lj _ h)
def alv (tk:Nat->LN)(opn:LN)(ls:Array Bool)(j:Nat):Bool:=ls.getD j false && opn.all λk=>!(ls.getD k false && (tk k).contains j)
def yr (all:Array Oper)(dp tk:Nat->LN)(opn fn nb:LN)(rest:xu):Nat->List (Array Bool)->Bool
 | 0,L=>L.all λls=>Xo all rest ls && fn.all λi=>opn.contains i && alv tk opn ls i
 | k+1,L=>(L.all λls=>!(Region.ready .any all ls).isEmpty && (Region.ready .any all ls).all λi=>opn.contains i && ((dp i).all λj=>opn.contains j && alv tk opn ls j) && ((tk i).all λj=>(dp i).contains j) && ((tk i).isEmpty || nb.all λj=>!ls.getD j false)) &&
  yr all dp tk opn fn nb rest k (undup (L.flatMap λls=>(Region.ready .any all ls).map λi=>ls.setIfInBounds i true) [])
def QcC (all:xE)(D:xw):LN->Bool
 | []=>true
 | i::l=>(QR all i).guard.isNone && (match (QR all i).dst with|some d=>J8 D d && l.all (λj=>!((QR all j).dst == some d))|none=>false) && !l.contains i && QcC all D l
theorem KE {all:xE}{D:xw}:∀{l:LN},QcC all D l=true->(∀i∈l,(QR all i).guard=none/\∃d,(QR all i).dst=some d/\J8 D d=true)/\∀i∈l,∀j∈l,i≠j->(QR all i).dst≠(QR all j).dst
 | [],_=>⟨λ_ h=>(by cases h),λ_ h=>(by cases h)⟩
 | i::l,h=>by
  simp only[QcC,oI,Option.isNone_iff_eq_none]at h;obtain⟨⟨⟨V,hd⟩,hc⟩,hl⟩:=h;have ih:=KE hl;cases G:(QR all i).dst with
  | none=>rw[G]at hd;cases hd
  | some d =>
   rw[G]at hd;simp only[oI,Ok,Oe,beq_eq_false_iff_ne,ne_eq]at hd;have I:∀j∈l,(QR all j).dst≠some d:=λj E=>hd.2 j E;refine⟨λj E=>?_,λj E k T U=>?_⟩
   ·rcases Lk.1 E with rfl|E
    ·exact⟨V,d,G,hd.1⟩
    exact ih.1 j E
   rcases Lk.1 E with hj1|hj1
   ·rcases Lk.1 T with hk1|hk1
    ·exact OX (hj1.D hk1.symm) U
    rw[hj1,G];exact λe=>I k hk1 e.symm
   rcases Lk.1 T with hk1|hk1
   ·rw[hk1,G];exact I j hj1
   exact ih.2 j hj1 k hk1 U
def Qgs (all:xE)(dp tk:Nat->LN)(pre:xu)(opn fn nb:LN)(rest:xu)(D:xw):Bool :=
 Region.noSelect all.toArray && (pre.length+(opn.length+rest.length) == all.length) && Jh all.toArray pre (oP all.length false) && QcC all D opn && yr all.toArray dp tk opn fn nb rest opn.length [ZT pre (oP all.length false)]
  && opn.all λi=>!((ZT pre (oP all.length false)).getD i false)
theorem J1 {tk:Nat->LN}{opn:LN}{ls:Array Bool}(hi:i∈opn)(E:i<ls.size)(T:j≠i)(h:alv tk opn (ls.setIfInBounds i true) j=true):alv tk opn ls j=true/\j∉tk i:=by
 unfold alv at *;simp only[oI,Ok,Oe,Bool.and_eq_false_iff]at *;refine⟨⟨by rw[getD_set_ne false (Ne.symm T)]at h;exact h.1,λk G=>?_⟩,λU=>?_⟩
 ·by_cases I:k=i
  ·subst I;refine .inr ((h.2 k G).resolve_left λe=>?_);simp[Array.getD_eq_getD_getElem?,E]at e
  have:=h.2 k G;rw[getD_set_ne false (Ne.symm I)]at this;exact this
 rcases h.2 i hi with e|e
 ·simp[Array.getD_eq_getD_getElem?,E]at e
 rw[List.contains_iff_mem.2 U]at e;cases e
section
variable {all:xE}{C J:xA}
theorem yD {o:Oper}(h:o.guard=none):Z9 all f o=true:=by unfold Z9;rw[h]
abbrev tkn (all:xE)(tk:Nat->LN)(i:Nat)(g:Fr):LN:=(tk i).flatMap λj=>ow (sl (QR all j).dst g)
theorem Qdy {α:Type}{N:Nat}{D:xw}{dp tk:Nat->LN}{opn fn nb:LN}{rest:xu}{Φ:Nat->O3->O2->Prop}{S:α->List (Nat×O3)}{I:α->O2->Prop}{f1:Fr}(hs:Region.noSelect all.toArray=true)(hop:QcC all D opn=true)
  (h5:∀w,J w->C w) (h8:∀i∈opn,∀own w w',J w->O6 own w w'->(∀b∈own,N<=b)->(tk i=[]->own=[])->J w') (hN:∀w,J w->N<=↑w) (stab:∀i∈opn,∀v own w w',Φ i v w->O6 own w w'->(∀b∈ow v,b∉own)->(i∈nb->own=[])->Φ i v w')
  (h9:∀(g:Fr) w,Fa (λi=>Φ i (sl (QR all i).dst g) w) fn->(∀i∈fn,∀j∈fn,i≠j->∀b∈ow (sl (QR all i).dst g),b∉ow (sl (QR all j).dst g))->(∀i∈fn,∀b∈ow (sl (QR all i).dst g),N<=b)->∃z,Xa g (S z)/\I z w)
  (spec:Fa (λi=>∀g w,J w->Fa (λj=>Φ j (sl (QR all j).dst (mix D f1 g)) w) (dp i)->(∀j∈dp i,∀b∈ow (sl (QR all j).dst (mix D f1 g)),N<=b/\b<↑w)->XO P (QR all i) (mix D f1 g) w (λf' w'=>O6 (tkn all tk i (mix D f1 g)) w w'/\Φ i (sl (QR all i).dst f') w'/\∀b∈ow (sl (QR all i).dst f'),(↑w<=b\/b∈tkn all tk i (mix D f1 g))/\b<↑w')) opn)
  (fin:∀z g w,J w->I z w->XP P all C K rest (VR (S z) (mix D f1 g)) w):
  ∀(k:Nat) {L:List (Array Bool)} (_:yr all.toArray dp tk opn fn nb rest k L=true) (ls:Array Bool) (f:Fr) (w:O2),ls∈L->ls.size=all.length->J w->(∀t,J8 D t=false->f t=f1 t)->(∀i∈opn,alv tk opn ls i=true->Φ i (sl (QR all i).dst f) w) ->
   (∀i∈opn,alv tk opn ls i=true->(∀b∈ow (sl (QR all i).dst f),N<=b/\b<↑w)/\∀j∈opn,alv tk opn ls j=true->i≠j->∀b∈ow (sl (QR all i).dst f),b∉ow (sl (QR all j).dst f))->XA P all C K (k+rest.length) ls f w
 | 0,L,T,ls,f,w,hv,hw,hC,hf,hy,V=>by
  simp only[yr,oI,Ok,List.contains_iff_mem]at T;have T:=T ls hv;obtain⟨z,h1,Y⟩:=h9 f w (Fa.of λi hi=>hy i (T.2 i hi).1 (T.2 i hi).2) (λi hi j E G=>(V i (T.2 i hi).1 (T.2 i hi).2).2 j (T.2 j E).1 (T.2 j E).2 G) (λi hi b hb=>((V i (T.2 i hi).1 (T.2 i hi).2).1 b hb).1);have h3:=fin z f w hC Y;rw[Vb hf,XG h1]at h3;rw[LW];exact Yq hs rest ls f w hw (.inl (h5 _ hC)) T.1 h3
 | k+1,L,T,ls,f,w,hv,hw,hC,hf,hy,V=>by
  simp only[yr,oI,Ok,List.contains_iff_mem,Bool.or_eq_true,Oe]at T;obtain⟨T,hgo⟩:=T;obtain⟨h4,T⟩:=T ls hv;rw[Nat.add_right_comm];refine J2 (λh0=>(by rw[h0]at h4;cases h4)) ?_;intro i hi o ho;obtain⟨⟨⟨U,ha⟩,hr⟩,hE⟩:=T i hi;obtain⟨hg,d,hd,hF⟩:=(KE hop).1 i U;have hsp:=Fa.all spec i U f w hC;rw[Vb hf]at hsp;have hsp:=hsp (Fa.of λj E=>hy j (ha j E).1 (ha j E).2) (λj E=>(V j (ha j E).1 (ha j E).2).1);have hu:=ZG ho;have hh:i<ls.size:=by rw[hw];exact(Mm.1 (ou ho)).1
  rw[hu]at hg hd hsp;rw[yD hg,cond_true];refine hsp.S λv w' hx=>?_;have hT:∀b∈tkn all tk i f,∃j,j∈tk i/\b∈ow (sl (QR all j).dst f):=λb hb=>by
   obtain⟨j,E,hb⟩:=Mc.1 hb;exact⟨j,E,hb⟩
  have hA:=h8 i U _ w w' hC hx.1 (λb hb=>by
   obtain⟨j,E,hb⟩:=hT b hb;exact((V j (ha j (hr j E)).1 (ha j (hr j E)).2).1 b hb).1) λe=>by rw[tkn,e];rfl
  have hz:=hx.1.size;have old:∀j∈opn,j≠i->sl (QR all j).dst (QP f o.dst v)=sl (QR all j).dst f:=λj E G=>by
   obtain⟨_,dj,hB,_⟩:=(KE hop).1 j E;have h4:o.dst≠some dj:=λe=>((KE hop).2) j E i U G (by rw[hB,hu];exact e.symm);rw[hB];exact Xc h4 v
  have apt:∀j∈opn,j≠i->alv tk opn (ls.setIfInBounds i true) j=true->∀b∈ow (sl (QR all j).dst f),b∉tkn all tk i f:=λj E G he b hb hm=>by
   obtain⟨h1,Y⟩:=J1 U hh G he;obtain⟨t,ht,h6⟩:=hT b hm;exact(V j E h1).2 t (ha t (hr t ht)).1 (ha t (hr t ht)).2 (λe=>Y (e ▸ ht)) b hb h6
  refine⟨.inr (.inr (h5 _ hA)),Qdy hs hop h5 h8 hN stab h9 spec fin k hgo _ _ _ (U9 (.inl (Mc.2 ⟨ls,hv,Lx.2 ⟨i,hi,O⟩⟩))) (ou hw) hA (λt ht=>?_) (λj E he=>?_) (λj E he=>⟨λb hb=>?_,λk hk h7 hD b hb hn=>?_⟩)⟩
  ·rw[Xc (by rw[hd];intro e;cases e;rw[hF]at ht;cases ht)];exact hf t ht
  ·by_cases G:j=i
   ·subst G;have Y:=hx.2.1;rw[hu];exact Y
   rw[old j E G];refine stab j E _ _ _ _ (hy j E (J1 U hh G he).1) hx.1 (apt j E G he) λhG=>?_;rcases hE with e|e
   ·rw[List.isEmpty_iff]at e;show(tk i).flatMap _=[];rw[e];rfl
   have h1:=(J1 U hh G he).1;unfold alv at h1;rw[e j hG]at h1;cases h1
  ·by_cases G:j=i
   ·subst G;rw[hu]at hb;refine⟨(hx.2.2 b hb).1.elim (λh=>Lz (hN w hC) h) λh=>?_,(hx.2.2 b hb).2⟩;obtain⟨t,ht,h6⟩:=hT b h;exact((V t (ha t (hr t ht)).1 (ha t (hr t ht)).2).1 b h6).1
   rw[old j E G]at hb;have:=(V j E (J1 U hh G he).1).1 b hb;exact⟨this.1,oa⟩
  by_cases G:j=i
  ·subst G;have hq:k≠j:=Ne.symm hD;rw[old k hk hq]at hn;rw[hu]at hb;have h1:=((V k hk (J1 U hh hq h7).1).1 b hn).2;rcases(hx.2.2 b hb).1 with Y|Y
   ·omega
   exact apt k hk hq h7 b hn Y
  rw[old j E G]at hb;have h1:=((V j E (J1 U hh G he).1).1 b hb).2;by_cases hq:k=i
  ·subst hq;rw[hu]at hn;rcases(hx.2.2 b hn).1 with Y|Y
   ·omega
   exact apt j E G he b hb Y
  rw[old k hk hq]at hn;exact(V j E (J1 U hh G he).1).2 k hk (J1 U hh hq h7).1 hD b hb hn
theorem je {Q:Exit->Fr->O2->Prop}(C J:xA)(N:Nat)(pre:xu)(dp tk:Nat->LN)(opn fn nb:LN)(rest:xu)(D:xw)(Φ:Nat->O3->O2->Prop)(S:α->List (Nat×O3))(I:α->O2->Prop)
  (hm:P.follows .mixedOrders=true) (hn:Xx n all=true) (E:Qgs all dp tk pre opn fn nb rest D=true) (hC:J { w with drawn:=w.drawn+1 }) (G:∀w,J w->C w) (ha:∀i∈opn,∀own w w',J w->O6 own w w'->(∀b∈own,N<=b)->(tk i=[]->own=[])->J w') (hN:∀w,J w->N<=↑w) (stab:∀i∈opn,∀v own w w',Φ i v w->O6 own w w'->(∀b∈ow v,b∉own)->(i∈nb->own=[])->Φ i v w')
  (he:∀(g:Fr) w,Fa (λi=>Φ i (sl (QR all i).dst g) w) fn->(∀i∈fn,∀j∈fn,i≠j->∀b∈ow (sl (QR all i).dst g),b∉ow (sl (QR all j).dst g))->(∀i∈fn,∀b∈ow (sl (QR all i).dst g),N<=b)->∃z,Xa g (S z)/\I z w)
  (h:XP P all C (λf1 _=>(Fa (λi=>∀g w,J w->Fa (λj=>Φ j (sl (QR all j).dst (mix D f1 g)) w) (dp i)->(∀j∈dp i,∀b∈ow (sl (QR all j).dst (mix D f1 g)),N<=b/\b<↑w)->XO P (QR all i) (mix D f1 g) w (λT w'=>O6 (tkn all tk i (mix D f1 g)) w w'/\Φ i (sl (QR all i).dst T) w'/\∀b∈ow (sl (QR all i).dst T),(↑w<=b\/b∈tkn all tk i (mix D f1 g))/\b<↑w')) opn) /\
   ∀z g w,J w->I z w->XP P all C (λf w=>Q .normal f w) rest (VR (S z) (mix D f1 g)) w) pre f { w with drawn:=w.drawn+1 }):W P n (.region id all.toArray true) Q f w:=by
 simp only[Qgs,oI,beq_iff_eq,Ok,Oe]at E;obtain⟨⟨⟨⟨⟨U,hl⟩,hq⟩,hop⟩,hgo⟩,hf⟩:=E;refine JJ C hm hn ?_;rw[<-hl];have hg:(oP all.length false).size=all.length:=od
 have V:∀i∈opn,alv tk opn (ZT pre (oP all.length false)) i=true->False:=λi hi ht=>by
  unfold alv at ht;rw[hf i hi]at ht;cases ht
 have Y:=YI (K:=λf w=>Q .normal f w) (m:=opn.length+rest.length) U pre (oP all.length false) f _ (G _ hC) hq (λf1 hB=>Qdy (P:=P) (C:=C) U hop G ha hN stab he hB.1 hB.2 opn.length hgo (ZT pre (oP all.length false)) f1 _ Lh (by rw[YM];exact hg) hC (λ_ _=>O) (λi hi ht=>(V i hi ht).elim) (λi hi ht=>(V i hi ht).elim)) h;rw[hl]at Y ⊢;exact Y
theorem XP.keeps_mono {K':xz}:∀(l:xu) (f:Fr) (w:O2),XP P all C K l f w->(∀f w,K f w->K' f w)->XP P all C K' l f w
 | [],f,w,h,E=>by simp only[XP]at h ⊢;exact E _ _ h
 | (j,q)::l,f,w,h,E=>by
  simp only[XP]at h ⊢;cases G:Z9 all f (QR all j) with
  | false=>rw[G]at h;exact XP.keeps_mono l _ _ h E
  | true =>
   rw[G]at h;cases q with
   | true=>obtain⟨v,I,hx⟩:=h;exact⟨v,I,XP.keeps_mono l _ _ hx E⟩
   | false=>exact XO.S (λv w' hx=>⟨hx.1,XP.keeps_mono l _ _ hx.2 E⟩) h
theorem QdA {Q:Exit->Fr->O2->Prop}(C J:xA)(pre:xu)(dp:Nat->LN)(opn:LN)(rest:xu)(D:xw)(Φ:Nat->O3->O2->Prop)(S:α->List (Nat×O3))(I:α->O2->Prop)
  (T:P.follows .mixedOrders=true) (U:Xx n all=true) (V:Qgs all dp (λ_=>[]) pre opn opn opn rest D=true) (hC:J { w with drawn:=w.drawn+1 }) (Y:∀w,J w->C w) (ha:∀w w',J w->sW w w'->J w') (stab:∀i v w w',Φ i v w->sW w w'->Φ i v w')
  (he:∀(g:Fr) w,Fa (λi=>Φ i (sl (QR all i).dst g) w) opn->(∀i∈opn,∀j∈opn,i≠j->∀b∈ow (sl (QR all i).dst g),b∉ow (sl (QR all j).dst g))->∃z,Xa g (S z)/\I z w)
  (h:XP P all C (λf1 _=>Fa (λi=>∀g w,J w->Fa (λj=>Φ j (sl (QR all j).dst (mix D f1 g)) w) (dp i)->XO P (QR all i) (mix D f1 g) w (λG w'=>sW w w'/\Φ i (sl (QR all i).dst G) w'/\∀b∈ow (sl (QR all i).dst G),↑w<=b/\b<↑w')) opn /\
   ∀z g w,J w->I z w->XP P all C (λf w=>Q .normal f w) rest (VR (S z) (mix D f1 g)) w) pre f { w with drawn:=w.drawn+1 }):W P n (.region id all.toArray true) Q f w:=by
 refine je C J 0 pre dp (λ_=>[]) opn opn opn rest D Φ S I T U V hC Y (λ_ _ _ w w' h E _ e=>?_) (λ_ _=>Lo _) (λi hi v _ w w' h E _ e=>?_) (λg w h1 h2 _=>he g w h1 h2) (XP.keeps_mono _ _ _ h λf1 w1 hx=>⟨Fa.of λi hi g w hJ hd _=>(Fa.all hx.1 i hi g w hJ hd).S λ_ _ h=>⟨h.1,h.2.1,λb hb=>⟨.inl (h.2.2 b hb).1,(h.2.2 b hb).2⟩⟩,hx.2⟩)
 ·rw[e rfl]at E;exact ha w w' h E
 rw[e hi]at E;exact stab i v w w' h E
theorem Vl {Q:Exit->Fr->O2->Prop}(C:xA)(pre:xu)(dp:Nat->LN)(opn:LN)(rest:xu)(D:xw)(Φ:Nat->O3->O2->Prop)(S:α->List (Nat×O3))(I:α->O2->Prop)
  (G:P.follows .mixedOrders=true) (T:Xx n all=true) (U:Qgs all dp (λ_=>[]) pre opn opn opn rest D=true) (hC:C { w with drawn:=w.drawn+1 }) (V:∀w w',C w->sW w w'->C w') (stab:∀i v w w',Φ i v w->sW w w'->Φ i v w')
  (Y:∀(g:Fr) w,Fa (λi=>Φ i (sl (QR all i).dst g) w) opn->(∀i∈opn,∀j∈opn,i≠j->∀b∈ow (sl (QR all i).dst g),b∉ow (sl (QR all j).dst g))->∃z,Xa g (S z)/\I z w)
  (h:XP P all C (λf1 _=>Fa (λi=>∀g w,C w->Fa (λj=>Φ j (sl (QR all j).dst (mix D f1 g)) w) (dp i)->XO P (QR all i) (mix D f1 g) w (λE w'=>sW w w'/\Φ i (sl (QR all i).dst E) w'/\∀b∈ow (sl (QR all i).dst E),↑w<=b/\b<↑w')) opn /\
   ∀z g w,C w->I z w->XP P all C (λf w=>Q .normal f w) rest (VR (S z) (mix D f1 g)) w) pre f { w with drawn:=w.drawn+1 }):W P n (.region id all.toArray true) Q f w :=
 QdA C C pre dp opn rest D Φ S I G T U hC (λ_ h=>h) V stab Y h
end
theorem flA [Ze P t z]{E:O2}{e:Nat}(us:LV)(hC:sW E w)(U:z.cells=us.toArray:=by rfl):XO P ⟨some e,.alloc t,ty,pS,af,gd⟩ f w λG w'=>sW w w'/\sW E w'/\(∃b,G e=sP b/\↑E<=b/\QK ↑w' b t us)/\∀b∈ow (G e),↑w<=b/\b<w'.heap.size:=YW U λb w' I hb T=>by
 have e1:QP f (some e) (sP b) e=sP b:=by simp[QP,upd]
 show sW w w'/\sW E w'/\(∃b',QP f (some e) (sP b) e=sP b'/\↑E<=b'/\QK ↑w' b' t us)/\∀b'∈ow (QP f (some e) (sP b) e),↑w<=b'/\b'<↑w';rw[e1];exact⟨I,hC.D I,⟨b,O,Lz hC.size hb,T⟩,λx hx=>by rw[show x=b by simpa using(show x∈[b] from hx)];exact⟨hb,T.lt⟩⟩
theorem Qcu {x:O4}{e:Nat}[h:Ay P t m e 1][h1:XS P e]{k:IntKind}{u:O3}(hx:ev f x=sT cs)(E:ev f y=.int k i)(hi:i<m)(G:cs[i]?=some u):
  (execOp (ev f) ⟨d,.index t x y,ty,pS,af,gd⟩).run P w=.ok (.value u) w:=by
 have I:=zY (P:=P) (w:=w) (t:=e);have J:=Qae (P:=P) (w:=w) (t:=e);simp[execOp,hx,E,Instr.index,asIntOf,run_underlying h.u,I,part,J,G];intro T;omega
theorem Qlv {b:Nat}(G:QK ↑w b 301 [sL E n n])(hS:QK ↑w E 4 ((flg n l).map Value.bool))(I:0<=s)(J:s<(n:Int)):
  QU sV 200 [sS s,sP b] w λr w'=>r=.bool (decide (s∈l))/\sW w w':=by
 refine Zm func200 ?_;have T:s=(s.toNat:Int):=oa
 refine Qc<|Qb<|Qc<|ZD G O O<|Qa<|x (QE (i:=s.toNat) O (OW sS T) oa)<|ZD hS O (yG I J)<|Qb<|Qj ⟨[_],La,O,O6.Y _ _⟩
theorem Qlu {b:Nat}{e:Ed}(I:QK ↑w b 301 [sL G n n])(hS:QK ↑w G 4 ((flg n l).map Value.bool))(J:0<=e.2.2)(T:e.2.2<(n:Int)):
  QU sV 201 [sT (Qp e),sP b] w λr w'=>r=.bool (decide (e.2.2∈l))/\sW w w':=by
 refine Zm func201 ?_;have U:e.2.2=(e.2.2.toNat:Int):=oa
 refine Qc<|Zf (Qp e) λY w1 E ha V=>Qb<|Qc<|ZD (I.I E) O O<|Qs O V O O<|x (QE (i:=e.2.2.toNat) O (OW sS U) oa)<|ZD (hS.I E) O (yG J T)<|Qb<|Qj ⟨[_],La,O,E⟩
instance ayJk1:Ay sV 300 2 47 1:=⟨oc,oc⟩
def ptR (a:Qz)(n from0:Nat)(tg wi:LI):LI×Bool:=pth (λs=>decide (s∈tg)) (λe=>decide (e.2.2∈wi)) a.ed n from0
theorem Qfm (st:List Ed):∀(f k:Nat),(wrd st f k).length<=f
 | 0,_=>by simp[wrd]
 | f+1,k=>by
  rw[wrd];split
  ·have:=Qfm st f (gE st k).2.1.toNat;simp only[oQ];omega
  simp
theorem Qcv (wt:Int->Bool)(pm:Ed->Bool)(es:List Ed):∀(f i:Nat) (st:List Ed),(QaX wt pm es f i st).1.length<=f+i
 | 0,_,_=>by simp[QaX]
 | f+1,i,st=>by
  rw[QaX];split
  ·split
   ·have:=Qfm st (i+1) i;simp only[List.length_reverse];omega
   have:=Qcv wt pm es f (i+1) ((QM es (gE st i).1).foldl (KK pm i) st);omega
  simp
theorem Qmh (a:Qz)(n:Nat)(tg wi:LI):(ptR a n 0 tg wi).1.length<=n+1:=Qcv _ _ _ (n+1) 0 _
def phP (N n:Nat)(tg wi:LI)(i:Nat)(v:O3)(w:O2):Prop :=
 if i=2 then ∃b,v=sL b n n/\N<=b/\QK ↑w b 4 ((flg n wi).map Value.bool)
 else if i=5 then ∃b,v=sL b n n/\N<=b/\QK ↑w b 4 ((flg n tg).map Value.bool)
 else ∃b,v=sP b/\N<=b/\QK ↑w b 301 [nS]
theorem Qmn {tg wi:LI}(i:Nat)(v:O3)(w w':O2)(h:phP N n tg wi i v w)(J:sW w w'):phP N n tg wi i v w':=by
 unfold phP at *;split
 ·rename_i e;rw[OV e]at h;obtain⟨b,E,G,I⟩:=h;exact⟨b,E,G,I.I J⟩
 rename_i e;rw[OU e]at h;split
 ·rename_i e2;rw[OV e2]at h;obtain⟨b,E,G,I⟩:=h;exact⟨b,E,G,I.I J⟩
 rename_i e2;rw[OU e2]at h;obtain⟨b,E,G,I⟩:=h;exact⟨b,E,G,I.I J⟩
structure PhZ where
 bi:Nat
 bt:Nat
 b15:Nat
 b16:Nat
theorem Qn0 {vi:O3}{from0:Nat}{tg wi:LI}(h:Zr [] ↑w va vm ve a)(hck:Jc a=0)(hn:a.st=(n:Int))(hf:from0<n)(ht:Qu [] ↑w vt tg)(hi:Qu [] ↑w vi wi)
  (h6:J9 a.st none tg=0) (h7:J9 a.st none wi=0) (hM:(from0:Int)∈wi):
  QU sV 127 [.agg #[va,sS a.st,vm,ve],sS from0,vt,vi] w λr w'=>sW w w'/\∃v,r=.tuple #[v,.bool (ptR a n from0 tg wi).2,sS 0]/\Qh 3 ↑w w' v (ptR a n from0 tg wi).1:=by
 have I:=(Zz a).1 hck;have hz:=I.st1;refine Zm func127 ?_;refine Qc<|Zf [va,sS a.st,vm,ve] λb4 w1 h8 hZ h9=>x Qe<|x Qe<|Qb<|Qd<|Qc<|Q3 h9 O O<|Qw<|(Y8 (h.I h8)).S ?_;rintro r2 w2 ⟨rfl,hA⟩;refine Qb<|Ql<|ZN O O<|xe<|Zg rfl (λhC=>OX hck hC) (λhC=>?_);refine Qf ?_;have hD:=h8.D hA;have h3:=h9.I hA;have hN:¬(from0:Int)≥a.st:=oa
 refine Qd<|Ql<|xb (YB O O) (λhE=>OX hE oa) (λhE=>?_);refine Qa<|Qa<|Qs O h3 O O<|x (Yf O O)<|QC O<|xe<|Zg rfl (λhF=>OX hF hN) (λhF=>?_);refine Qf<|Qd<|Ql<|Qa<|x (QD ⟨ht.cells,hi.cells,Z⟩)<|Qa<|xe<|QX (α:=Nat) [(8,10),(13,14),(33,42)] (λz=>[(33,sS z)]) (λz w'=>z<=2/\sW w2 w') (λz=>2 - z) 0 La ⟨oa,O6.Y _ _⟩ ?_;rintro k g w4 ⟨hk,ha⟩;refine Zk rfl O (λhG=>?_) (λhG=>?_)
 ·refine Qt ?_;have hg:=hD.D ha;have hH:=h.I hg;have ga:=hg.size;have h4:=h3.I ha;have hO:=((Xk a.st tg none).1 h6).1;have hP:=((Xk a.st wi none).1 h7).1;refine Qd<|Vl (α:=PhZ) (sW w4) [oz 0,oz 1,oz 3,oz 4] (λ_=>[]) [2,5,6,7] [oA 8,oA 9] [(15,16),(45,45),(48,48)] (phP ↑w4 n tg wi)
   (λz=>[(45,.slice (some ⟨z.bi,0,none⟩) n n),(48,.slice (some ⟨z.bt,0,none⟩) n n),(15,.pointer (some ⟨z.b15,0,none⟩)),(16,.pointer (some ⟨z.b16,0,none⟩))])
   (λz w'=>QK ↑w' z.bi 4 ((flg n wi).map Value.bool)/\QK ↑w' z.bt 4 ((flg n tg).map Value.bool)/\QK ↑w' z.b15 301 [nS]/\QK ↑w' z.b16 301 [nS]/\(z.b15≠z.b16/\z.bi≠z.b15/\z.bi≠z.b16/\z.bt≠z.b15/\z.bt≠z.b16)/\↑w4<=z.b15/\↑w4<=z.b16)
   mixed oh oc (O6.X _ _) (λ_ _ h1 h2=>h1.D h2) Qmn ?_ ?_
  ·rintro g w' ⟨⟨bi,e1,_,hq⟩,⟨bt,e2,_,hr⟩,⟨b15,e3,U,hs⟩,⟨b16,e4,hh,hw⟩,_⟩ hj;refine⟨⟨bi,bt,b15,b16⟩,⟨e1,e2,e3,e4,Z⟩,hq,hr,hs,hw,?_,U,hh⟩;have d1:=hj 6 od 7 od og;have d2:=hj 2 od 6 od og;have d3:=hj 2 od 7 od og;have d4:=hj 5 od 6 od og;have d5:=hj 5 od 7 od og;rw[e3,e4]at d1;rw[e1,e3]at d2;rw[e1,e4]at d3;rw[e2,e3]at d4;rw[e2,e4]at d5;simp only[ow,oF,forall_eq]at d1 d2 d3 d4 d5;exact⟨d1,d2,d3,d4,d5⟩
  refine pq (λ_ hc=>Zi (h4.I hc) O O)<|p Qy<|pq (λ_ hc=>Zi (h4.I hc) O O)<|p Qy<|pe ⟨⟨?_,?_,?_,?_,Z⟩,?_⟩
  ·intro g w' hc _;refine xg<|(Qc3 ((hi.I hg).I hc) hn hz hP).S ?_;rintro r5 w5 ⟨G,b,rfl,hb,E⟩;exact⟨G,⟨b,O,Lz hc.size hb,E⟩,λc J=>by rw[Lb.1 (show c∈[b] from J)];exact⟨hb,E.lt⟩⟩
  ·intro g w' hc _;refine xg<|(Qc3 ((ht.I hg).I hc) hn hz hO).S ?_;rintro r5 w5 ⟨G,b,rfl,hb,E⟩;exact⟨G,⟨b,O,Lz hc.size hb,E⟩,λc J=>by rw[Lb.1 (show c∈[b] from J)];exact⟨hb,E.lt⟩⟩
  ·intro g w' hc _;exact YW (us:=[nS]) O λb w5 G hb E=>⟨G,⟨b,O,Lz hc.size hb,E⟩,λc J=>by rw[Lb.1 (show c∈[b] from J)];exact⟨hb,E.lt⟩⟩
  ·intro g w' hc _;exact YW (us:=[nS]) O λb w5 G hb E=>⟨G,⟨b,O,Lz hc.size hb,E⟩,λc J=>by rw[Lb.1 (show c∈[b] from J)];exact⟨hb,E.lt⟩⟩
  rintro⟨bi,bt,b15,b16⟩ g w5 h5 ⟨hq,hr,hs,hw,hQ,U,hh⟩;simp only[]at hq hr hs hw hQ U hh;refine pk<|Qv (u:=sL bi n n) hs O O od rfl λw6 V hR=>⟨h5.Q V U,?_⟩;refine pk<|Qv (u:=sL bt n n) (hw.J V (by simp;omega)) O O od rfl λw7 hm hS=>⟨(h5.Q V U).Q hm hh,pe ?_⟩;have hy:sW w4 w7:=(h5.Q V U).Q hm hh;have hI:=hR.J hm (by simp;omega);have hJ:=(hq.J V (by simp;omega)).J hm (by simp;omega);have hT:=(hr.J V (by simp;omega)).J hm (by simp;omega);have gb:=hy.size;have hU:((flg n wi).map Value.bool)[0+from0*1]?=some (.bool true):=by
   have e1:=yG (n:=n) (l:=wi) (x:=(from0:Int)) oa oa;rw[OY hM]at e1;exact e1
  refine Qd<|Qc<|ZD hI O O<|Qa<|x (QE (i:=from0) O O hf)<|ZD hJ O hU<|x (Zj O)<|xe<|Zw O<|Qf<|Qc<|Q3 (h4.I hy) O O<|Qw<|(QcH (hH.I hy) hn hz (λe T=>⟨(I.ed e T).1,(I.ed e T).2.1⟩)).S ?_;rintro r8 w8 ⟨Y,bF,rfl,gc,hV⟩;have hK:=hy.D Y;have ge:=Y.size;refine Qa<|x (Zl (l:=[]) (l':=[_]))<|x (Zl (l:=[]) (l':=[_]))<|Qo<|xg <|
   (Qmq (wt:=λs=>decide (s∈tg)) (pm:=λe=>decide (e.2.2∈wi)) (cw:=[sP b16]) (cp:=[sP b15]) (gw:=200) (gp:=201) (hH.I hK) hn oa (λe T=>oo (I.ed e T).2.2.2) I.eds hV hf
    (λs w' h0 h1 hp=>Qlv ((hS.I Y).I hp) ((hT.I Y).I hp) h0 h1) (λe w' T hp=>Qlu ((hI.I Y).I hp) ((hJ.I Y).I hp) (oo (I.ed e T).2.2.2) (oo (I.ed e T).2.2.2))).S ?_
  rintro r9 w9 ⟨hW,v,rfl,hv⟩;refine Qa<|QO O O<|QO O O<|x Qe<|Qb<|Ql<|Qa<|x Qe<|x Qe<|Qb<|Qj ⟨[_,_,_],ox,hg.D (hK.D hW),v,O,Za hv oa⟩
 refine Qf ?_;have hX:k<2:=by have gg:(k:Int)<2:=hG;omega
 have hY:∃u l,[vt,vi][k]?=some u/\Qu [] ↑w u l/\J9 a.st none l=0:=by
  rcases k with _|k
  ·exact⟨vt,tg,O,ht,h6⟩
  have:k=0:=oa
  subst this;exact⟨vi,wi,O,hi,h7⟩
 refine Exists.elim hY λu hu=>Exists.elim hu λl hl=>?_;refine Qd<|Qn<|Qc<|x (Qcu (i:=k) (cs:=[vt,vi]) O O hX hl.1)<|Qb<|Qc<|Q3 (h3.I ha) O O<|Qa<|Qw<|(y7 (va:=va) (vm:=vm) (ve:=ve) (a:=a) ((hl.2.1.I hD).I ha)).S ?_;rintro r5 w5 ⟨rfl,G⟩;refine Qb<|Ql<|ZN O O<|xe<|Zg rfl (λhL=>OX hl.2.2 hL) (λhL=>?_);refine Qf<|Qr<|QB O O<|Qa<|xe ?_;exact⟨k+1,oa,La,oa,ha.D G⟩
theorem Qmf [hm:Mp P t kt et (sS 0)][hk:Key P kt Yp]{x:O4}{b:Nat}{s:Qz}{q v:Int}(h:ZU Yp ↑w b (KS [] s.ed))
  (E:s.ed.Pairwise λx y=>x.1<y.1\/(x.1=y.1/\x.2.1<y.2.1)) (hx:ev f x=.map (some b)) (G:ev f y=Yp (q,v)):
  (execOp (ev f) ⟨d,.lookup t x y true,ty,pS,af,gd⟩).run P w=.ok (.value (.tuple #[sS ((xo s.ed q v).getD 0),.bool (decide ((xo s.ed q v).isSome=true))])) w:=by
 rw[K6 h hx G,qB s.ed [] q v E];cases xo s.ed q v <;> rfl
def Yt (k:Nat):LI:=(oJ k).map λi:Nat=>(i:Int)
theorem JG (k:Nat):(Yt k).length=k:=by simp[Yt]
theorem qr (k:Nat):Yt (k+1)=Yt k++[(k:Int)]:=by unfold Yt;rw[Nh,Ly];rfl
theorem Kn (k:Nat)(x:Int):x∈Yt k↔0<=x/\x<(k:Int):=by
 unfold Yt;simp only[Om,List.mem_range];constructor
 ·rintro⟨i,hi,rfl⟩;omega
 intro h;exact⟨x.toNat,oa,oa⟩
theorem QjE (k:Nat):Ys (Yt k):=by
 induction k with
 | zero=>exact List.Pairwise.nil
 | succ k ih =>
  rw[qr];refine Mk.2 ⟨ih,M7 _ _,λx hx y E=>?_⟩;have:=(Kn k x).1 hx;simp at E;omega
theorem QbG {n:Int}(E:∀x∈l,0<=x/\x<n)(G:Ys l):J9 n none l=0:=(Xk n l none).2 ⟨E,G,λy I=>by cases I⟩
structure Vs where
 x:Int
 y:Int
 b:Int
 v:Int
def Vs.ky (p:Vs):Int×Int:=(p.x,p.y)
def lgN (a b:Qz)(i:Nat)(p:Vs)(v:Int):Vs:=⟨nxt a.ed p.x v,nxt b.ed p.y v,(i:Int),v⟩
def yn (a:Qz)(kd x:Int):Bool:=decide (0<=x) && (decide (kd=1) || decide (x∈a.mr))
def lgC (a b:Qz)(kd:Int)(p:Vs):Bool:=!(yn a kd p.x == yn b kd p.y)
def lgA (a b:Qz)(i:Nat)(p:Vs)(V:List Vs)(v:Int):List Vs:=if(lgN a b i p v).ky≠(-1,-1)/\(lgN a b i p v).ky∉V.map Vs.ky then V++[lgN a b i p v]else V
def vs0:Vs:=⟨-1,-1,-1,0⟩
def gV (V:List Vs)(k:Nat):Vs:=V.getD k vs0
def lgW (V:List Vs):Nat->Nat->LI
 | 0,_=>[]
 | f+1,k=>if 0<=(gV V k).b then(gV V k).v::lgW V f (gV V k).b.toNat else[]
def lgL (a b:Qz)(kd:Int)(al:LI):Nat->Nat->List Vs->Option (LI)
 | 0,_,_=>none
 | f+1,i,V=>if i<V.length then(if lgC a b kd (gV V i)=true then some (lgW V (i+1) i).reverse else lgL a b kd al f (i+1) (al.foldl (lgA a b i (gV V i)) V)) else none
def fst (a:Qz):Int:=if a.st=0 then -1 else 0
def lgq (a b:Qz)(kd:Int):Option (LI):=lgL a b kd (mrg (· || ·) a.al b.al) ((a.st.toNat+1)*(b.st.toNat+1)+1) 0 [⟨fst a,fst b,-1,0⟩]
def lgE (a b:Qz)(kd:Int):Int:=if Jc a≠0 then Jc a else if Jc b≠0 then Jc b else if kd≠1/\kd≠2 then 11 else 0
def cdA (c:ZS):Qz:=Uj (tgA c) [] (unc c.ev)
def ccA (c:ZS):Qz:=J7 [tgA c,cdA c]
def own (c:ZS)(k:Bool):Qz:=if k=true then ccA c else tgA c
abbrev Zh (p:Int×Int):LV:=[sS p.1,sS p.2]
theorem X9 (p:Int×Int):(Zh p).length=2:=rfl
abbrev P2s (L:LN)(H:xC)(v:O3)(l:xx):Prop:=Zu L H v l.length 2 (l.flatMap Zh)
abbrev Zy (e:VE):LV:=[.string e.nm,.bool e.co,.bool e.ob,.bool e.fo,sS e.fl]
theorem zK (e:VE):(Zy e).length=5:=rfl
abbrev jp (s:ByteArray):Prop:=s.size<=9223372036854775807
structure qL (L:LN)(H:xC)(v:O3)(l:List VE):Prop where
 arr:Zu L H v l.length 5 (l.flatMap Zy)
 nm:∀e∈l,jp e.nm
theorem qL.I {L:LN}{w w':O2}{v:O3}{l:List VE}(h:qL L ↑w v l)(E:sW w w'):qL L ↑w' v l:=⟨h.arr.I E,h.nm⟩
theorem qL.st {L:LN}{w w':O2}{v:O3}{l:List VE}(h:qL L ↑w v l)(E:O6 L w w'):qL L ↑w' v l:=⟨h.arr.st E,h.nm⟩
theorem qL.up {L L':LN}{H:xC}{v:O3}{l:List VE}(h:qL L H v l)(E:∀b∈L',b∈L\/H.size<=b):qL L' H v l:=⟨h.arr.up E,h.nm⟩
structure IV where
 nm:ByteArray
 p:AV
def IV.it (q:IV):Jp:=⟨q.nm,q.p.a⟩
abbrev Zn (q:IV):LV:=[.string q.nm,q.p.va,sS q.p.a.st,q.p.vm,q.p.ve]
theorem qu (q:IV):(Zn q).length=5:=rfl
structure Vo (L:LN)(H:xC)(v:O3)(qs:List IV):Prop where
 arr:Zu L H v qs.length 5 (qs.flatMap Zn)
 each:∀q∈qs,Zr L H q.p.va q.p.vm q.p.ve q.p.a
 nm:∀q∈qs,jp q.nm
structure XV where
 nm:ByteArray
 v:O3
 ls:xx
def XV.x (q:XV):Exc:=⟨q.nm,q.ls⟩
abbrev Z4 (q:XV):LV:=[.string q.nm,q.v]
theorem zO (q:XV):(Z4 q).length=2:=rfl
structure jy (L:LN)(H:xC)(v:O3)(qs:List XV):Prop where
 arr:Zu L H v qs.length 2 (qs.flatMap Z4)
 each:∀q∈qs,P2s L H q.v q.ls
 nm:∀q∈qs,jp q.nm
structure KV where
 nm:ByteArray
 v:O3
 ts:xx
 bd:Int
def KV.k (q:KV):xM:=⟨q.nm,q.ts,q.bd⟩
abbrev Yj (q:KV):LV:=[.string q.nm,q.v,sS q.bd]
theorem yt (q:KV):(Yj q).length=3:=rfl
structure jm (L:LN)(H:xC)(v:O3)(qs:List KV):Prop where
 arr:Zu L H v qs.length 3 (qs.flatMap Yj)
 each:∀q∈qs,P2s L H q.v q.ts
 nm:∀q∈qs,jp q.nm
theorem Vo.I {L:LN}{w w':O2}{v:O3}{qs:List IV}(h:Vo L ↑w v qs)(E:sW w w'):Vo L ↑w' v qs:=⟨h.arr.I E,λq G=>(h.each q G).I E,h.nm⟩
theorem Vo.st {L:LN}{w w':O2}{v:O3}{qs:List IV}(h:Vo L ↑w v qs)(E:O6 L w w'):Vo L ↑w' v qs:=⟨h.arr.st E,λq G=>(h.each q G).st E,h.nm⟩
theorem Vo.up {L L':LN}{H:xC}{v:O3}{qs:List IV}(h:Vo L H v qs)(E:∀b∈L',b∈L\/H.size<=b):Vo L' H v qs:=⟨h.arr.up E,λq G=>(h.each q G).up E,h.nm⟩
theorem jy.I {L:LN}{w w':O2}{v:O3}{qs:List XV}(h:jy L ↑w v qs)(E:sW w w'):jy L ↑w' v qs:=⟨h.arr.I E,λq G=>(h.each q G).I E,h.nm⟩
theorem jy.st {L:LN}{w w':O2}{v:O3}{qs:List XV}(h:jy L ↑w v qs)(E:O6 L w w'):jy L ↑w' v qs:=⟨h.arr.st E,λq G=>(h.each q G).st E,h.nm⟩
theorem jy.up {L L':LN}{H:xC}{v:O3}{qs:List XV}(h:jy L H v qs)(E:∀b∈L',b∈L\/H.size<=b):jy L' H v qs:=⟨h.arr.up E,λq G=>(h.each q G).up E,h.nm⟩
theorem jm.I {L:LN}{w w':O2}{v:O3}{qs:List KV}(h:jm L ↑w v qs)(E:sW w w'):jm L ↑w' v qs:=⟨h.arr.I E,λq G=>(h.each q G).I E,h.nm⟩
theorem jm.st {L:LN}{w w':O2}{v:O3}{qs:List KV}(h:jm L ↑w v qs)(E:O6 L w w'):jm L ↑w' v qs:=⟨h.arr.st E,λq G=>(h.each q G).st E,h.nm⟩
theorem jm.up {L L':LN}{H:xC}{v:O3}{qs:List KV}(h:jm L H v qs)(E:∀b∈L',b∈L\/H.size<=b):jm L' H v qs:=⟨h.arr.up E,λq G=>(h.each q G).up E,h.nm⟩
structure CL where
 ve:O3
 vc:O3
 vr:O3
 vx:O3
 vk:O3
 ev:List VE
 co:List IV
 rq:List IV
 ex:List XV
 cs:List KV
def CL.C (c:CL):ZS:=⟨c.ev,c.co.map (·.it),c.rq.map (·.it),c.ex.map (·.x),c.cs.map (·.k)⟩
abbrev CL.cells (c:CL):LV:=[c.ve,c.vc,c.vr,c.vx,c.vk]
abbrev CL.val (c:CL):O3:=.agg #[c.ve,c.vc,c.vr,c.vx,c.vk]
structure Ya (L:LN)(H:xC)(c:CL):Prop where
 ev:qL L H c.ve c.ev
 co:Vo L H c.vc c.co
 rq:Vo L H c.vr c.rq
 ex:jy L H c.vx c.ex
 cs:jm L H c.vk c.cs
theorem Ya.I {L:LN}{w w':O2}{c:CL}(h:Ya L ↑w c)(E:sW w w'):Ya L ↑w' c:=⟨h.ev.I E,h.co.I E,h.rq.I E,h.ex.I E,h.cs.I E⟩
theorem Ya.st {L:LN}{w w':O2}{c:CL}(h:Ya L ↑w c)(E:O6 L w w'):Ya L ↑w' c:=⟨h.ev.st E,h.co.st E,h.rq.st E,h.ex.st E,h.cs.st E⟩
theorem Ya.up {L L':LN}{H:xC}{c:CL}(h:Ya L H c)(E:∀b∈L',b∈L\/H.size<=b):Ya L' H c:=⟨h.ev.up E,h.co.up E,h.rq.up E,h.ex.up E,h.cs.up E⟩
theorem Ya.ones {H:xC}{c:CL}(h:Ya L H c):ZL c.cells:=⟨h.ev.arr.one,h.co.arr.one,h.rq.arr.one,h.ex.arr.one,h.cs.arr.one,Z⟩
def Qn6 (N:Nat)(H:xC)(v:O3)(k:ZS):Prop:=∃c:CL,v=c.val/\c.C=k/\∀L:LN,(∀b∈L,b<N)->Ya L H c
theorem qJ (s:ByteArray)(ha:jp s)(w:O2):QU sV 172 [.string s] w λr w'=>r=.bool (Xp s)/\w'=w:=by
 unfold jp at ha;refine Zm func172 ?_;refine Qc<|Qb<|Qd<|Ql<|x (Qd8 O)<|Qa<|xe<|QX (α:=Nat) [(2,5),(8,46)] (λz=>[(8,sS z)]) (λz w'=>w'=w/\z<=s.size/\(oO z (s.size - z)).all (nmQ s)=(oO 0 s.size).all (nmQ s)) (λz=>s.size - z) 0 La ⟨O,Lo _,by rw[ON]⟩ ?_;rintro k g w1 ⟨rfl,hk,E⟩;refine Zk rfl O (λG=>?_) (λG=>?_)
 ·refine Qt ?_;have he:s.size<=k:=by have hf:¬(k:Int)<(s.size:Int):=G;omega
  rw[Qmc he]at E;have I:Xp s=decide (0<s.size/\s.size<=32):=by unfold Xp;rw[<-E];simp
  rw[I];refine QW (α:=Bool) [(2,2),(47,54)] (λz=>[(2,.bool z)]) (λz w'=>w'=w1/\z=decide (0<s.size/\s.size<=32)) oh ?_ ?_
  ·refine Qr<|Qa<|x (Qd8 O)<|xb (Z8 O O) (λhg=>?_) (λhg=>?_)
   ·refine Qa<|Qa<|x (Qd8 O)<|x (X3 O O)<|QC O<|Qb<|⟨_,La,O,by first|exact bT oa|exact bF oa|exact bD oa⟩
   refine Qa<|ZA<|QC O<|Qb<|⟨_,La,O,by first|exact bT oa|exact bF oa|exact bD oa⟩
  rintro z g w2 ⟨rfl,rfl⟩;exact Qj ⟨[_],La,O,O⟩
 have J:k<s.size:=by have hf:(k:Int)<(s.size:Int):=G;omega
 rw[QiO J,ML]at E;refine Qf<|Qd<|Qn<|Ql<|Qb<|Ql<|Qa<|x (QiY (i:=k) O O J)<|Qb ?_;have T:nmQ s k=decide (nmP k (chr s k)):=rfl;refine Zd (chr s k) λc hc=>?_;rw[hc]at T;refine QW (α:=Bool) [(5,5),(14,31)] (λz=>[(5,.bool z)]) (λz w'=>w'=w1/\z=decide ((97<=c/\c<=122)\/(65<=c/\c<=90)\/c=95)) oh ?_ ?_
 ·rw[<-hc];refine Qr<|Qa<|xb (Yf O O) (λhh=>?_) (λhh=>?_)
  ·refine Qa<|Qa<|xb (X3 O O) (λhj=>?_) (λhj=>?_)
   ·refine QC O<|Qa<|ZA<|ZA<|QC O<|Qa<|YP<|x (VV O) <|
     Qb<|⟨_,La,O,by first|exact bT oa|exact bF oa|exact bD oa⟩
   refine QC O<|Qa<|Qa<|xb (Yf O O) (λU=>?_) (λU=>?_)
   ·refine Qa<|Qa<|xb (X3 O O) (λV=>?_) (λV=>?_)
    ·refine QC O<|QC O<|Qa<|YP<|QC O<|Qb<|⟨_,La,O,by first|exact bT oa|exact bF oa|exact bD oa⟩
    refine QC O<|QC O<|Qa<|Qa<|x (Zc O O)<|QC O<|Qb<|⟨_,La,O,by first|exact bT oa|exact bF oa|exact bD oa⟩
   refine Qa<|YP<|QC O<|QC O<|Qa<|Qa<|x (Zc O O)<|QC O<|x Qe <|
    xe ?_
   exact⟨_,La,O,by first|exact bT oa|exact bF oa|exact bD oa⟩
  refine Qa<|YP<|QC O<|Qa<|Qa<|xb (Yf O O) (λU=>?_) (λU=>?_)
  ·refine Qa<|Qa<|xb (X3 O O) (λV=>?_) (λV=>?_)
   ·refine QC O<|QC O<|Qa<|YP<|QC O<|Qb<|⟨_,La,O,by first|exact bT oa|exact bF oa|exact bD oa⟩
   refine QC O<|QC O<|Qa<|Qa<|x (Zc O O)<|QC O<|Qb<|⟨_,La,O,by first|exact bT oa|exact bF oa|exact bD oa⟩
  refine Qa<|YP<|QC O<|QC O<|Qa<|Qa<|x (Zc O O)<|QC O<|x Qe <|
   xe ?_
  exact⟨_,La,O,by first|exact bT oa|exact bF oa|exact bD oa⟩
 rintro z g w4 ⟨rfl,rfl⟩;refine QW (α:=Bool) [(32,45)] (λz=>[(45,.bool z)]) (λz w'=>w'=w4/\z=decide (¬nmP k c)) oh ?_ ?_
 ·unfold nmP;rw[<-hc];refine Qr<|Qa<|xb (yb O) (λhm=>?_) (λhm=>?_)
  ·refine Qa<|Qa<|xb (Zc O O) (λhn=>?_) (λhn=>?_)
   ·refine Qa<|YP<|QC O<|Qa<|YP<|QC O<|QC O<|xe ?_;exact⟨_,La,O,by first|exact bT oa|exact bF oa|exact bD oa⟩
   refine Qa<|Qa<|xb (YB O O) (λho=>?_) (λho=>?_)
   ·refine QC O<|Qa<|YP<|QC O<|QC O<|xe ?_;exact⟨_,La,O,by first|exact bT oa|exact bF oa|exact bD oa⟩
   refine QC O<|Qa<|Qa<|x (Z8 O O)<|QC O<|QC O<|xe ?_;exact⟨_,La,O,by first|exact bT oa|exact bF oa|exact bD oa⟩
  refine Qa<|ZA<|ZA<|ZA<|Kd<|QC O<|xe ?_;exact⟨_,La,O,by first|exact bT oa|exact bF oa|exact bD oa⟩
 rintro z g w5 ⟨rfl,rfl⟩;refine Zg rfl (λY=>?_) (λY=>?_)
 ·refine Qc<|Qb ?_;have I:Xp s=false:=by
   unfold Xp;rw[<-E,T,O0 Y];rfl
  exact Qj ⟨[_],La,by rw[I];rfl,O⟩
 refine Qf ?_;have hp:nmP k c:=Lt.1 Y;refine Qr<|QB O O<|Qa<|xe ?_;rw[T,OY hp,OK]at E;exact⟨k+1,oa,La,O,J,E⟩
def nmM (l:List ByteArray):List (ByteArray×O3):=l.map λs=>(s,.bool true)
theorem QmH (l:List ByteArray)(s:ByteArray):xh (nmM l) s=if s∈l then some (.bool true) else none:=by
 induction l with
 | nil=>rfl
 | cons a l ih =>
  show(if a=s then some (Value.bool true) else xh (nmM l) s)=_
  rw[ih];by_cases h:a=s
  ·subst h;simp
  have:s≠a:=λe=>h e.symm;simp[h,this]
theorem Qf2 {l:List ByteArray}{s:ByteArray}(h:s∉l):xj (nmM l) s (.bool true)=nmM (l++[s]):=by
 induction l with
 | nil=>rfl
 | cons a l ih =>
  have E:a≠s:=λe=>h (by subst e;exact Lh);show(if a=s then(a,Value.bool true)::nmM l else(a,Value.bool true)::xj (nmM l) s (.bool true))=_
  rw[OU E,ih (λG=>h (Lj _ G))];rfl
theorem Qct [hm:Mp P t kt et (.bool false)][hk:Key P kt XB]{x:O4}{b:Nat}{l:List ByteArray}{s:ByteArray}(h:ZU XB ↑w b (nmM l))(hx:ev f x=.map (some b))(E:ev f y=.string s):
  (execOp (ev f) ⟨d,.lookup t x y false,ty,pS,af,gd⟩).run P w=.ok (.value (.bool (decide (s∈l)))) w:=by
 rw[Jr h hx E,QmH];by_cases G:s∈l <;> simp[G]
theorem QeW {s:List ByteArray}{l:List VE}{k:Nat}(h:k<l.length):qT s (l.drop k)=if Je s (l[k]'h)≠0 then Je s (l[k]'h) else qT (s++[(l[k]'h).nm]) (l.drop (k+1)):=by
 rw[QY h];rfl
theorem yM {v:O3}{l:List VE}(h:qL L ↑w v l):QU sV 110 [v] w λr w'=>r=sS (XQ l)/\sW w w':=by
 have h7:=h.arr.le;refine Zm func110 ?_;refine Qc<|Qb<|Qd<|Ql<|QG h.arr O<|x (Z8 O O)<|xe<|Zg rfl (λh8=>?_) (λh8=>?_)
 ·refine Qc<|Qb<|Qj ⟨[_],La,by unfold XQ;rw[OV (by have h9:(32:Int)<(l.length:Int):=h8;omega)];rfl,O6.Y _ _⟩
 have hck:XQ l=qT [] l:=by unfold XQ;rw[OU (by have h9:¬(32:Int)<(l.length:Int):=h8;omega)]
 rw[hck];refine Qf<|Qc<|Qo<|Z1 XB λb9 w1 ho hs hu=>Qb<|Qd<|Ql<|QG (h.arr.I ho) O<|Qa<|xe<|QX (α:=Nat×List ByteArray) [(2,2),(5,5),(12,50)] (λz=>[(12,sS z.1)]) (λz w'=>z.1<=l.length/\sW w w'/\ZU XB ↑w' b9 (nmM z.2)/\qT z.2 (l.drop z.1)=qT [] l) (λz=>l.length - z.1) (0,[]) La
  ⟨Lo _,ho,hu,O⟩ ?_
 rintro⟨k,sn⟩ g w2 ⟨hk,J,hv,G⟩;refine Zk rfl O (λhg=>?_) (λhg=>?_)
 ·refine Qt ?_;have hw:l.length<=k:=by have hy:¬(k:Int)<(l.length:Int):=hg;omega
  rw[Lu hw]at G;refine Qc<|Qb<|Qj ⟨[_],La,by rw[<-G];rfl,J⟩
 have Y:k<l.length:=by have hy:(k:Int)<(l.length:Int):=hg;omega
 rw[QeW Y]at G;have hp:=h.nm _ (Lm Y);refine Qf<|Qd<|Qn<|Qc<|O9 zK (h.arr.I J) O O Y λhA hq=>?_;refine Zd (l[k]'Y) λe he=>?_;rw[he]at hq G hp;refine x (QF hq O O)<|QT [.string .empty,.bool false,.bool false,.bool false,sS 0] λb5 w3 hz h0 I=>Q5 (Zy e) I ⟨O,O,O,O,O,Z⟩ λw4 h2 I =>
  xe ?_
 have T:sW w2 w4:=hz.Q h2 h0;have hr:=hv.I T;refine Qd<|Qn<|Qc<|Qs O I O O<|Qw<|(qJ e.nm hp _).S ?_;rintro r5 w5 ⟨rfl,rfl⟩;refine x (Zj O)<|Qb<|Q6 O (λhh=>?_) (λhh=>?_)
 ·have U:Xp e.nm=false:=by simpa using hh
  have E:Je sn e=7:=by unfold Je;rw[OV U]
  refine Qc<|Qb<|Qj ⟨[_],La,by rw[<-G,E];rfl,J.D T⟩
 have U:¬Xp e.nm=false:=by simpa using hh
 refine Ql<|Qs O I O O<|x (Qct hr O O)<|Qb<|Zg O (λV=>?_) (λV=>?_)
 ·have E:Je sn e=8:=by unfold Je;rw[OU U,OV V]
  refine Qc<|Qb<|Qj ⟨[_],La,by rw[<-G,E];rfl,J.D T⟩
 refine QW (α:=Bool) [(26,34)] (λz=>[(26,.bool z)]) (λz w'=>w'=w5/\z=decide (e.fl<0\/4<e.fl)) oh ?_ ?_
 ·refine Qr<|Qs O I O O<|xb (YB O O) (λh3=>?_) (λh3=>?_)
  ·refine Qa<|ZA<|QC O<|Qb<|⟨_,La,O,by first|exact bT oa|exact bF oa|exact bD oa⟩
  refine Qa<|Qs O I O O<|x (Z8 O O)<|QC O<|Qb<|⟨_,La,O,by first|exact bT oa|exact bF oa|exact bD oa⟩
 rintro z g w6 ⟨rfl,rfl⟩;refine Zg rfl (λha=>?_) (λha=>?_)
 ·have E:Je sn e=2:=by unfold Je;rw[OU U,OU V,OV ha]
  refine Qc<|Qb<|Qj ⟨[_],La,by rw[<-G,E];rfl,J.D T⟩
 refine QW (α:=Bool) [(35,46)] (λz=>[(35,.bool z)]) (λz w'=>w'=w6/\z=decide (e.fl≠0/\(e.co || e.ob)=true)) oh ?_ ?_
 ·refine Qr<|Qs O I O O<|xb (Jd O O) (λhf=>?_) (λhf=>?_)
  ·refine Qa<|Q9 O<|xB (Qk I O O) (λhj=>?_) (λhj=>?_)
   ·refine Qa<|YP<|QC O<|QC O<|Qb<|⟨_,La,O,by rw[hj,OY ⟨hf,od⟩]⟩
   refine Qa<|Qs O I O O<|QC O<|QC O<|Qb<|⟨_,La,O,?_⟩;show e.ob=_;rw[hj];cases e.ob <;> simp[show ¬e.fl=0 from hf]
  refine Qa<|ZA<|ZA<|QC O<|Qb<|⟨_,La,O,bF (λE=>hf E.1)⟩
 rintro z g w7 ⟨rfl,rfl⟩;refine Zg rfl (λhm=>?_) (λhm=>?_)
 ·have E:Je sn e=13:=by unfold Je;rw[OU U,OU V,OU ha,OV hm]
  refine Qc<|Qb<|Qj ⟨[_],La,by rw[<-G,E];rfl,J.D T⟩
 have E:Je sn e=0:=by unfold Je;rw[OU U,OU V,OU ha,OU hm]
 rw[E,OU (λh=>h rfl)]at G;refine Qf<|Qr<|Qa<|Qs O I O O<|Qo<|YR (k:=e.nm) hr O O λw8 h4 h5=>xe ?_;refine Qr<|QB O O<|Qa<|xe ?_;have h6:ZU XB ↑w8 b9 (nmM (sn++[e.nm])):=by rw[<-Qf2 V];exact h5
 exact⟨(k+1,sn++[e.nm]),oe,La,Y,(J.D T).Q h4 hs,h6,G⟩
theorem QcS {α:Type}(q:α->Bool)(x:α):∀(l:List α) (i:Nat),ixs q i (l++[x])=ixs q i l++if q x=true then[((i+l.length:Nat):Int)]else[]
 | [],i=>by simp[ixs]
 | a::l,i=>by
  simp only[oZ,ixs,(QcS q x l (i+1)),oQ];rw[show i+1+l.length=i+(l.length+1) by omega];split <;> simp
theorem Qbh {α:Type}(q:α->Bool):∀(l:List α) (i:Nat),(ixs q i l).length<=l.length
 | [],i=>by simp[ixs]
 | a::l,i=>by
  have ih:=Qbh q l (i+1);unfold ixs;split <;> simp <;> omega
theorem Qj1 (q:α->Bool){l:List α}{k:Nat}(h:k<l.length):ixs q 0 (l.take (k+1))=ixs q 0 (l.take k)++if q (l[k]'h)=true then[(k:Int)]else[]:=by
 rw[Ll h,QcS];simp[Nat.min_eq_left (Nat.le_of_lt h)]
theorem QhH [Fu sV g fn]{q:VE->Bool}(hq:∀(e:VE) (w:O2),QU sV g [sT (Zy e)] w λr w'=>r=.bool (q e)/\sW w w'){v:O3}{l:List VE}(h:qL L ↑w v l):
  QU sV 195 [v,.func (.func g) #[] #[]] w λr w'=>sW w w'/\Qh 3 ↑w w' r (ixs q 0 l):=by
 have hy:=h.arr.le;refine Zm func195 ?_;refine Qc<|Qb<|Qc<|Qb<|Qd<|Ql<|QG h.arr O<|Qa<|xe<|QX (α:=Nat×O3) [(5,7),(10,22)] (λz=>[(5,z.2),(10,sS z.1)]) (λz w'=>z.1<=l.length/\sW w w'/\Qh 3 ↑w w' z.2 (ixs q 0 (l.take z.1))) (λz=>l.length - z.1) (0,nS) ov
  ⟨Lo _,O6.Y _ _,QL _ _ _ _⟩ ?_
 rintro⟨k,vo⟩ g w1 ⟨hk,E,J⟩;simp only[]at hk J;refine Zk rfl O (λU=>?_) (λU=>?_)
 ·refine Qt ?_;have hh:l.length<=k:=by have hj:¬(k:Int)<(l.length:Int):=U;omega
  rw[Lr hh]at J;refine Ql<|Qb<|Qj ⟨[_],La,E,J⟩
 have G:k<l.length:=by have hj:(k:Int)<(l.length:Int):=U;omega
 have I:=Qj1 q G;have hz:=Qbh q (l.take k) 0;have h0:(l.take k).length=k:=by simp;omega
 refine Qf<|Qd<|Qn<|Ql<|O9 zK (h.arr.I E) O O G λh1 hg=>?_;refine Zd (l[k]'G) λe he=>?_;rw[he]at hg I;refine x (QF hg O O)<|QT [.string .empty,.bool false,.bool false,.bool false,sS 0] λb7 w2 hm hn V=>x Qe <|
  Q5 (Zy e) V ⟨O,O,O,O,O,Z⟩ λw3 ho V=>xe ?_
 have hp:sW w1 w3:=hm.Q ho hn;refine Ql<|Q3 V O O<|Qo<|xc (first:=[]) (capt:=[]) O<|(hq e w3).S ?_;rintro r4 w4 ⟨rfl,hr⟩;have T:=hp.D hr;have Y:=Qm J T;have h2:=(E.D T).size;refine xe<|Q6 rfl (λha=>?_) (λha=>?_)
 ·rw[OV ha]at I;refine Qr<|Qa<|Qa<|Qo<|Q8 [[sS k]] λh3 w5 hf h4 hs=>?_;have hu:=Qm Y hf;have h5:=hf.size;refine Qo<|Q2 (news:=[sS k]) (L:=[]) hu O O O (hs.at od) om oa oa λv6 w6 hv hw h6 =>
   Qb<|Qr<|QB O O<|Qa<|xe ?_
  refine⟨(k+1,v6),oe,ov,G,((E.D T).D hf).O hw (λb hb=>.inr ((Qi Y) b hb).1),?_⟩;simp only[];rw[I];exact Qh.snoc hv
 rw[OU (by rw[ha];decide),LH]at I;refine Qf<|Qr<|QB O O<|Qa<|xe ?_;exact⟨(k+1,vo),oe,ov,G,E.D T,by simp only[];rw[I];exact Y⟩
theorem Qe6 (e:VE)(w:O2):QU sV 190 [sT (Zy e)] w λr w'=>r=.bool (!e.co)/\sW w w':=by
 refine Zm func190 ?_;refine Qc<|Zf (Zy e) λI J E T G=>Qb<|Qc<|Qs O G O O<|x (Zj O)<|Qb<|Qj ⟨[_],La,O,E⟩
theorem Qaz {v:O3}{l:List VE}(h:qL L ↑w v l):QU sV 123 [v,sS 2] w λr w'=>sW w w' /\
  ∃vo,r=.tuple #[vo,sS (XQ l)]/\Qh 3 ↑w w' vo (if XQ l=0 then unc l else[]):=by
 refine Zm func123 ?_;refine Qc<|x Qe<|Qb<|Qd<|Ql<|Qw<|(yM h).S ?_;rintro r1 U ⟨rfl,J⟩;refine Qb<|Ql<|ZN O O<|xe<|Zg rfl (λG=>?_) (λG=>?_)
 ·refine Ql<|x Qe<|Qb<|Qj ⟨[_,_],ov,J,_,O,by rw[OU G];exact QL _ _ _ _⟩
 have T:XQ l=0:=Lt.1 G;refine Qf<|Qc<|Qo<|Z1 XJ λb15 w2 V E Y=>Qo<|Yu (k:=1) Y O O λw3 ha he=>Qo<|Yu (k:=2) he O O λw4 hf hg =>
  Qo<|Yu (k:=3) hg O O λw5 hh hj=>Qo<|Yu (k:=4) hj O O λw6 hk hm=>Qo<|Yu (k:=5) hm O O λw7 hn ho=>Qo<|Yu (k:=6) ho O O λw8 hp hq =>
  Qa<|Qb ?_
 have hr:sW U w8:=(((((V.Q ha E).Q hf E).Q hh E).Q hk E).Q hn E).Q hp E;refine Ql<|Qa<|x (qg (k:=(2:Int)) hq O O O)<|Qa<|QO O O<|QO O O<|x Qe<|Qb<|Qd<|Ql<|x (Zj O)<|xe<|Zw rfl<|Qf ?_;have I:=J.D hr;refine Ql<|Qa<|Qw<|(QhH Qe6 (h.I I)).S ?_;rintro r9 w9 ⟨hs,hu⟩;refine x Qe<|Qb<|Qj ⟨[_,_],ov,I.D hs,_,by rw[T];rfl,?_⟩;rw[OV T];exact Za hu I.size
theorem QcW (n:Int)(w:O2):QU sV 242 [sS n] w λr w'=>r=.bool (grt n)/\w'=w:=by
 refine Zm func242 ?_;refine Qc<|Qb<|QW (α:=Bool) [(2,8)] (λz=>[(2,.bool z)]) (λz w'=>w'=w/\z=grt n) oh ?_ ?_
 ·refine Qr<|Qa<|xb (YB O O) (λE=>?_) (λE=>?_)
  ·refine Qa<|YP<|QC O<|Qb<|⟨_,La,O,by unfold grt;rw[OY E];rfl⟩
  refine Qa<|Qa<|x (Z8 O O)<|QC O<|Qb<|⟨_,La,O,by unfold grt;rw[O0 E];rfl⟩
 rintro z g G ⟨rfl,rfl⟩;exact Qj ⟨[_],La,O,O⟩
theorem QeV {sz:LI}{ls:xx}{k:Nat}(h:k<ls.length):XC sz (pv (ls.map (·.1)) k) (ls.drop k)=if(ls[k]'h).1<0\/(sz.length:Int)<=(ls[k]'h).1 then 2 else if yq (pv (ls.map (·.1)) k) (ls[k]'h).1=true then 5 else if(ls[k]'h).2<0\/O7 sz (ls[k]'h).1.toNat<=(ls[k]'h).2 then 2 else XC sz (pv (ls.map (·.1)) (k+1)) (ls.drop (k+1)):=by
 rw[QY h,KD (ou h),MQ];rfl
theorem UX {vl:O3}{sz:LI}{ls:xx}{nm:ByteArray}(hS:Qu [] ↑w vs sz)(hl:P2s [] ↑w vl ls):
  QU sV 177 [.agg #[vs,vx,vk],.agg #[.string nm,vl]] w λr w'=>r=sS (J0 sz ls)/\sW w w':=by
 have hI:=hl.le;refine Zm func177 ?_;refine Qc<|Zf [vs,vx,vk] λb2 w1 h1 hJ V=>Zf [.string nm,vl] λb3 w2 hr hK Y=>Qb ?_;have E:=h1.D hr
 replace V:=V.I hr;refine Qd<|Qc<|Qs O Y O O<|QG (hl.I E) O<|x (Zc O O)<|xe<|Zg rfl (λha=>?_) (λha=>?_)
 ·refine Qc<|Qb<|Qj ⟨[_],La,by unfold J0;rw[OV (by have h2:(ls.length:Int)=0:=ha;omega)];rfl,E⟩
 have h3:ls.length≠0:=by have h2:¬(ls.length:Int)=0:=ha;omega
 have h4:J0 sz ls=XC sz none ls:=by unfold J0;rw[OU h3]
 rw[h4];refine Qf<|Qd<|Qc<|Qs O Y O O<|QG (hl.I E) O<|Qa<|xe<|QX (α:=Nat) [(4,6),(14,61)] (λz=>[(14,sS z)]) (λz w'=>z<=ls.length/\sW w2 w'/\XC sz (pv (ls.map (·.1)) z) (ls.drop z)=XC sz none ls) (λz=>ls.length - z) 0 La
  ⟨Lo _,O6.Y _ _,O⟩ ?_
 rintro k g w3 ⟨hk,J,hck⟩;have hf:=E.D J;have hs:=V.I J;have hu:=hl.I hf;have hv:=hS.I hf;refine Zk rfl O (λhg=>?_) (λhg=>?_)
 ·refine Qt ?_;have h5:ls.length<=k:=by have h6:¬(k:Int)<(ls.length:Int):=hg;omega
  rw[Lu h5]at hck;refine Qc<|Qb<|Qj ⟨[_],La,by rw[<-hck];rfl,hf⟩
 have T:k<ls.length:=by have h6:(k:Int)<(ls.length:Int):=hg;omega
 rw[QeV T]at hck;refine Qf<|Qd<|Qn<|Ql<|O9 X9 hu O O T λhL hw=>?_;refine Zd (ls[k]'T) λe he=>?_;rw[he]at hw hck;refine x (QF hw O O)<|QT [sS 0,sS 0] λb6 w4 h7 h8 I=>x Qe<|Q5 (Zh e) I ov λw5 h9 I=>xe ?_;have G:sW w3 w5:=h7.Q h9 h8;have hy:=J.D G;refine Qn<|QW (α:=Bool) [(19,30)] (λz=>[(19,.bool z)]) (λz w'=>w'=w5/\z=decide (e.1<0\/(sz.length:Int)<=e.1)) oh ?_ ?_
 ·refine Qr<|Qs O I O O<|xb (YB O O) (λhA=>?_) (λhA=>?_)
  ·refine Qa<|ZA<|ZA<|QC O<|Qb<|⟨_,La,O,by first|exact bT oa|exact bF oa|exact bD oa⟩
  refine Qa<|Qs O I O O<|Qs O (hs.I G) O O<|QG (hv.I G) O<|x (Yf O O) <|
   QC rfl<|Qb<|⟨_,La,O,by first|exact bT oa|exact bF oa|exact bD oa⟩
 rintro z g w6 ⟨rfl,rfl⟩;refine Zg rfl (λhh=>?_) (λhh=>?_)
 ·rw[OV hh]at hck;refine Qc<|Qb<|Qj ⟨[_],La,by rw[<-hck];rfl,E.D hy⟩
 rw[OU hh]at hck;have hB:e.1=((e.1.toNat:Nat):Int):=oa
 have hC:e.1.toNat<sz.length:=oa
 refine QW (α:=Bool) [(31,45)] (λz=>[(31,.bool z)]) (λz w'=>sW w6 w'/\z=yq (pv (ls.map (·.1)) k) e.1) oh ?_ ?_
 ·refine ZK [] (Xj 0 15 [])<|p Qy<|pb (λ_=>Z8 O O) (λhj=>?_) (λhj=>?_)
  ·have hm:k≠0:=by have hD:(0:Int)<(k:Int):=hj;omega
   have hk1:((k:Int) - 1)=((k - 1:Nat):Int):=oa
   have hn:k - 1<ls.length:=oa
   refine p Qy<|p (QH O)<|pq (λ_ hc=>Qk (I.I hc) O O)<|p (QH O)<|pq (λ_ hc=>Qk (((Y.I J).I G).I hc) O O) <|
    p Qy<|p (λ_=>JB O O ⟨oa,oa⟩)<|Lg.pig (g:=Zh) (i:=k - 1) O X9 (hu.I G) O (OW sS hk1) hn λhM hE=>p (λ_=>ZF O) <|
    pq (λ_ hc=>Qq ((hE.fld 0 _ O).I hc) O)<|p (λ_=>X3 O O)<|p (YU O)<|p ZI<|pe ?_
   refine⟨_,La,O6.X _ _,?_⟩;have:pv (ls.map (·.1)) k=some (ls[k - 1]'hn).1:=by simp[pv,hm,hn]
   rw[this];rfl
  have hm:k=0:=by have hD:¬(0:Int)<(k:Int):=hj;omega
  refine p Qy<|ps<|ps<|ps<|ps<|ps<|ps<|ps<|ps<|ps<|ps<|p (YU O)<|p ZI<|pe ?_;exact⟨false,La,O6.X _ _,by simp[pv,hm,yq]⟩
 rintro z g w7 ⟨U,rfl⟩;have hz:=hy.D U;refine Q6 rfl (λho=>?_) (λho=>?_)
 ·rw[OV ho]at hck;refine Qc<|Qb<|Qj ⟨[_],La,by rw[<-hck];rfl,E.D hz⟩
 rw[OU (by simp[ho])]at hck;have hp:=I.I U;refine QW (α:=Bool) [(46,60)] (λz=>[(46,.bool z)]) (λz w'=>sW w7 w'/\z=decide (e.2<0\/O7 sz e.1.toNat<=e.2)) oh ?_ ?_
 ·refine ZK [] (Xj 0 15 [])<|p (QH O)<|pq (λ_ hc=>Qk (hp.I hc) O O)<|pb (λ_=>YB O O) (λhF=>?_) (λhF=>?_)
  ·refine p Qy<|ps<|ps<|ps<|ps<|ps<|ps<|ps<|ps<|ps<|p (YU O)<|p ZI<|pe ?_;exact⟨_,La,O6.X _ _,by first|exact bT oa|exact bF oa|exact bD oa⟩
  refine p Qy<|p (QH O)<|pq (λ_ hc=>Qk (hp.I hc) O O)<|p (QH O)<|pq (λ_ hc=>Qk (((hs.I G).I U).I hc) O O) <|
   p (QH rfl)<|pq (λ_ hc=>Qk (hp.I hc) O O)<|pic (i:=e.1.toNat) O ((hv.I G).I U) O (OW sS hB) hC λhN hG=>pq (λ_ hc=>Qq (hG.I hc) O) <|
   p (λ_=>Yf O O)<|p (YU O)<|p ZI<|pe ?_
  exact⟨_,La,O6.X _ _,by first|exact bT oa|exact bF oa|exact bD oa⟩
 rintro z g w8 ⟨hH,rfl⟩;have h0:=hz.D hH;refine Zg rfl (λhq=>?_) (λhq=>?_)
 ·rw[OV hq]at hck;refine Qc<|Qb<|Qj ⟨[_],La,by rw[<-hck];rfl,E.D h0⟩
 rw[OU hq]at hck;refine Qf<|Qr<|QB O O<|Qa<|xe ?_;exact⟨k+1,oa,La,T,h0,hck⟩
theorem QeU {sz:LI}{ls:xx}{k:Nat}(h:k<ls.length):JZ sz (pv (ls.map (·.1)) k) (ls.drop k)=if(ls[k]'h).1<0\/(sz.length:Int)<=(ls[k]'h).1 then 2 else if yq (pv (ls.map (·.1)) k) (ls[k]'h).1=true then 5 else if(ls[k]'h).2=0\/grt (ls[k]'h).2=true then 2 else JZ sz (pv (ls.map (·.1)) (k+1)) (ls.drop (k+1)):=by
 rw[QY h,KD (ou h),MQ];rfl
theorem V5 {vl:O3}{sz:LI}{ls:xx}{nm:ByteArray}{bd:Int}(hS:Qu [] ↑w vs sz)(hl:P2s [] ↑w vl ls):
  QU sV 179 [.agg #[vs,vx,vk],.agg #[.string nm,vl,sS bd]] w λr w'=>r=sS (XD sz ⟨nm,ls,bd⟩)/\sW w w':=by
 have hH:=hl.le;refine Zm func179 ?_;refine Qc<|Zf [vs,vx,vk] λb2 w1 h3 hI V=>Zf [.string nm,vl,sS bd] λb3 w2 hs hJ Y=>Qb ?_;have E:=h3.D hs
 replace V:=V.I hs;refine Qd<|Qc<|Qs O Y O O<|QG (hl.I E) O<|x (Zc O O)<|xe<|Zg rfl (λha=>?_) (λha=>?_)
 ·refine Qc<|Qb<|Qj ⟨[_],La,by unfold XD;rw[OV (by have h4:(ls.length:Int)=0:=ha;show ls.length=0;omega)];rfl,E⟩
 have h5:ls.length≠0:=by have h4:¬(ls.length:Int)=0:=ha;omega
 have h6:XD sz ⟨nm,ls,bd⟩=if JZ sz none ls≠0 then JZ sz none ls else if grt bd=true then 2 else 0:=by unfold XD;rw[OU h5]
 rw[h6];refine Qf<|Qd<|Qc<|Qs O Y O O<|QG (hl.I E) O<|Qa<|xe<|QX (α:=Nat) [(4,6),(14,55)] (λz=>[(14,sS z)]) (λz w'=>z<=ls.length/\sW w2 w'/\JZ sz (pv (ls.map (·.1)) z) (ls.drop z)=JZ sz none ls) (λz=>ls.length - z) 0 La
  ⟨Lo _,O6.Y _ _,O⟩ ?_
 rintro k g w3 ⟨hk,J,hck⟩;have T:=E.D J;have hu:=Y.I J;have hv:=hl.I T;refine Zk rfl O (λhf=>?_) (λhf=>?_)
 ·refine Qt ?_;have h7:ls.length<=k:=by have h8:¬(k:Int)<(ls.length:Int):=hf;omega
  rw[Lu h7]at hck;have h9:JZ sz none ls=0:=hck.symm;rw[h9,OU (λh=>h rfl)];refine Qd<|Qc<|Qs O hu O O<|Qw<|(QcW bd _).S ?_;rintro r4 w4 ⟨rfl,rfl⟩;refine xe<|Q6 O (λhh=>?_) (λhh=>?_)
  ·rw[OV hh];refine Qc<|Qb<|Qj ⟨[_],La,O,T⟩
  rw[OU (by simp[hh])];refine Qf<|Qc<|Qb<|Qj ⟨[_],La,O,T⟩
 have U:k<ls.length:=by have h8:(k:Int)<(ls.length:Int):=hf;omega
 rw[QeU U]at hck;refine Qf<|Qd<|Qn<|Ql<|O9 X9 hv O O U λhK hw=>?_;refine Zd (ls[k]'U) λe he=>?_;rw[he]at hw hck;refine x (QF hw O O)<|QT [sS 0,sS 0] λb6 w4 hA hB G=>x Qe<|Q5 (Zh e) G ov λw5 hC G=>xe ?_;have I:sW w3 w5:=hA.Q hC hB;have hy:=J.D I;refine Qn<|QW (α:=Bool) [(19,30)] (λz=>[(19,.bool z)]) (λz w'=>w'=w5/\z=decide (e.1<0\/(sz.length:Int)<=e.1)) oh ?_ ?_
 ·refine Qr<|Qs O G O O<|xb (YB O O) (λhD=>?_) (λhD=>?_)
  ·refine Qa<|ZA<|ZA<|QC O<|Qb<|⟨_,La,O,by first|exact bT oa|exact bF oa|exact bD oa⟩
  refine Qa<|Qs O G O O<|Qs O ((V.I J).I I) O O<|QG ((hS.I T).I I) O<|x (Yf O O) <|
   QC rfl<|Qb<|⟨_,La,O,by first|exact bT oa|exact bF oa|exact bD oa⟩
 rintro z g w6 ⟨rfl,rfl⟩;refine Zg rfl (λhj=>?_) (λhj=>?_)
 ·rw[OV hj]at hck;refine Qc<|Qb<|Qj ⟨[_],La,by rw[<-hck,OV og];rfl,E.D hy⟩
 rw[OU hj]at hck;refine QW (α:=Bool) [(31,45)] (λz=>[(31,.bool z)]) (λz w'=>sW w6 w'/\z=yq (pv (ls.map (·.1)) k) e.1) oh ?_ ?_
 ·refine ZK [] (Xj 0 15 [])<|p Qy<|pb (λ_=>Z8 O O) (λhm=>?_) (λhm=>?_)
  ·have hn:k≠0:=by have hE:(0:Int)<(k:Int):=hm;omega
   have hk1:((k:Int) - 1)=((k - 1:Nat):Int):=oa
   have ho:k - 1<ls.length:=oa
   refine p Qy<|p (QH O)<|pq (λ_ hc=>Qk (G.I hc) O O)<|p (QH O)<|pq (λ_ hc=>Qk ((hu.I I).I hc) O O) <|
    p Qy<|p (λ_=>JB O O ⟨oa,oa⟩)<|Lg.pig (g:=Zh) (i:=k - 1) O X9 (hv.I I) O (OW sS hk1) ho λhL hF=>p (λ_=>ZF O) <|
    pq (λ_ hc=>Qq ((hF.fld 0 _ O).I hc) O)<|p (λ_=>X3 O O)<|p (YU O)<|p ZI<|pe ?_
   refine⟨_,La,O6.X _ _,?_⟩;have:pv (ls.map (·.1)) k=some (ls[k - 1]'ho).1:=by simp[pv,hn,ho]
   rw[this];rfl
  have hn:k=0:=by have hE:¬(0:Int)<(k:Int):=hm;omega
  refine p Qy<|ps<|ps<|ps<|ps<|ps<|ps<|ps<|ps<|ps<|ps<|p (YU O)<|p ZI<|pe ?_;exact⟨false,La,O6.X _ _,by simp[pv,hn,yq]⟩
 rintro z g w7 ⟨hz,rfl⟩;have h0:=hy.D hz;refine Q6 rfl (λhp=>?_) (λhp=>?_)
 ·rw[OV hp]at hck;refine Qc<|Qb<|Qj ⟨[_],La,by rw[<-hck,OV og];rfl,E.D h0⟩
 rw[OU (by simp[hp])]at hck;have h1:=G.I hz;refine QW (α:=Bool) [(46,54)] (λz=>[(46,.bool z)]) (λz w'=>sW w7 w'/\z=decide (e.2=0\/grt e.2=true)) oh ?_ ?_
 ·refine Qr<|Qs O h1 O O<|xb (Zc O O) (λhq=>?_) (λhq=>?_)
  ·refine Qa<|ZA<|QC O<|Qb<|⟨_,La,O6.Y _ _,bT (.inl hq)⟩
  refine Qa<|Qs O h1 O O<|Qw<|(QcW e.2 _).S ?_;rintro r9 w9 ⟨rfl,rfl⟩;refine QC O<|Qb<|⟨grt e.2,La,O6.Y _ _,?_⟩;cases hg:grt e.2 with
  | true=>exact bT (.inr O)
  | false=>exact bF (λh=>by rcases h with h|h;exact hq h;cases h)
 rintro z g w8 ⟨hG,rfl⟩;have h2:=h0.D hG;refine Zg rfl (λhr=>?_) (λhr=>?_)
 ·rw[OV hr]at hck;refine Qc<|Qb<|Qj ⟨[_],La,by rw[<-hck,OV og];rfl,E.D h2⟩
 rw[OU hr]at hck;refine Qf<|Qr<|QB O O<|Qa<|xe ?_;exact⟨k+1,oa,La,U,h2,hck⟩
open Go.RowKit
def QdU:Fr->LN->LV->Fr
 | f,p::ps,v::vs=>QdU (upd f p v) ps vs
 | f,_,_=>f
theorem qd {n:Nat}{ds:LN}:∀(ps:LN) (vs:LV) (a:Act) (f:Fr),Xi n ds a f->(∀p∈ps,p<n) ->
  Xi n ds { tmps:=(ps.zip vs).foldl (λt (x:Nat×O3)=>t.setIfInBounds x.1 x.2) a.tmps,defers:=a.defers } (QdU f ps vs)
 | [],_,a,f,h,_=>by cases h;exact⟨by assumption,by assumption,by assumption⟩
 | p::ps,[],a,f,h,_=>by cases h;exact⟨by assumption,by assumption,by assumption⟩
 | p::ps,v::vs,a,f,h,E=>by
  exact qd ps vs _ _ (h.put (dst:=some p) (λd e=>by cases e;exact E p Lh) v) (λq G=>E q (Lj _ G))
def rdE {α:Type}(B:Nat)(L:LN)(I:List α->O2->Prop)(X:Exit->List α->O2->Prop)(xs:List α)(W:O2):Exit->LN->Fr->O2->Prop
 | .normal,_,_,W'=>X0 B L W W'/\I xs W'
 | .ret,_,_,W'=>X0 B L W W'/\X .ret xs W'
 | .exit i,_,_,W'=>X0 B L W W'/\X (.exit i) xs W'
 | _,_,_,_=>False
theorem QlC {Q:Exit->LN->Fr->O2->Prop}{g:O4}{ps:LN}{assign body:Code}(L:LN)(Y:1<=m)
  {gf:Nat}  [hF:Fu P gf fn]  (hg:ev f g=.func (.func gf) #[] capt.toArray) {encs:α->LV} {S Sp:List α->Prop}  (hp:∀p∈ps,p<n) (hn:∀x,(encs x).length=ps.length)
  (hq:SeqStopsK (fen none) (m - 1) P gf capt.toArray (λx=>(encs x).toArray) (Lw ↑w L) S Sp N w)
  (I:List α->O2->Prop) (hI:∀s,Ye ↑w (I s)) (X:Exit->List α->O2->Prop) (hX:∀e s,Ye ↑w (X e s)) (h0:I [] w) (A:Fr->α->Fr->O2->Prop) (hA:∀x E,Ye ↑w (A f x E))
  (hf:∀l pre x W,I pre W->WG (some l) (m - 1 - 1) P n assign (QdX (λhe E W'=>he=[]/\X0 ↑w L W W'/\I pre W'/\A f x E W') (λ_ _ _ _=>False)) [] (QdU f ps (encs x)) W)
  (hh:∀l pre x E W,I pre W->A f x E W->pre.length<N->WG (some l) (m - 1 - 1) P n body (rdE ↑w L I X (pre++[x]) W) [] E W)
  (hs:∀D xs W,↑w<=D->S xs->I xs W->W.heap[D]?=some (.deferred (some []))->Q .normal (D::ds) f W)
  (hj:∀D e pre W,↑w<=D->Sp pre->X e pre W->W.heap[D]?=some (.deferred (some []))->(e=.ret\/∃i,e=.exit i)->Q e (D::ds) f W):
  WG none m P n (.rangeFunc g ps.toArray assign body) Q ds f w:=by
 unfold WG at hf hh ⊢;intro a T;have eg:∀args w,(callFunc gf args).run P w=.ok (.enter gf args) w:=by
  intro args w;have Y:¬fn.name = "runtime.NumGoroutine" := by simpa using hF.nm
  have U:¬fn.body=none:=by have:=hF.b;intro e;rw[e]at this;cases this
  simp[callFunc,hF.f,Y,U]
 have keep:∀{W W':O2},X0 ↑w L W W'->KeepsFrom ↑w W W':=λh=>⟨h.lw.size,λk o _ hk ho=>h.other k o hk ho⟩;refine wpIn_rangeFunc_ownH (F:=fen none) O Y (gf:=gf) (lb:=capt.toArray) (by rw[T.eval];exact hg) Z eg hq (λh k=>h.D k)
  (λW l o o' hl ho _ _=>⟨O,O,O,od,λk hk _=>World.putObj_heap_other oa⟩) (Below.refl _ _) (λx=>by simp[hn x]) I
  (λc pre W=>match c with| .ret=>X .ret pre W| .exit i=>X (.exit i) pre W|_=>False) (Ye.own hI) (λc=>Ye.own λs=>?_) h0
  (λx V W=>∃E,Xi n [] V E/\A f x E W) (λx V=>Ye.own λ_=>Ye.ex λE=>Ye.and (Ye.pure _) (hA x E)) ?_ ?_ ?_ ?_
 ·cases c <;> first|exact hX _ s|exact Ye.pure _
 ·intro l pre x W K hi hK;have hr:Xi n [] { tmps:=(ps.toArray.zip (encs x).toArray).foldl (λt (p,v)=>t.setIfInBounds p v) a.tmps,defers:=[] } (QdU f ps (encs x)):=by
   have U:Xi n [] { a with defers:=[] } f:=⟨T.size,O,T.get⟩
   have J:=qd ps (encs x) _ _ U hp;have e:(ps.toArray.zip (encs x).toArray).foldl (λt (p,v)=>t.setIfInBounds p v) a.tmps=(ps.zip (encs x)).foldl (λt (x:Nat×O3)=>t.setIfInBounds x.1 x.2) a.tmps:=od
   rw[e];exact J
  refine wpIn_mono (hf l pre x W hi _ hr) ?_;rintro e V W' ⟨he,E,U,_,J⟩;cases e with
  | normal=>obtain⟨rfl,h4,G,h6⟩:=J;exact hK V W' (keep h4) h4.lw G ⟨E,U,h6⟩
  | exit id=>exact J.elim
  | goto l=>exact J.elim
  | ret=>exact J.elim
  | panic ch=>exact J.elim
  | outgrown=>exact J.elim
 ·rintro l pre x V W _ _ hi ⟨E,U,J⟩ hu;refine wpIn_mono (hh l pre x E W hi J hu V U) ?_;rintro e hv W' ⟨he,hw,h4,_,G⟩;cases e with
  | normal=>exact⟨keep G.1,G.1.lw,G.2⟩
  | exit id=>exact⟨keep G.1,G.2⟩
  | goto l=>exact G.elim
  | ret=>exact⟨keep G.1,G.2⟩
  | panic ch=>exact G.elim
  | outgrown=>exact G.elim
 ·intro D xs W hD hS hi hd;exact⟨D::ds,f,⟨T.size,by rw[show coll (D::ds)={ target:=.collected D,args:=#[] }::coll ds from rfl,T.defers],T.get⟩,λ_ _=>rfl,hs D xs W hD hS hi hd⟩
 intro D c pre W hD hS hx hd;have hm:Xi n (D::ds) { a with defers:={ target:=.collected D,args:=#[] }::a.defers } f:=⟨T.size,by rw[show coll (D::ds)={ target:=.collected D,args:=#[] }::coll ds from rfl,T.defers],T.get⟩
 cases c with
 | ret=>exact wpIn_ret ⟨_,f,hm,λ_ _=>O,hj D .ret pre W hD hS hx hd (.inl O)⟩
 | exit i=>exact wpIn_exit ⟨_,f,hm,λ_ _=>O,hj D (.exit i) pre W hD hS hx hd (.inr ⟨i,O⟩)⟩
 | _=>exact hx.elim
theorem Qki {α:Type}(g:α->LV)(sz:Nat)(E:∀x,(g x).length=sz):∀(l:List α) (k:Nat),(l.flatMap g).take (k*sz)=(l.take k).flatMap g
 | [],k=>od
 | e::l,0=>od
 | e::l,k+1=>by
  simp only[oT,List.take_succ_cons,Ou,OL];rw[MY,NG,E,show sz+k*sz - sz=k*sz by omega,Qki g sz E l k,Lr (by rw[E];omega)]
theorem Qf5 {gf:Nat}[Fu sV gf fn]{nms:List ByteArray}{s:ByteArray}(hq:jp s)
  (hs:∀(w':O2) (L:LN),sW w w'->(∀b∈L,↑w<=b)->SeqStopsK (fen none) 9 sV gf capt.toArray (λx:{ x:ByteArray // x∈nms }=>[Value.string x.1].toArray) (Lw ↑w' L) (λys=>ys.map (·.1)=nms) (λ_=>True) N w'):
  QU sV 176 [.string s,.func (.func gf) #[] capt.toArray] w λr w'=>r=sS (Vi nms s)/\sW w w':=by
 refine QU.of_G 10 func176 O ntmps176 results176 od ?_;refine QQ<|Qx oh oh<|Zf [.string s] λb2 w1 hu hz hk=>QT [sS 0] λJ w2 ho h0 hh=>xe ?_;have ha:=hu.D ho;have h5:=hh.lt;have hp:=hk.I ho;have h6:=hk.lt;refine QQ<|QQ<|Qx oh oh<|ZD hp O O<|KX<|(qJ s hq _).S ?_;rintro r3 w3 ⟨rfl,rfl⟩;refine x (Zj O)<|xe<|KM rfl (λh8=>?_) (λh8=>?_)
 ·have hn:Xp s=false:=by simpa using h8
  have hr:Vi nms s=7:=by unfold Vi;rw[OV hn]
  refine QQ<|Qx oh oh<|Qo<|Qv (j:=0) (u:=sS 7) hh O O og O λw4 V he=>xe ?_;refine J4 ⟨λ_ h=>(by cases h),Mx,[sS 7],λW' T=>⟨⟨⟨_,rfl,Xn (At.one ((he.I T).at (L:=[]) od))⟩,Z⟩,by rw[hr];rfl,(ha.Q V oa).D T⟩⟩
 have hn:¬Xp s=false:=by simpa using h8
 refine Yb<|QQ<|QQ<|Qx oh oh<|Qa<|xe<|ZM<|QlC (α:={ x:ByteArray // x∈nms }) (ps:=[10]) [J] oa (capt:=capt) O (encs:=λx=>[.string x.1]) od (λ_=>rfl)
  (hs w3 [J] ha (λb hb=>by simp at hb;omega))
  (λpre W=>O6 [J] w3 W/\QK ↑W b2 9 [.string s]/\QK ↑W J 55 [sS 0]/\∀x∈pre,x.1≠s)
  (λpre=>(Ye.J (Lp _)).and (Ye.blk.and (Ye.blk.and (Ye.pure _))))
  (λe pre W=>e=.ret/\O6 [J] w3 W/\QK ↑W J 55 [sS 8]/\s∈nms)
  (λe pre=>(Ye.pure _).and ((Ye.J (Lp _)).and (Ye.blk.and (Ye.pure _))))
  ⟨O6.Y _ _,hp,hh,λx hx=>by cases hx⟩
  (λf x f' W=>f'=upd (QdU f [10] [.string x.1]) 5 (.string x.1)) (λx f'=>Ye.pure _) ?_ ?_ ?_ ?_
 ·rintro l pre x W ⟨G,h2,I,Y⟩;refine Qx oh oh<|Lg.Qb<|⟨O,X0.refl _ _ _,⟨G,h2,I,Y⟩,O⟩
 ·rintro l pre x f' W ⟨G,h2,I,Y⟩ rfl _;refine ZM<|QQ<|Qx oh oh<|Lg.Qa<|Lg.x (Qk h2 O O)<|Lg.x (QaT O O)<|xe<|Qn2 O (λhj=>?_) (λhj=>?_)
  ·refine QQ<|Qx oh oh<|Qo<|Qv (j:=0) (u:=sS 8) I O O og O λw4 V he=>xe ?_;refine J4 ?_;exact⟨X0.blk V G.size I (.inl od),rfl,G.V V,he,by rw[<-hj];exact x.2⟩
  refine Yb<|⟨X0.refl _ _ _,G,h2,I,λy U=>?_⟩;rcases Le.1 U with U|U
  ·exact Y y U
  simp only[oF]at U;subst U;exact hj
 ·rintro D xs W hD hv ⟨G,h2,I,Y⟩ hf;have hr:Vi nms s=0:=by
   unfold Vi;rw[OU hn,OU];intro hm;rw[<-hv]at hm;obtain⟨y,U,e⟩:=Lx.1 hm;exact Y y U e
  refine QQ<|Qx oh oh<|Qo<|Qv (j:=0) (u:=sS 0) I O O og O λw4 V he=>xe ?_;have hg:D≠J:=oa
  have hw:w4.heap[D]?=some (.deferred (some [])):=by rw[V.block D (LO.1 hf).1 (ou hg)];exact hf
  refine J4 ⟨λE hE=>by simp only[oF]at hE;subst hE;exact hw,od,[sS 0],λW' T=>?_⟩;refine⟨⟨⟨_,O,Xn (At.one ((he.J T (ou hg.symm)).at (L:=[]) od))⟩,Z⟩,by rw[hr];rfl,?_⟩;exact((ha.O G (λb hb=>.inr (by simp at hb;omega))).Q V oa).O T (λb hb=>.inr (by simp at hb;have:=ha.size;omega))
 rintro D e pre W hD _ ⟨rfl,G,I,Y⟩ hf _;have hr:Vi nms s=8:=by unfold Vi;rw[OU hn,OV Y]
 have hg:D≠J:=oa
 refine⟨λE hE=>by simp only[oF]at hE;subst hE;exact hf,od,[sS 8],λW' T=>?_⟩;refine⟨⟨⟨_,O,Xn (At.one ((I.J T (ou hg.symm)).at (L:=[]) od))⟩,Z⟩,by rw[hr];rfl,?_⟩;exact(ha.O G (λb hb=>.inr (by simp at hb;omega))).O T (λb hb=>.inr (by simp at hb;have:=ha.size;omega))
theorem Jv.pre3 {o1 o2 o3:Oper}{l2:xE}(h:XL P ops (λf w=>Jv P m ops K l2 f w) [o1,o2,o3] f w):Jv P m ops K (o1::o2::o3::l2) f w:=Jv.pre [o1,o2,o3] f w h
theorem Qkv {I:Nat}{qs:List XV}{nms:List ByteArray}(hw:QK ↑w I 163 [vs,vx,vk])(hy:QK ↑w T 3 [sS i])(hX:jy L ↑w vx qs)(hi:i<=qs.length)(hn:nms=(qs.take i).map (·.nm)):
  SeqStopsK (fen none) m sV 175 #[sP I,sP T] (λx:{ x:ByteArray // x∈nms }=>[Value.string x.1].toArray) (Lw ↑w L)
   (λys=>ys.map (·.1)=nms) (λ_=>True) (nms.length+1) w:=by
 intro l J Jx W hz hJ h2 hY h0;have hh:sW w W:=O6.of_below hz;have ab:∀{ys:List { x:ByteArray // x∈nms }} {W1 W2:O2},J ys W1->sW W1 W2->J ys W2:=λ{ys W1 W2} hj U=>hJ ys W1 W2 none hj ⟨U.os,U.tape,U.output,U.size,λk V _=>U.block k V od⟩ (λr e=>by cases e);have hC:=hX.arr.le;have hD:nms.length=i:=by rw[hn];simp;omega
 have key:QU sV 175 [.func (.yield l) #[] #[],sP I,sP T] W (λ_ W'=>(∃ys,ys.map (·.1)=nms/\J ys W')\/(∃pre,True/\Jx pre W')):=by
  refine QU.of_G m func175 O ntmps175 results175 od ?_;refine QQ<|Qx oh oh<|Qs O (hw.I hh) O O<|ZD (hy.I hh) O O<|QoB hX.arr O O hi λv9 hr=>QG hr O<|Qa<|xe ?_;have h3:(qs.take i).length=i:=by simp;omega
  have hS:Zu L ↑w v9 (qs.take i).length 2 ((qs.take i).flatMap Z4):=by
   rw[h3,<-Qki Z4 2 zO];exact hr
  refine ZM<|KL (α:=Nat×List { x:ByteArray // x∈nms }) [(5,5),(11,20)] (λz=>[(11,sS z.1)]) (λz ds W'=>ds=[]/\z.1<=i/\O6 L w W'/\z.2.map (·.1)=nms.take z.1/\J z.2 W') (λz=>i - z.1) oh (0,[]) La
   ⟨O,Lo _,hh.any,O,h0⟩ ?_
  rintro⟨k,ys⟩ g ds w1 ⟨rfl,V,hs,Y,hm⟩;simp only[]at V Y hm;refine QQ<|Qx oh oh<|ZW O O<|xe<|QQ<|U3 O (λhu=>?_) (λhu=>?_)
  ·refine JL ?_;rw[Lr oa]at Y;exact⟨λ_ h=>(by cases h),Mx,[],λW' E=>⟨Z,.inl ⟨ys,Y,ab hm E⟩⟩⟩
  refine Yb ?_;have h4:k<i:=by have ho:(k:Int)<(i:Int):=hu;omega
  have hf:k<(qs.take i).length:=oa
  have hg:k<nms.length:=oa
  have hp:nms.take (k+1)=nms.take k++[nms[k]'hg]:=Ll hg;have hE:ys.length=k:=by have:=OW oV Y;rw[Ln,LC]at this;omega
  have h5:nms[k]'hg=((qs.take i)[k]'hf).nm:=by subst hn;simp
  have ha:=Lm hg;rw[h5]at hp ha;refine QQ<|ZM<|QQ<|Qx oh oh<|O9 zO (i:=k) (hS.st hs) O O hf λhF ho=>?_;refine Zd ((qs.take i)[k]'hf) λq hq=>?_;rw[hq]at ho hp ha;refine x (QF ho O O)<|QT [.string .empty,nS] λb5 w2 h6 h7 h8=>Q5 (Z4 q) h8 ⟨O,((hX.each q (L2 (by rw[<-hq];exact Lm hf))).one),Z⟩ λw3 h9 hA=>xe ?_;have hv:sW w1 w3:=h6.Q h9 h7;refine QQ<|Kz oh ?_;refine Jv.pre3 ?_;refine Qa<|Qs O hA O O<|xe<|xy (l:=l) O (hY ys ⟨q.nm,ha⟩ w3 (ab hm hv) oa) λen W3 hB=>Or.elim hB (λG=>⟨.bool true,G.1,?_⟩) (λG=>⟨.bool false,G.1,?_⟩)
  ·refine Jv.of_XL<|x (Zj O)<|xe<|J5 O<|Yb ?_;refine Qx oh oh<|QB O O<|Qa<|xe ?_;exact⟨(k+1,ys++[⟨q.nm,ha⟩]),oe,La,O,h4,(hs.D hv).lw G.2.2,by rw[hp,Ly,Y];rfl,G.2.1⟩
  refine Jv.of_XL<|x (Zj O)<|xe<|jn O ?_;refine J4 ⟨λ_ h=>(by cases h),Mx,[],λW' E=>⟨Z,.inr ⟨ys++[⟨q.nm,ha⟩],Z,?_⟩⟩⟩;exact h2 _ W3 W' none G.2 ⟨E.os,E.tape,E.output,E.size,λk V _=>E.block k V od⟩ (λr e=>by cases e)
 refine(callsIn_wide (n:=m)).2 ?_;have ea:(#[.func (.yield l) #[] #[]]++[sP I,sP T].toArray:Array O3)=#[.func (.yield l) #[] #[],sP I,sP T]:=od
 rw[ea];unfold QU at key;refine Calls.mono key λe w' he=>?_;cases e with
 | returned v=>exact⟨⟨v,O⟩,he⟩
 | panicked c=>exact he.elim
 | outgrown=>exact he.elim
theorem QkS {I:Nat}{qs:List KV}{nms:List ByteArray}(hw:QK ↑w I 163 [vs,vx,vk])(hy:QK ↑w T 3 [sS i])(hX:jm L ↑w vk qs)(hi:i<=qs.length)(hn:nms=(qs.take i).map (·.nm)):
  SeqStopsK (fen none) m sV 178 #[sP I,sP T] (λx:{ x:ByteArray // x∈nms }=>[Value.string x.1].toArray) (Lw ↑w L)
   (λys=>ys.map (·.1)=nms) (λ_=>True) (nms.length+1) w:=by
 intro l J Jx W hz hJ h2 hY h0;have hh:sW w W:=O6.of_below hz;have ab:∀{ys:List { x:ByteArray // x∈nms }} {W1 W2:O2},J ys W1->sW W1 W2->J ys W2:=λ{ys W1 W2} hj U=>hJ ys W1 W2 none hj ⟨U.os,U.tape,U.output,U.size,λk V _=>U.block k V od⟩ (λr e=>by cases e);have hC:=hX.arr.le;have hD:nms.length=i:=by rw[hn];simp;omega
 have key:QU sV 178 [.func (.yield l) #[] #[],sP I,sP T] W (λ_ W'=>(∃ys,ys.map (·.1)=nms/\J ys W')\/(∃pre,True/\Jx pre W')):=by
  refine QU.of_G m func178 O ntmps178 results178 od ?_;refine QQ<|Qx oh oh<|Qs O (hw.I hh) O O<|ZD (hy.I hh) O O<|QoB hX.arr O O hi λv9 hr=>QG hr O<|Qa<|xe ?_;have h3:(qs.take i).length=i:=by simp;omega
  have hS:Zu L ↑w v9 (qs.take i).length 3 ((qs.take i).flatMap Yj):=by
   rw[h3,<-Qki Yj 3 yt];exact hr
  refine ZM<|KL (α:=Nat×List { x:ByteArray // x∈nms }) [(5,5),(11,20)] (λz=>[(11,sS z.1)]) (λz ds W'=>ds=[]/\z.1<=i/\O6 L w W'/\z.2.map (·.1)=nms.take z.1/\J z.2 W') (λz=>i - z.1) oh (0,[]) La
   ⟨O,Lo _,hh.any,O,h0⟩ ?_
  rintro⟨k,ys⟩ g ds w1 ⟨rfl,V,hs,Y,hm⟩;simp only[]at V Y hm;refine QQ<|Qx oh oh<|ZW O O<|xe<|QQ<|U3 O (λhu=>?_) (λhu=>?_)
  ·refine JL ?_;rw[Lr oa]at Y;exact⟨λ_ h=>(by cases h),Mx,[],λW' E=>⟨Z,.inl ⟨ys,Y,ab hm E⟩⟩⟩
  refine Yb ?_;have h4:k<i:=by have ho:(k:Int)<(i:Int):=hu;omega
  have hf:k<(qs.take i).length:=oa
  have hg:k<nms.length:=oa
  have hp:nms.take (k+1)=nms.take k++[nms[k]'hg]:=Ll hg;have hE:ys.length=k:=by have:=OW oV Y;rw[Ln,LC]at this;omega
  have h5:nms[k]'hg=((qs.take i)[k]'hf).nm:=by subst hn;simp
  have ha:=Lm hg;rw[h5]at hp ha;refine QQ<|ZM<|QQ<|Qx oh oh<|O9 yt (i:=k) (hS.st hs) O O hf λhF ho=>?_;refine Zd ((qs.take i)[k]'hf) λq hq=>?_;rw[hq]at ho hp ha;refine x (QF ho O O)<|QT [.string .empty,nS,sS 0] λb5 w2 h6 h7 h8=>Q5 (Yj q) h8 ⟨O,((hX.each q (L2 (by rw[<-hq];exact Lm hf))).one),O,Z⟩ λw3 h9 hA=>xe ?_;have hv:sW w1 w3:=h6.Q h9 h7;refine QQ<|Kz oh ?_;refine Jv.pre3 ?_;refine Qa<|Qs O hA O O<|xe<|xy (l:=l) O (hY ys ⟨q.nm,ha⟩ w3 (ab hm hv) oa) λen W3 hB=>Or.elim hB (λG=>⟨.bool true,G.1,?_⟩) (λG=>⟨.bool false,G.1,?_⟩)
  ·refine Jv.of_XL<|x (Zj O)<|xe<|J5 O<|Yb ?_;refine Qx oh oh<|QB O O<|Qa<|xe ?_;exact⟨(k+1,ys++[⟨q.nm,ha⟩]),oe,La,O,h4,(hs.D hv).lw G.2.2,by rw[hp,Ly,Y];rfl,G.2.1⟩
  refine Jv.of_XL<|x (Zj O)<|xe<|jn O ?_;refine J4 ⟨λ_ h=>(by cases h),Mx,[],λW' E=>⟨Z,.inr ⟨ys++[⟨q.nm,ha⟩],Z,?_⟩⟩⟩;exact h2 _ W3 W' none G.2 ⟨E.os,E.tape,E.output,E.size,λk V _=>E.block k V od⟩ (λr e=>by cases e)
 refine(callsIn_wide (n:=m)).2 ?_;have ea:(#[.func (.yield l) #[] #[]]++[sP I,sP T].toArray:Array O3)=#[.func (.yield l) #[] #[],sP I,sP T]:=od
 rw[ea];unfold QU at key;refine Calls.mono key λe w' he=>?_;cases e with
 | returned v=>exact⟨⟨v,O⟩,he⟩
 | panicked c=>exact he.elim
 | outgrown=>exact he.elim
theorem yK {sz:LI}{qx:List XV}{ks:List KV}(hS:Qu [] ↑w vs sz)(hX:jy [] ↑w vx qx)(hK:jm [] ↑w vk ks):
  QU sV 112 [.agg #[vs,vx,vk]] w λr w'=>r=sS (Y7 sz (qx.map (·.x)) (ks.map (·.k)))/\sW w w':=by
 have gc:=hS.le;have ge:=hX.arr.le;have gg:=hK.arr.le;refine Zm func112 ?_;refine Qc<|Zf [vs,vx,vk] λb1 w1 G gh V=>Qb<|Qd<|Qc<|Qs O V O O<|QG (hS.I G) O<|x (Z8 O O)<|xe<|Zg rfl (λh5=>?_) (λh5=>?_)
 ·refine Qc<|Qb<|Qj ⟨[_],La,by unfold Y7;rw[OV (by have hP:(8:Int)<(sz.length:Int):=h5;omega)];rfl,G⟩
 have h3:¬8<sz.length:=by have hP:¬(8:Int)<(sz.length:Int):=h5;omega
 refine Qf<|Qd<|Qc<|Qs O V O O<|QG (hS.I G) O<|Qa<|xe<|QX (α:=Nat) [(2,2),(4,4),(22,32)] (λz=>[(22,sS z)]) (λz w'=>z<=sz.length/\w'=w1/\(sz.drop z).any Jf=sz.any Jf) (λz=>sz.length - z) 0 La
  ⟨Lo _,O,O⟩ ?_
 rintro k g w2 ⟨hk,rfl,he⟩;refine Zk rfl O (λh6=>?_) (λh6=>?_)
 ·refine Qt ?_;have hp:sz.length<=k:=by have h4:¬(k:Int)<(sz.length:Int):=h6;omega
  rw[Lu hp]at he;have h7:¬sz.any Jf=true:=by rw[<-he];decide
  refine Qd<|QW (α:=Bool) [(33,42)] (λz=>[(42,.bool z)]) (λz w'=>w'=w2/\z=decide (32<qx.length\/32<ks.length)) oh ?_ ?_
  ·refine Qr<|Qs O V O O<|QG (hX.I G).arr O<|xb (Z8 O O) (λhQ=>?_) (λhQ=>?_)
   ·refine Qa<|ZA<|Kd<|QC O<|xe ?_;exact⟨_,La,O,by first|exact bT oa|exact bF oa|exact bD oa⟩
   refine Qa<|Qs O V O O<|QG (hK.I G).arr O<|x (Z8 O O)<|QC O<|xe ?_;exact⟨_,La,O,by first|exact bT oa|exact bF oa|exact bD oa⟩
  rintro z g Y ⟨rfl,rfl⟩;refine Zg O (λh8=>?_) (λh8=>?_)
  ·refine Qc<|Qb<|Qj ⟨[_],La,by unfold Y7;rw[OU h3,OU h7,OV (ou h8)];rfl,G⟩
  have hM:¬(32<(qx.map (·.x)).length\/32<(ks.map (·.k)).length):=by simpa using h8
  have hN:YO sz [] (qx.map (·.x))≠0->Y7 sz (qx.map (·.x)) (ks.map (·.k))=YO sz [] (qx.map (·.x)):=λh=>by
   unfold Y7;rw[OU h3,OU h7,OU hM,OV h]
  have hR:YO sz [] (qx.map (·.x))=0->Y7 sz (qx.map (·.x)) (ks.map (·.k))=Xq sz [] (ks.map (·.k)):=λh=>by
   unfold Y7;rw[OU h3,OU h7,OU hM,OU (by rw[h];exact λh=>h O)]
  refine Qf<|Qd<|Qc<|Qs O (V.I (O6.Y [] Y)) O O<|QG ((hX.I G).I (O6.Y [] Y)).arr O<|Qa<|xe<|QX (α:=Nat) [(2,2),(5,9),(46,65)] (λz=>[(46,sS z)]) (λz w'=>z<=qx.length/\sW Y w'/\YO sz ((qx.take z).map (·.nm)) ((qx.drop z).map (·.x))=YO sz [] (qx.map (·.x))) (λz=>qx.length - z) 0 La
   ⟨Lo _,(O6.Y [] Y),O⟩ ?_
  rintro k g wA ⟨hk,I,hck⟩;refine Zk O O (λhf=>?_) (λhf=>?_)
  ·refine Qt ?_;have hp:qx.length<=k:=by have h9:¬(k:Int)<(qx.length:Int):=hf;omega
   rw[Lu hp]at hck;have hT:YO sz [] (qx.map (·.x))=0:=hck.symm;have hB:=hR hT;refine Qd<|Qc<|Qs O (V.I I) O O<|QG ((hK.I G).I I).arr O<|Qa<|xe<|QX (α:=Nat) [(2,2),(10,14),(69,88)] (λz=>[(69,sS z)]) (λz w'=>z<=ks.length/\sW Y w'/\Xq sz ((ks.take z).map (·.nm)) ((ks.drop z).map (·.k))=Xq sz [] (ks.map (·.k))) (λz=>ks.length - z) 0 La
    ⟨Lo _,I,O⟩ ?_
   rintro k g wA ⟨hk,I,hck⟩;refine Zk O O (λhf=>?_) (λhf=>?_)
   ·refine Qt ?_;have hp:ks.length<=k:=by have h9:¬(k:Int)<(ks.length:Int):=hf;omega
    rw[Lu hp]at hck;have hU:Xq sz [] (ks.map (·.k))=0:=hck.symm;refine Qc<|Qb<|Qj ⟨[_],La,by rw[hB,hU];rfl,G.D I⟩
   have E:k<ks.length:=by have h9:(k:Int)<(ks.length:Int):=hf;omega
   have hr:(ks.take (k+1)).map (·.nm)=(ks.take k).map (·.nm)++[(ks[k]'E).nm]:=by rw[Ll E,Ly];rfl
   rw[QY E,LS]at hck;have hg:=Lm E;have J:=(hK.I G).I I;have hV:=V.I I;refine Qf<|Qd<|Qn<|Ql<|O9 yt J.arr O O E λaA hA=>?_;refine Zd (ks[k]'E) λq hq=>?_;rw[hq]at hA hck hr hg;have hs:=J.each q hg;refine x (QF hA O O)<|QT [sS 0] λb5 Y hu hC hh=>QT [.string .empty,nS,sS 0] λb6 w4 hv hW hD =>
    Qo<|Qv (j:=0) (u:=sS k) (hh.I hv) O O og O λw5 hw hE=>Q5 (Yj q) (hD.J hw (by have:=hh.lt;simp;omega)) ⟨O,hs.one,O,Z⟩ λw6 hy hz=>xe ?_
   have hY:b5<b6:=by have:=hh.lt;omega
   have hj:sW wA w6:=((hu.D hv).Q hw hC).Q hy (oo hu.size);have hF:QK ↑w6 b5 3 [sS k]:=hE.J hy (by simp;omega);have h0:=hV.I hj;have hZ:=J.I hj;refine Qc<|x Zl<|Qb<|Qd<|Qc<|Qs O hz O O<|Qa<|Qw<|(Qf5 (nms:=(ks.take k).map (·.nm)) (capt:=[sP b1,sP b5]) (J.nm q hg) (λw' L hm hL=>QkS (h0.I hm) (hF.I hm) ((hZ.up (λb hb=>.inr (hL b hb))).I hm) hk O)).S ?_;rintro r7 w7 ⟨rfl,ho⟩;refine Qb ?_;have T:=hj.D ho;refine Ql<|ZN O O<|xe<|Zg O (λha=>?_) (λha=>?_)
   ·have e1:Xq sz [] (ks.map (·.k))=Vi ((ks.take k).map (·.nm)) q.nm:=by rw[<-hck];exact OV ha
    refine Ql<|Qb<|Qj ⟨[_],La,by rw[hB,e1];rfl,G.D (I.D T)⟩
   have h1:(if XD sz q.k≠0 then XD sz q.k else Xq sz ((ks.take k).map (·.nm)++[q.nm]) ((ks.drop (k+1)).map (·.k)))=Xq sz [] (ks.map (·.k)):=by rw[<-hck];exact(OU ha).symm
   refine Qf ?_;have ga:=h0.I ho;have gb:=hz.I ho;refine Qc<|Q3 ga O O<|Q3 gb O O<|Qw<|(V5 (((hS.I G).I I).I T) (hs.I T)).S ?_;rintro r8 w8 ⟨rfl,hG⟩;refine Qb ?_;have h2:=T.D hG;refine Ql<|ZN O O<|xe<|Zg O (λU=>?_) (λU=>?_)
   ·have e1:Xq sz [] (ks.map (·.k))=XD sz q.k:=by rw[<-h1];exact OV U
    have hO:XD sz q.k≠0:=U;refine Ql<|Qb<|Qj ⟨[_],La,by rw[hB,e1];rfl,G.D (I.D h2)⟩
   have hH:Xq sz ((ks.take k).map (·.nm)++[q.nm]) ((ks.drop (k+1)).map (·.k))=Xq sz [] (ks.map (·.k)):=by rw[<-h1];exact(OU U).symm
   refine Qf<|Qr<|QB O O<|Qa<|xe ?_;exact⟨k+1,oa,La,E,I.D h2,by rw[hr];exact hH⟩
  have E:k<qx.length:=by have h9:(k:Int)<(qx.length:Int):=hf;omega
  have hr:(qx.take (k+1)).map (·.nm)=(qx.take k).map (·.nm)++[(qx[k]'E).nm]:=by rw[Ll E,Ly];rfl
  rw[QY E,LS]at hck;have hg:=Lm E;have J:=(hX.I G).I I;refine Qf<|Qd<|Qn<|Ql<|O9 zO J.arr O O E λaA hA=>?_;refine Zd (qx[k]'E) λq hq=>?_;rw[hq]at hA hck hr hg;have hs:=J.each q hg;refine x (QF hA O O)<|QT [sS 0] λb5 Y hu hC hh=>QT [.string .empty,nS] λb6 w4 hv hW hD =>
   Qo<|Qv (j:=0) (u:=sS k) (hh.I hv) O O og O λw5 hw hE=>Q5 (Z4 q) (hD.J hw (by have:=hh.lt;simp;omega)) ⟨O,hs.one,Z⟩ λw6 hy hz=>xe ?_
  have hY:b5<b6:=by have:=hh.lt;omega
  have hj:sW wA w6:=((hu.D hv).Q hw hC).Q hy (oo hu.size);have hF:QK ↑w6 b5 3 [sS k]:=hE.J hy (by simp;omega);have h0:=(V.I I).I hj;refine Qc<|x Zl<|Qb<|Qd<|Qc<|Qs O hz O O<|Qa<|Qw<|(Qf5 (nms:=(qx.take k).map (·.nm)) (capt:=[sP b1,sP b5]) (J.nm q hg) (λw' L hm hL=>Qkv (h0.I hm) (hF.I hm) (((J.I hj).up (λb hb=>.inr (hL b hb))).I hm) hk O)).S ?_;rintro r7 w7 ⟨rfl,ho⟩;refine Qb ?_;have T:=hj.D ho;refine Ql<|ZN O O<|xe<|Zg O (λha=>?_) (λha=>?_)
  ·have e1:YO sz [] (qx.map (·.x))=Vi ((qx.take k).map (·.nm)) q.nm:=by rw[<-hck];exact OV ha
   refine Ql<|Qb<|Qj ⟨[_],La,by rw[hN (by rw[e1];exact ha),e1];rfl,G.D (I.D T)⟩
  have h1:(if J0 sz q.ls≠0 then J0 sz q.ls else YO sz ((qx.take k).map (·.nm)++[q.nm]) ((qx.drop (k+1)).map (·.x)))=YO sz [] (qx.map (·.x)):=by rw[<-hck];exact(OU ha).symm
  refine Qf<|Qc<|Q3 (h0.I ho) O O<|Q3 (hz.I ho) O O<|Qw<|(UX (((hS.I G).I I).I T) (hs.I T)).S ?_;rintro r8 w8 ⟨rfl,hG⟩;refine Qb ?_;have h2:=T.D hG;refine Ql<|ZN O O<|xe<|Zg O (λU=>?_) (λU=>?_)
  ·have e1:YO sz [] (qx.map (·.x))=J0 sz q.ls:=by rw[<-h1];exact OV U
   have hO:J0 sz q.ls≠0:=U;refine Ql<|Qb<|Qj ⟨[_],La,by rw[hN (by rw[e1];exact hO),e1];rfl,G.D (I.D h2)⟩
  have hH:YO sz ((qx.take k).map (·.nm)++[q.nm]) ((qx.drop (k+1)).map (·.x))=YO sz [] (qx.map (·.x)):=by rw[<-h1];exact(OU U).symm
  refine Qf<|Qr<|QB O O<|Qa<|xe ?_;exact⟨k+1,oa,La,E,I.D h2,by rw[hr];exact hH⟩
 have E:k<sz.length:=by have h4:(k:Int)<(sz.length:Int):=h6;omega
 rw[QY E,List.any_cons]at he;refine Qf<|Qd<|Qn<|Qc<|xii (hS.I G) O O E λgi h4=>?_;refine Zd (sz[k]'E) λn hn=>?_;rw[hn]at h4 he;refine x (Qq h4 O)<|Qb<|QW (α:=Bool) [(26,31)] (λz=>[(31,.bool z)]) (λz w'=>w'=w2/\z=Jf n) oh ?_ ?_
 ·refine Qr<|Qa<|xb (YB O O) (λhI=>?_) (λhI=>?_)
  ·refine Qa<|YP<|QC O<|xe ?_;exact⟨_,La,O,by unfold Jf;rw[OY hI];rfl⟩
  refine Qa<|Qa<|x (Z8 O O)<|QC O<|xe ?_;exact⟨_,La,O,by unfold Jf;rw[O0 hI];rfl⟩
 rintro z g Y ⟨rfl,rfl⟩;refine Q6 rfl (λhJ=>?_) (λhJ=>?_)
 ·refine Qc<|Qb<|Qj ⟨[_],La,by unfold Y7;rw[OU h3,OV (by rw[<-he,hJ];rfl)];rfl,G⟩
 rw[hJ,Bool.false_or]at he;refine Qf<|Qr<|QB O O<|Qa<|xe ?_;exact⟨k+1,oa,La,E,O,he⟩
end Go.Lg
