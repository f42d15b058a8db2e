/- Merged out of 46 texts. -/
import Derived.Test.YtpfnhheoeaiomaaGreatDoorPfa
import Derived.Laws.Strings
import Derived.RangeFuncNested
import Derived.RangeFuncLeaves
import Derived.RangeFuncCalls
import Derived.OrdersIn
import Derived.TacticsIn
set_option maxHeartbeats 40000000
set_option maxRecDepth 100000
set_option linter.all false
open Go Go.Lg
open Go.Value renaming int->oD
open Go.IntKind renaming i64->oE
open _root_.List renaming mem_singleton->oH,replicate->oI,not_mem_nil->oJ,length_singleton->oL,range->oM,mem_cons->oN,length_append->oO,range'->oP,getD->oQ,length_cons->oS,getElem?_toArray->oT,map_cons->oU,flatMap_cons->oV,getElem?_eq_getElem->oX,length->oY,mem_append->oZ,getElem?_append_left->Oa,mem_range'_1->Od,mem_filter->Of,cons_append->Og,all_cons->Oh,headD_cons->Oi,mem_map->Oj,size_toArray->Ok,append_assoc->Om,getElem_cons_zero->On,tail_cons->Oo,append_nil->Oq,all_eq_true->Ou,singleton_append->OA,range'_succ->OE,filter_cons->OF,pairwise_cons->OH,map_nil->OI,take_length->ON
open _root_.Bool renaming and_eq_true->oK,or_eq_false_iff->Oe,not_eq_true'->Ol,false_eq_true->Ov,true_and->OP
open _root_.Array renaming replicate->oR
open _root_.Nat renaming zero_add->Ob,add_mul->Oz,pow_succ->OM,one_mul->OQ,sub_zero->OS,mul_one->OV,beq->OW
open _root_.Option renaming map_some->OJ
open Go renaming World->O6,Value->O7,Operand->O8,Program->O9
open Go.Proofs Go.Proofs.Tryz
open Go.Proofs.Tryz renaming prog->sV
variable {w w' W':O6}{L L' X ds ns:LN}{n i t sz base j T N G m g id B kt ty et gp U:Nat}{a A:Qz}{cs us cap capt:LV}{α β:Type}{y:O8}{ve va vm z vt vs vk vx v' vr vo:O7}{aa:List Qz}{f:Fr}{P:O9}{o un ul u hi r est q li rs out:LI}{s kd:Int}{fn:Func}{es ed:List Ed}{K:xE}{d:xJ}{pS:String}{af:xH}{gd:xz}{k':IntKind}{at_:Array Nat}{ops:xI}{pm:Ed→Bool}
namespace Go.Lg
class Ay (P:O9)(t:Nat)(m e sz:outParam Nat):Prop where
 u:P.underlying t=some (.array m e)
 i:(P.info? e).map (·.size)=some sz
theorem ZX {x:O8}{e:Nat}[h:Ay P t m e sz]{b o:Nat}{k:IntKind}(hx:ev f x=.pointer (some ⟨b,o,none⟩))(I:ev f y=.int k i)(h1:i<m):
  (execOp (ev f) ⟨d,.indexAddr t x y,ty,pS,af,gd⟩).run P w=.ok (.value (.pointer (some ⟨b,o+i*sz,none⟩))) w:=by
 have hi:=h.i;cases G:P.info? e with
 | none=>simp[G]at hi
 | some ii =>
  simp[G]at hi;simp[execOp,hx,I,Instr.indexAt,asIntOf,run_underlying h.u,Instr.sureAddr,sizeOf,typeInfo,G,hi,Jc];intro h2;omega
theorem Qo8 {a b:Nat}(G:a<256):inK .u8 ((a &&& b:Nat):Int):=by
 have:a &&& b<=a:=Nat.and_le_left;exact⟨oa,oa⟩
theorem Uh {I:Nat}{x:O8}{a b:Nat}(hx:ev f x=.int .u8 a)(J:ev f y=.int .u8 b)(G:a<256)(hb:b<256):
  (execOp (ev f) ⟨d,.binOp .and t x y I,ty,pS,af,gd⟩).run P w=.ok (.value (.int .u8 ((a &&& b:Nat):Int))) w:=by
 refine Kq hx J ?_;simp only[binOp,Op.intBits,BitVec.ofInt_natCast,ne_eq,not_true_eq_false,if_false,Sem.run_pure];rw[BitVec.toNat_and,BitVec.toNat_ofNat,BitVec.toNat_ofNat,NS (show a<2 ^ IntKind.u8.bits from G),NS (show b<2 ^ IntKind.u8.bits from hb),X4 (Qo8 G)]
theorem zO (m i:Nat):((m:Int) / 2 ^ i)=((m / 2 ^ i:Nat):Int):=by rw[Int.natCast_ediv,Int.natCast_pow];rfl
inductive Pt where
 | pl (l:xA)
 | fk (pre:xA) (i j:Nat) (t1 t2:Pt)
def Pt.len:Pt->Nat
 | .pl l=>l.length
 | .fk pre _ _ t1 _=>pre.length+(1+t1.len)
def Jq (all:Array Oper):xA->Array Bool->Bool
 | [],_=>true
 | (k,q)::pl,ls=>q && (Region.ready .any all ls).contains k && Region.free .any all ls k && Jq all pl (ls.setIfInBounds k true)
def ZU:xA->Array Bool->Array Bool
 | [],ls=>ls
 | (k,_)::pl,ls=>ZU pl (ls.setIfInBounds k true)
def QjS (all:Array Oper):Pt->Array Bool->Bool
 | .pl l,ls=>Xp all l ls
 | .fk pre i j t1 t2,ls=>Jq all pre ls && Region.ready .any all (ZU pre ls) == [i,j] && t1.len == t2.len && QjS all t1 ((ZU pre ls).setIfInBounds i true) && QjS all t2 ((ZU pre ls).setIfInBounds j true)
def XT (P:O9)(all:xI)(C:xF)(K:xE):Pt->Fr->O6->Prop
 | .pl l=>XP P all C K l
 | .fk pre i j t1 t2=>XP P all C (λf w=>(Yb all f (QR all i)=true/\XO P (QR all i) f w λG w'=>C w'/\XT P all C K t1 G w') /\
   (Yb all f (QR all j)=true/\XO P (QR all j) f w λG w'=>C w'/\XT P all C K t2 G w')) pre
section
variable {all:xI}{C:xF}{B:xE}
theorem YR:∀(pl:xA) (ls:Array Bool),(ZU pl ls).size=ls.size
 | [],_=>rfl
 | (k,q)::pl,ls=>by rw[ZU,YR];simp
theorem YM {m:Nat}(U:Region.noSelect all.toArray=true):∀(pl:xA) (ls:Array Bool) (f:Fr) (w:O6),C w->Jq all.toArray pl ls=true ->
  (∀f,B f w->XA P all C K m (ZU pl ls) f w)->XP P all C B pl f w->XA P all C K (pl.length+m) ls f w
 | [],ls,f,w,hC,V,I,h=>by
  simp only[XP]at h;rw[List.length_nil,LY];exact I f h
 | (J,q)::pl,ls,f,w,hC,V,I,h=>by
  simp only[Jq,oK]at V;obtain⟨⟨⟨rfl,hr⟩,hf⟩,ha⟩:=V;simp only[XP]at h;have Y:J∈Region.ready .any all.toArray ls:=by simpa using hr
  have e:(oY ((J,true)::pl))+m=(pl.length+m)+1:=by simp;omega
  rw[e];cases G:all[J]? with
  | none =>
   exfalso;obtain⟨_,o,hk,_⟩:=mem_ready.1 Y;simp[G]at hk
  | some o =>
   rw[ZF G]at h;have he:∀(j:Nat) (o:Oper) cs b,all[j]?=some o->o.op≠.select cs b:=λj o cs b hj=>Region.noSelect_spec U j o cs b (ox hj);have hh:=λj oj hj=>Region.free_spec (ops:=all.toArray) (md:=.any) (i:=J) (oi:=o) (listed:=ls) (ox G) hf j oj (ox hj);cases O:Yb all f o with
   | false =>
    rw[O]at h;exact KJ (v:=undef) (D:=λw=>j5 o=true->C w) G (λ_ h=>h) he _ ls f w (λ_=>hC) hh Y (.inr ⟨O,Z⟩) (YM U pl _ _ _ hC ha I h)
   | true =>
    rw[O]at h;simp only[cond_true]at h;obtain⟨v,hv,hx⟩:=h;exact KJ (v:=v) (D:=λw=>j5 o=true->C w) G (λ_ h=>h) he _ ls f w (λ_=>hC) hh Y (.inl ⟨O,hv⟩) (YM U pl _ _ _ hC ha I hx)
theorem Up (G:Region.noSelect all.toArray=true):∀(t:Pt) (ls:Array Bool) (f:Fr) (w:O6),ls.size=all.length->C w->QjS all.toArray t ls=true->XT P all C K t f w->XA P all C K t.len ls f w
 | .pl l,ls,f,w,J,hC,I,h=>Yt G l ls f w J (.inl hC) I h
 | .fk pre i j t1 t2,ls,f,w,J,hC,I,h=>by
  simp only[QjS,oK,beq_iff_eq]at I;obtain⟨⟨⟨⟨hq,O⟩,hl⟩,h1⟩,h2⟩:=I;rw[Pt.len];refine YM (B:=λf w=>(Yb all f (QR all i)=true/\XO P (QR all i) f w λU w'=>C w'/\XT P all C K t1 U w') /\
   (Yb all f (QR all j)=true/\XO P (QR all j) f w λU w'=>C w'/\XT P all C K t2 U w')) G pre ls f w hC hq (λf V=>?_) h
  have Y:∀k,((ZU pre ls).setIfInBounds k true).size=all.length:=λk=>by simp[YR,J]
  rw[M4 1];refine J8 (λh0=>(by rw[h0]at O;cases O)) ?_;rw[O];intro k hk o ho;simp only[oN,oJ,or_false]at hk;rcases hk with rfl|rfl
  ·have:=V.1;rw[ZF ho]at this;rw[this.1,cond_true];exact this.2.S λv w' hx=>⟨.inr (.inr hx.1),Up G t1 _ _ _ (Y _) hx.1 h1 hx.2⟩
  have:=V.2;rw[ZF ho]at this;rw[this.1,cond_true,hl];exact this.2.S λv w' hx=>⟨.inr (.inr hx.1),Up G t2 _ _ _ (Y _) hx.1 h2 hx.2⟩
end
theorem YD.lt_of {a:Int}{l:LI}(h:YD (a::l)){x:Int}(hx:x∈l):a<x:=(Mb.1 h).1 x hx
theorem YD.tail {a:Int}{l:LI}(h:YD (a::l)):YD l:=(Mb.1 h).2
theorem QnU (keep:Bool->Bool->Bool):∀(n:Nat) (a b:LI),a.length+b.length<=n->YD a->YD b->∀x,x∈mrg keep a b↔(x∈a\/x∈b)/\keep (decide (x∈a)) (decide (x∈b))=true:=by
 intro n;induction n with
 | zero =>
  intro a b h _ _ x;have V:a=[]:=Lu oa;have hb:b=[]:=Lu oa;subst V hb;simp[KU]
 | succ n ih =>
  intro a b J ia ib x;cases a with
  | nil =>
   cases b with
   | nil=>simp[KU]
   | cons y b =>
    rw[Kz keep oe];have:=ih [] b (by simp at J ⊢;omega) ia ib.tail x;have I:y∉b:=λh=>oq (ib.lt_of h)
    simp only[Jt,tl,hx,cond_true,cond_false,Oo,Oi,oZ];rw[this];by_cases e:x=y
    ·subst e;cases G:keep false true <;> simp[G,I]
    cases keep false true <;> simp[e]
  | cons u a =>
   cases b with
   | nil =>
    rw[Kz keep oe];have:=ih a [] (by simp at J ⊢;omega) ia.tail ib x;have I:u∉a:=λh=>oq (ia.lt_of h)
    simp only[Jt,tl,hx,cond_true,cond_false,Oo,Oi,oZ];rw[this];by_cases e:x=u
    ·subst e;cases G:keep true false <;> simp[G,I]
    cases keep true false <;> simp[e]
   | cons y b =>
    rw[Kz keep oe];have U:u∉a:=λh=>oq (ia.lt_of h)
    have I:y∉b:=λh=>oq (ib.lt_of h)
    rcases Int.lt_trichotomy u y with h1|h1|h1
    ·have O:u∉y::b:=λh=>by
      rcases Ll.1 h with h|h
      ·omega
      have:=ib.lt_of h;omega
     have:=ih a (y::b) (by simp at J ⊢;omega) ia.tail ib x;have e1:decide (u<=y)=true:=O2 oa;have e2:decide (y<=u)=false:=O4 oa;simp only[Jt,tl,hx,e1,e2,cond_true,cond_false,Oo,Oi,oZ];rw[this];by_cases e:x=u
     ·subst e;cases G:keep true false <;> simp[G,U,O]
     cases keep true false <;> simp[e]
    ·subst h1;have:=ih a b (by simp at J ⊢;omega) ia.tail ib.tail x;have e1:decide (u<=u)=true:=O2 oa;simp only[Jt,tl,hx,e1,cond_true,Oo,Oi,oZ];rw[this];by_cases e:x=u
     ·subst e;cases G:keep true true <;> simp[G,U,I]
     cases keep true true <;> simp[e]
    have O:y∉u::a:=λh=>by
     rcases Ll.1 h with h|h
     ·omega
     have:=ia.lt_of h;omega
    have:=ih (u::a) b (by simp at J ⊢;omega) ia ib.tail x;have e1:decide (u<=y)=false:=O4 oa;have e2:decide (y<=u)=true:=O2 oa;simp only[Jt,tl,hx,e1,e2,cond_true,cond_false,Oo,Oi,oZ];rw[this];by_cases e:x=y
    ·subst e;cases G:keep false true <;> simp[G,I,O]
    cases keep false true <;> simp[e]
theorem UU {keep:Bool->Bool->Bool}{a b:LI}(ia:YD a)(ib:YD b)(x:Int):x∈mrg keep a b↔(x∈a\/x∈b)/\keep (decide (x∈a)) (decide (x∈b))=true :=
 QnU keep _ a b (Lr _) ia ib x
def setK (m k:Nat):LI:=((oP 0 k).filter λi=>decide (((m / 2 ^ i) &&& 1)=1)).map λi:Nat=>(i:Int)
theorem qz (m k:Nat):setK m (k+1)=if(m / 2 ^ k) &&& 1=1 then setK m k++[(k:Int)]else setK m k:=by
 unfold setK;rw[Mt,LW,Lv,LY];by_cases h:(m / 2 ^ k) &&& 1=1
 ·rw[OZ h,L9,OZ (O2 h)];rfl
 rw[OY h,L9,OY (by rw[O4 h];simp),MV,Ns,LK]
theorem UB (m:Nat):∀k,(setK m k).length<=k
 | 0=>by simp[setK]
 | k+1=>by
  have:=UB m k;rw[qz];split
  ·simp;omega
  omega
theorem QcZ (m k:Nat):YD (setK m k):=by
 unfold setK YD;rw[Mj];refine List.Pairwise.sublist MW ?_;exact(Nd (s:=0) (n:=k)).imp (λh=>oa)
instance ayCx1:Ay sV 183 4 5 1:=⟨od,od⟩
theorem zw {e bys:Nat}[h:Sl P t e sz bys z]{v:O7}(G:w.ownsRow base e sz v n cs):
  (Builtin.append_ #[t,t] ty #[v,nS]).run P w=.ok v w:=by
 obtain⟨i,hi,_,J,_⟩:=Sl.info h;rcases G.2 with⟨rfl,rfl⟩|⟨g,cap,cur,rfl,O,U,I,V,Y,ha⟩
 ·simp[Builtin.append_,run_underlying h.u,sizeOf,typeInfo,hi,Builtin.lenOf,Builtin.firstCells]
 simp[Builtin.append_,run_underlying h.u,sizeOf,typeInfo,hi,Builtin.lenOf,Builtin.firstCells,I,storeCells]
theorem QbG {e bys:Nat}[h:Sl P t e sz bys z]{s:O8}{v:O7}(G:w.ownsRow base e sz v n cs)(I:ev f s=v)
  {J:O7}  {news:LV}  (hA:Zw L ↑w J m sz news) (O:ev f y=J) (h1:∀u∈news,u.oneCell'=true)
  (hb:n+m<=1099511627776) (U:base<=↑w)
  (hK:∀v' w',w'.ownsRow base e sz v' (n+m) (cs++news)->xd (ob v) w w'->(∀b∈ob v',b∈ob v\/↑w<=b)->K (QP f d v') w') (V:bys<=128:=by decide):
  XO P ⟨d,.call ⟨.builtin .append,#[s,y],#[t,t]⟩,ty,pS,af,gd⟩ f w K:=by
 rcases hA.2.2 with⟨e1,e2⟩|⟨a,c,e1,_,e3⟩
 ·subst e2;have Y:news=[]:=Lu (by have:=hA.1;simpa using this);subst Y;have ha:(execOp (ev f) ⟨d,.call ⟨.builtin .append,#[s,y],#[t,t]⟩,ty,pS,af,gd⟩).run P w=.ok (.value v) w:=by
   simp[execOp,resolve,invoke,builtin,I,O,e1,zw (ty:=ty) G]
  exact xv ha (hK v w (ox G) (xd.C _ _) (λb hb=>.inl hb))
 exact Q0 G I (O.D e1) hA.1 e3 h1 hb U hK V
theorem QgV {v:O7}{l:LI}(h:Qu L ↑w v l)(x:Int):
  QT sV 274 [v,sS x] w λr w'=>r=.bool (decide (x∈l))/\w'=w:=by
 have V:=h.le;refine Zn func274 ?_;refine Qc<|Lg.Qb<|Qd<|Qc<|Lg.Qb<|QY (α:=Nat) [(4,17)] (λk=>[(5,sS k)]) (λk w'=>w'=w/\k<=l.length/\(x∈l↔x∈l.drop k)) (λk=>l.length - k) 0 Lb ⟨Z,Lp _,oe⟩ ?_;rintro k g w' ⟨rfl,Y,G⟩;refine Qd<|Qc<|Lg.Qa<|Lg.Qa<|Lg.x (Y4 h Z)<|Lg.ZT Z Z<|xe<|Zp rfl (λO=>?_) (λO=>?_)
 ·refine Qt<|Qc<|Lg.Qb<|Qk ⟨[.bool false],Lb,?_,Z⟩;rw[Lx oa]at G;simp[tup,G]
 have J:k<l.length:=oa
 have hd:=QZ J;refine Qf<|Qd<|Qn<|Qc<|Lg.Qa<|Lg.Qa<|xii h Z Z J λha U=>Lg.x (Qq U Z)<|Lg.Qa<|Lg.x (Zc Z Z)<|xe<|Zh rfl (λI=>?_) (λI=>?_)
 ·refine Qc<|Lg.Qb<|Qk ⟨[.bool true],Lb,?_,Z⟩;have:x∈l:=by rw[G,hd,I];exact Lj
  simp[tup,this]
 refine Qf<|Qr<|Lg.Qa<|Lg.QC Z Z<|Lg.Qb<|⟨k+1,oa,Lb,Z,oa,?_⟩;rw[G,hd,Ll];exact⟨λh=>h.resolve_left (λe=>I e.symm),.inr⟩
theorem QcP (h:qn L ↑w ve a.ed)(s e:Int)(st:Int):
  QT sV 275 [.agg #[va,sS st,vm,ve],sS s,sS e] w λr w'=>r=sS (nxt a.ed s e)/\sW w w':=by
 have hh:=h.le;refine Zn func275 ?_;refine Qc<|Zd [va,sS st,vm,ve] λb3 Y O hj G=>Lg.Qb ?_
 replace h:=h.I O;refine Qd<|Qc<|Lg.Qb<|QY (α:=Nat) [(6,38)] (λk=>[(7,sS k)]) (λk w'=>w'=Y/\k<=a.ed.length/\nxt (a.ed.drop k) s e=nxt a.ed s e) (λk=>a.ed.length - k) 0 Lb ⟨Z,Lp _,Z⟩ ?_;rintro k g w2 ⟨rfl,hk,I⟩;refine Qd<|Qc<|Lg.Qa<|Lg.Q9 Z<|Lg.x (Qj G Z Z)<|Lg.x (Y4 h Z)<|Lg.ZT Z Z<|xe<|Zp rfl (λha=>?_) (λha=>?_)
 ·refine Qt<|Qc<|Lg.Qb<|Qk ⟨[sS (-1)],Lb,?_,O⟩;rw[Lx oa]at I;rw[<-I];rfl
 have J:k<a.ed.length:=oa
 have hd:=QZ J;refine Qf<|Qd<|Qn<|QX (α:=Bool) [(15,32)] (λz=>[(32,.bool z)]) (λz w'=>w'=w2/\z=decide (a.ed[k].1=s/\a.ed[k].2.1=e)) ol ?_ ?_
 ·refine Qr<|Lg.Q9 Z<|Lg.x (Qj G Z Z)<|Lg.Qa<|xie h Z Z J λhm he=>Lg.x (ZB Z)<|Lg.x (Qq (he.fld 0 _ Z) Z) <|
   Lg.Qa<|xb (Zc Z Z) (λU=>?_) (λU=>?_)
  ·refine Lg.Qa<|Lg.Q9 Z<|Lg.x (Qj G Z Z)<|Lg.Qa<|xie h Z Z J λho hf=>Lg.x (ZB Z)<|Lg.x (Qq (hf.fld 1 _ Z) Z) <|
    Lg.Qa<|Lg.x (Zc Z Z)<|Lg.QB Z<|xe ?_
   exact⟨_,Lb,Z,by simp[U]⟩
  refine Lg.Qa<|Zs<|Zs<|YN<|Lg.QB Z<|xe ?_;exact⟨_,Lb,Z,by simp[U]⟩
 rintro z g w3 ⟨rfl,rfl⟩;refine Zh rfl (λV=>?_) (λV=>?_)
 ·refine Qc<|Lg.Q9 Z<|Lg.x (Qj G Z Z)<|Lg.Qa<|xie h Z Z J λhp hg=>Lg.x (ZB Z)<|Lg.x (Qq (hg.fld 2 _ Z) Z) <|
   Lg.Qb<|Qk ⟨[sS a.ed[k].2.2],Lb,?_,O⟩
  rw[<-I,hd,nxt,OZ V];rfl
 refine Qf<|Qr<|Lg.Qa<|Lg.QC Z Z<|Lg.Qb<|⟨k+1,oa,Lb,Z,oa,?_⟩;rw[<-I,hd,nxt,OY V]
def zC (l:LI)(n:Int):Int:=if n∈l then(l.idxOf n:Int) else -1
theorem QkZ {l:LI}{n:Int}{k:Nat}(h:n∉l.take k)(G:k<l.length)(I:xh l k=n):zC l n=k:=by
 have J:n∈l:=by rw[<-I,<-Zo G];exact Lm G
 unfold zC;rw[OZ J];have O:l=l.take k++l.drop k:=(ML k l).symm;have:l.idxOf n=k:=by
  rw[O,Mf,OY h,Mi G,List.idxOf_cons,show l[k]=n by rw[Zo G];exact I];simp;omega
 rw[this]
theorem Qij {v:O7}{l:LI}(h:Qu L ↑w v l)(n:Int):
  QT sV 276 [v,sS n] w λr w'=>r=sS (zC l n)/\w'=w:=by
 have V:=h.le;refine Zn func276 ?_;refine Qc<|Qb<|Qd<|Qc<|Qb<|QY (α:=Nat) [(4,18)] (λz=>[(5,sS z)]) (λz w'=>w'=w/\z<=l.length/\n∉l.take z) (λz=>l.length - z) 0 Lb ⟨Z,Lp _,oe⟩ ?_;rintro k g Y ⟨rfl,hk,I⟩;refine Qd<|Ql<|Qa<|QG h Z<|ZT Z Z<|xe<|Zp rfl (λO=>?_) (λO=>?_)
 ·refine Qt<|Qc<|Qb ?_;rw[Ls oa]at I;exact Qk ⟨[sS (-1)],Lb,by unfold zC;rw[OY I];rfl,Z⟩
 have G:k<l.length:=oa
 refine Qf<|Qd<|Qn<|Ql<|Qa<|xic (i:=k) h Z Z G λha U=>x (Qq U Z)<|Qa<|x (Zc Z Z)<|xe<|Zh rfl (λJ=>?_) (λJ=>?_)
 ·refine Ql<|Qb<|Qk ⟨[sS k],Lb,by rw[QkZ I G J];rfl,Z⟩
 refine Qf<|Qr<|Qa<|QC Z Z<|Qb<|⟨k+1,oa,Lb,Z,G,?_⟩;rw[Ln G,Zo G];simp only[oZ,oH,not_or];exact⟨I,λe=>J e.symm⟩
theorem qS {v:O7}{l:LI}(h:Qu L ↑w v l)(hl:l.length<=1000000):
  QT sV 235 [v] w λr w'=>sW w w'/\∃va,r=.agg #[va,sS 0,nS,nS]/\Qh 3 ↑w w' va l:=by
 refine Zn func235 ?_;refine Qc<|QV [nS,sS 0,nS,nS] λb2 G V hg Y=>xe ?_;have hh:=V.size;have hj:=Y.lt;refine Qc<|Qo<|Qe3 λb3 w2 I hk hm=>Qa<|?_;have ha:=V.D I;have hs:=I.size;have J:w2.ownsRow ↑G 3 1 (sL b3 0 0) 0 []:=hm.own (n:=0) (sz:=1) Z oa hk;refine Qo<|QbG J Z (h.I ha) Z (UL l) oa oa λva O hn he hu=>?_;have U:Qh 3 ↑G O va l:=by
  have:O.ownsRow ↑G 3 1 va (0+l.length) ([]++l.map (.int .i64)):=hn;rw[LY,MC]at this;exact this
 have hA:=Qh.ints (L:=[]) U oa oe;have ho:=(Y.I I).J he (QJ J hj);have hp:sW w O:=ha.Z he (λb hb=>.inr (oq (Qi J b hb).1));refine x (QD ⟨hA.cells,La⟩)<|Q6 [va,sS 0,nS,nS] ho ⟨hA.one,Z,Z,Z,La⟩ λw4 hf hq=>xe ?_;have hr:=Qg U hf (λb hb=>by have:=(Qi U b hb).1;simp;omega);exact Qk ⟨[.agg #[va,sS 0,nS,nS]],⟨Kh hq,La⟩,hp.O hf hg,va,Z,Za hr hh⟩
theorem xM:∀(n:Nat) (l:LI),l.Nodup->(∀x∈l,0<=x/\x<n)->l.length<=n
 | 0,l,_,h=>by
  cases l with
  | nil=>simp
  | cons a l=>have:=h a Lj;omega
 | n+1,l,hd,h=>by
  by_cases G:(n:Int)∈l
  ·have h1:=xM n (l.erase (n:Int)) (hd.erase _) (λx hx=>by
    have h2:=(List.Nodup.mem_erase_iff hd).1 hx;have I:=h x h2.2;have J:x≠(n:Int):=h2.1;omega)
   rw[List.length_erase_of_mem G]at h1;omega
  have:=xM n l hd (λx hx=>by
   have I:=h x hx;have J:x≠(n:Int):=λe=>G (by rw[<-e];exact hx);omega)
  omega
def VX (a:Qz)(s:Int)(out:LI)(v:Int):LI:=if 0<=nxt a.ed s v/\nxt a.ed s v∉out then out++[nxt a.ed s v]else out
def fdR (a:Qz)(out:LI)(s:Int):LI:=a.al.foldl (VX a s) out
def z8 (a:Qz):Nat->Nat->LI->LI
 | 0,_,out=>out
 | f+1,i,out=>if i<out.length then z8 a f (i+1) (fdR a out (xh out i)) else out
def fd0 (a:Qz):LI:=if 0<a.st then[0]else[]
def xx (a:Qz):LI:=z8 a a.st.toNat 0 (fd0 a)
structure zJ (a:Qz)(out:LI):Prop where
 b:∀x∈out,0<=x/\x<a.st
 d:out.Nodup
theorem zJ.len (h:zJ a out)(G:0<=a.st):out.length<=a.st.toNat:=xM _ _ h.d (λx hx=>oq (h.b x hx))
theorem QbH {v:Int}(h:0<=nxt es s v):(s,v,nxt es s v)∈es:=by
 induction es with
 | nil=>simp[nxt]at h
 | cons e es ih =>
  rw[nxt]at h ⊢;split at h
  ·rename_i G;rw[OZ G];obtain⟨p,q,r⟩:=e;obtain⟨h1,h2⟩:=G;subst h1 h2;exact Lj
  rename_i G;rw[OY G];exact Lh _ (ih h)
theorem Qlq (I:QL a)(h:zJ a out)(s v:Int):zJ a (VX a s out v):=by
 unfold VX;split
 ·rename_i hc;have J:=I.ed _ (QbH hc.1);refine⟨λx hx=>?_,?_⟩
  ·rcases Lk.1 hx with hx|hx
   ·exact h.b x hx
   simp only[oH]at hx;subst hx;exact⟨hc.1,J.2.2.2.2⟩
  rw[Ml];refine⟨h.d,oe,λx hx y G=>?_⟩;simp only[oH]at G;subst G;exact λe=>hc.2 (by rw[<-e];exact hx)
 exact h
theorem QoB {v:Int}:∀x∈out,x∈VX a s out v:=λx hx=>by unfold VX;split;exact LG _ hx;exact hx
theorem QqU {v:Int}(h:0<=nxt a.ed s v):nxt a.ed s v∈VX a s out v:=by
 unfold VX;by_cases G:nxt a.ed s v∈out
 ·rw[OY (λe=>e.2 G)];exact G
 rw[OZ ⟨h,G⟩];simp
theorem Qlo {a:Qz}(G:QL a)(s:Int):∀(vs:LI) (out:LI),zJ a out->zJ a (vs.foldl (VX a s) out)
 | [],_,h=>h
 | v::vs,_,h=>Qlo G s vs _ (Qlq G h s v)
theorem Qb5 {a:Qz}{s:Int}:∀(vs:LI) (out:LI),∀x∈out,x∈vs.foldl (VX a s) out
 | [],_,_,hx=>hx
 | _::vs,_,x,hx=>Qb5 vs _ x (QoB x hx)
theorem Qlp {a:Qz}{s:Int}:∀(vs:LI) (out:LI),∀v∈vs,0<=nxt a.ed s v->nxt a.ed s v∈vs.foldl (VX a s) out
 | v::vs,out,u,G,h=>by
  rcases Ll.1 G with rfl|G
  ·exact Qb5 vs _ _ (QqU h)
  exact Qlp vs _ u G h
theorem Qg1 {a:Qz}{s:Int}:∀(vs:LI) (out:LI),∃r,vs.foldl (VX a s) out=out++r
 | [],out=>⟨[],oe⟩
 | v::vs,out=>by
  obtain⟨r,G⟩:=Qg1 (a:=a) (s:=s) vs (VX a s out v);rw[LP,G];unfold VX;split
  ·exact⟨[nxt a.ed s v]++r,oe⟩
  exact⟨r,Z⟩
theorem jD {l:LI}(h:i<l.length):xh (l++r) i=xh l i:=by
 rw[<-Zo h,<-Zo (by simp;omega),L8 h]
def Cl (a:Qz)(out:LI)(i:Nat):Prop:=∀j,j<i->j<out.length->∀v∈a.al,0<=nxt a.ed (xh out j) v->nxt a.ed (xh out j) v∈out
theorem Cl.next (h:Cl a out i)(hi:i<out.length):Cl a (fdR a out (xh out i)) (i+1):=by
 intro j V Y v I G;obtain⟨r,U⟩:=Qg1 (a:=a) (s:=xh out i) a.al out;have J:fdR a out (xh out i)=out++r:=U;have O:j<out.length:=oa
 rw[J,jD O]at G ⊢;by_cases e:j=i
 ·subst e;have:=Qlp a.al out v I G;rw[<-J];exact this
 exact LG _ (h j oa O v I G)
theorem Qln {a:Qz}(G:QL a):∀(f i:Nat) (out:LI),zJ a out->Cl a out i->i+f=a.st.toNat->zJ a (z8 a f i out)/\Cl a (z8 a f i out) (z8 a f i out).length
 | 0,i,out,h,hc,O=>by
  have:=h.len G.st0;exact⟨h,λj J I=>hc j (by rw[z8]at J;omega) I⟩
 | f+1,i,out,h,hc,O=>by
  rw[z8];split
  ·rename_i hi;exact Qln G f (i+1) _ (Qlo G _ _ _ h) (hc.next hi) oa
  rename_i hi;exact⟨h,λj J I=>hc j oa I⟩
theorem Qlr (a:Qz):zJ a (fd0 a):=by
 unfold fd0;split
 ·rename_i h;exact⟨λx hx=>by simp only[oH]at hx;subst hx;exact⟨oa,h⟩,oe⟩
 exact⟨oe,oe⟩
theorem jd (J:QL a):zJ a (xx a)/\∀s∈xx a,∀v∈a.al,0<=nxt a.ed s v->nxt a.ed s v∈xx a:=by
 obtain⟨h1,h2⟩:=Qln J a.st.toNat 0 (fd0 a) (Qlr a) (λj G=>oa) oa;refine⟨h1,λs O v U I=>?_⟩;obtain⟨j,G,rfl⟩:=LQ O;have:=h2 j G G v U;unfold xx at G I ⊢;rw[Zo G]at I ⊢;exact this I
def KH (a:Qz)(fd:LI)(i:Nat)(v:Int):Option Ed:=if 0<=nxt a.ed (xh fd i) v then some ((i:Int),v,zC fd (nxt a.ed (xh fd i) v)) else none
def Y2 (a:Qz)(fd:LI)(n:Nat):LI:=((oP 0 n).filter λi=>decide (xh fd i∈a.mr)).map λi:Nat=>(i:Int)
def Xh (a:Qz)(fd:LI)(n:Nat):List Ed:=(oP 0 n).flatMap λi=>a.al.filterMap (KH a fd i)
def Xc (a:Qz):Qz:=⟨a.al,(xx a).length,Y2 a (xx a) (xx a).length,Xh a (xx a) (xx a).length⟩
theorem Jr {β:Type}{r:Int->Int->Prop}{q:β->β->Prop}{g:Int->Option β}(G:∀x y u v,r x y->g x=some u->g y=some v->q u v):∀{l:LI},l.Pairwise r->(l.filterMap g).Pairwise q
 | [],_=>oe
 | x::l,h=>by
  obtain⟨h1,h2⟩:=Mb.1 h;rw[Mz];split
  ·exact Jr G h2
  rename_i u I;refine Mb.2 ⟨λv J=>?_,Jr G h2⟩;obtain⟨y,O,U⟩:=MJ.1 J;exact G x y u v (h1 y O) I U
theorem Qcm (I:QL a):QL (Xc a)/\(Xc a).al=a.al/\(Xc a).st<=a.st:=by
 obtain⟨h1,h2⟩:=jd I;have hl:=h1.len I.st0;have h0:=I.st0;have h4:=I.st1;refine⟨⟨I.al,I.ali,by simp[Xc],by simp only[Xc];omega,λs V=>?_,?_,λe O=>?_,?_⟩,Z,by simp only[Xc];omega⟩
 ·simp only[Xc,Y2,Oj,Of,Od]at V;obtain⟨i,⟨hi,_⟩,rfl⟩:=V;simp only[Xc];omega
 ·simp only[Xc,Y2];unfold YD;rw[Mj];refine List.Pairwise.sublist MW ?_;exact(Nd (s:=0) (n:=(xx a).length)).imp (λh=>oa)
 ·simp only[Xc,Xh,List.mem_flatMap,List.mem_filterMap,Od]at O;obtain⟨i,⟨_,hi⟩,v,J,G⟩:=O;unfold KH at G;split at G
  ·rename_i hn;cases G
   have hi':i<(xx a).length:=oa
   have Y:=h2 (xh (xx a) i) (by rw[<-Zo hi'];exact Lm hi') v J hn;have hx:=Md Y;simp only[Xc];unfold zC;rw[OZ Y];exact⟨oa,oa,J,oa,oa⟩
  cases G
 simp only[Xc,Xh];have key:∀(is:LN),is.Pairwise (·<·)->(is.flatMap λi=>a.al.filterMap (KH a (xx a) i)).Pairwise λx y:Ed=>x.1<y.1\/(x.1=y.1/\x.2.1<y.2.1):=by
  intro is;induction is with
  | nil=>intro _;simp
  | cons i is ih =>
   intro hp;obtain⟨p1,p2⟩:=Mb.1 hp;rw[LR,Mu];have from_i:∀(i:Nat) (e:Ed),e∈a.al.filterMap (KH a (xx a) i)->e.1=i:=by
    intro i e O;obtain⟨v,_,G⟩:=MJ.1 O;unfold KH at G;split at G
    ·cases G;rfl
    cases G
   refine⟨?_,ih p2,λe O e' ha=>?_⟩
   ·refine Jr (r:=(·<·)) (λx y u v hg U J=>?_) I.ali;unfold KH at U J;split at U
    ·cases U;split at J
     ·cases J;exact .inr ⟨Z,hg⟩
     cases J
    cases U
   obtain⟨j,hj,hh⟩:=Mh.1 ha;have e1:=from_i i e O;have e2:=from_i j e' hh;have:=p1 j hj;left;omega
 exact key _ (Nd (s:=0) (n:=(xx a).length))
theorem Qim (h:Zv L ↑w va vm ve a)(ho:QL a):
  QT sV 273 [.agg #[va,sS a.st,vm,ve]] w λr w'=>sW w w'/\Qh 3 ↑w w' r (xx a):=by
 have h0:=ho.st0;have h1:=ho.st1;have hW:=ho.al_le;refine Zn func273 ?_;refine Qc<|Zd [va,sS a.st,vm,ve] λb1 U hh hX hv=>Qb<|Qc<|Qb ?_;have hB:=hh.size;refine QX (α:=O7) [(3,3),(7,12)] (λz=>[(3,z)]) (λz w'=>sW U w'/\Qh 3 ↑U w' z (fd0 a)) ol ?_ ?_
 ·refine Qc<|Qs Z hv Z Z<|x (Ya Z Z)<|xe<|Zp Z (λh9=>?_) (λh9=>?_)
  ·refine Qf ?_;exact⟨nS,Lb,xd.C _ _,by unfold fd0;rw[OY h9];exact QM _ _ _ _⟩
  refine Qr<|Qa<|Qo<|Q3 [[sS 0]] λb11 w2 hw hY hC=>?_;have hn:w2.ownsRow ↑U 3 1 (nS) 0 []:=QM _ _ _ _;have hZ:=hw.size;refine Qo<|Q0 (news:=[sS 0]) (L:=[]) hn Z Z Z (hC.at oe) oo oa oa λv3 w3 hD hE ga =>
   Qb<|⟨v3,Lb,hw.Z hE (λb hb=>by simp[ob]at hb),?_⟩
  unfold fd0;rw[OZ h9];exact hD
 rintro v0 g4 w4 ⟨hF,hG⟩;refine Zg (xx a) λT hT=>?_;have hH:z8 a a.st.toNat 0 (fd0 a)=T:=hT;refine Qd<|Qc<|Qb<|QY (α:=Nat×LI×O7) [(3,6),(13,48)] (λz=>[(3,z.2.2),(4,sS z.1)])
  (λz w'=>sW U w'/\Qh 3 ↑U w' z.2.2 z.2.1/\zJ a z.2.1/\z.1<=z.2.1.length/\z8 a (a.st.toNat - z.1) z.1 z.2.1=T) (λz=>a.st.toNat - z.1) (0,fd0 a,v0) oy
  ⟨hF,hG,Qlr a,Lp _,hH⟩ ?_
 rintro⟨i,out,v⟩ g5 w5 ⟨hj,V,G,hi,Y⟩;simp only[]at V G hi Y;have hy:=G.len h0;have hz:=Qh.ints (L:=[]) V oa oe;refine Qd<|Ql<|Qa<|QG hz Z<|ZT Z Z<|xe<|Zp rfl (λh3=>?_) (λh3=>?_)
 ·have e:out=T:=by
   rw[<-Y];generalize a.st.toNat - i=f;cases f with
   | zero=>rfl
   | succ f=>rw[z8,OY oa]
  refine Qt<|Ql<|Qb ?_;rw[e]at V;exact Qk ⟨[v],Lb,hh.D hj,by rw[hT];exact Za V hB⟩
 have J:i<out.length:=oa
 have hI:a.st.toNat - i=(a.st.toNat - (i+1))+1:=oa
 rw[hI,z8,OZ J]at Y;refine Zg (xh out i) λs O=>?_;rw[O]at Y;refine Zg (fdR a out s) λR hR=>?_;rw[hR]at Y;unfold fdR at hR;refine Qf<|Qd<|Qn<|Qc<|Qb<|QY (α:=Nat×LI×O7) [(3,3),(5,6),(19,48)] (λz=>[(3,z.2.2),(5,sS z.1)])
  (λz w'=>sW U w'/\Qh 3 ↑U w' z.2.2 z.2.1/\zJ a z.2.1/\z.1<=a.al.length/\i<z.2.1.length/\xh z.2.1 i=s/\(a.al.drop z.1).foldl (VX a s) z.2.1=R) (λz=>a.al.length - z.1) (0,out,v) oy
  ⟨hj,V,G,Lp _,J,O,hR⟩ ?_
 clear hj V G hi hy hz J O hR h3;rintro⟨k,out,v⟩ g6 w6 ⟨ha,he,G,hk,J,O,I⟩;simp only[]at he G hk J O I;have hy:=G.len h0;have h4:=(h.al.I hh).I ha;have hm:=hv.I ha;have h5:=Qh.ints (L:=[]) he oa oe;refine Qd<|Ql<|Qs Z hm Z Z<|QG h4 Z<|ZT Z Z<|xe<|Zp rfl (λhJ=>?_) (λhJ=>?_)
 ·refine Qt<|Qr<|Qa<|QC Z Z<|Qb ?_;rw[Lx oa]at I;have hK:out=R:=I;exact⟨(i+1,out,v),og,oy,ha,he,G,J,by simp only[];rw[hK];exact Y⟩
 have hf:k<a.al.length:=oa
 rw[Mi hf,LP,Zo hf]at I;refine Zg (xh a.al k) λu hu=>?_;rw[hu]at I;have hL:=(h.ed.I hh).I ha;refine Zg (nxt a.ed s u) λt ht=>?_;have hM:VX a s out u=if 0<=t/\t∉out then out++[t]else out:=by unfold VX;rw[ht]
 have hp:=Qlq ho G s u;rw[hM]at I hp;refine Qf<|Qd<|Qn<|Qd<|ZK [] (Xj 0 12 [10])<|pq (λ_ hc=>Zj (hm.I hc) Z Z)<|p Qx<|p Qx<|pic (i:=i) Z h5 Z Z J λgb h6=>?_;rw[O]at h6;refine pq (λ_ hc=>Qq (h6.I hc) Z)<|p (QH Z)<|pq (λ_ hc=>Qj (hm.I hc) Z Z)<|p Qx <|
  pic (i:=k) Z h4 Z Z hf λgc h7=>?_
 rw[hu]at h7;have hsr:=QcP (va:=va) (vm:=vm) (a:=a) (hL.I (xd.Y [] w6)) s u a.st;rw[ht]at hsr;refine pq (λ_ hc=>Qq (h7.I hc) Z)<|pk<|xg<|hsr.S ?_;rintro r7 w7 ⟨rfl,hN⟩;have hg:=(xd.Y [] w6).D hN;refine⟨hg,p ZH<|pe ?_⟩;have h8:=Qm he hg;have hO:=h5.I hg;refine QX (α:=Unit) [(37,44)] (λz=>[(44,.bool (decide (0<=t/\t∉out)))]) (λz w'=>w'=w7) ol ?_ ?_
 ·refine Qr<|Qa<|xb (Yn Z Z) (λhq=>?_) (λhq=>?_)
  ·refine Qa<|Qa<|Qa<|Qw<|(QgV hO t).S ?_;rintro r8 w8 ⟨rfl,rfl⟩;refine x (Zi Z)<|QB Z<|xe<|⟨(),⟨O0 Value.bool ?_,La⟩,Z⟩;show(!decide (t∈out))=_;rw[Bool.eq_iff_iff];simp[hq]
  refine Qa<|Zs<|Kd<|QB Z<|xe ?_;exact⟨(),⟨O0 Value.bool (O4 (λe=>hq e.1)).symm,La⟩,Z⟩
 rintro _ g9 w9 rfl;refine Zp rfl (λhr=>?_) (λhr=>?_)
 ·rw[OY hr]at I;refine Qf<|Qr<|Qa<|QC Z Z<|Qb<|⟨(k+1,out,v),og,oy,ha.D hg,h8,G,hf,J,O,I⟩
 rw[OZ hr]at I hp;have hA:=ha.D hg;have ge:=hA.size;refine Qr<|Qa<|Qa<|Qo<|Q3 [[sS t]] λgg gh hs gi hP=>?_;have hQ:=Qm h8 hs;have gj:=hs.size;refine Qo<|Q0 (news:=[sS t]) (L:=[]) hQ Z Z Z (hP.at oe) oo oa oa λhS gk hU hV gl =>
  Qb ?_
 have hge:=Qi he;refine Qr<|Qa<|QC Z Z<|Qb<|⟨(k+1,out++[t],hS),og,oy,(hA.D hs).Z hV (λb hb=>.inr (hge b hb).1),Qh.snoc hU,hp,hf,by simp;omega,?_,I⟩;simp only[];rw[jD J];exact O
structure CrI (w7:O6)(b4:Nat)(vcl:O7)(n:Int)(vm vd:O7)(M:LI)(E:List Ed)(w:O6):Prop where
 st:xd [b4] w7 w
 B:QN ↑w b4 53 [vcl,sS n,vm,vd]
 m:Qh 3 ↑w7 w vm M
 e:Ye 179 ↑w7 w vd E
 dj:Dj vm vd
section
variable {w7 w'':O6}{b4:Nat}{vcl:O7}{n:Int}{vd:O7}{M:LI}{E:List Ed}
theorem CrI.I (h:CrI w7 b4 vcl n vm vd M E w)(G:sW w w'):CrI w7 b4 vcl n vm vd M E w':=⟨h.st.D G,h.B.I G,Qm h.m G,Qm h.e G,h.dj⟩
theorem CrI.setM (h:CrI w7 b4 vcl n vm vd M E w)(hb:b4<w7.heap.size){G:O7}{M':LI}(O:xd (ob vm) w w')(U:Qh 3 ↑w7 w' G M')(V:∀b∈ob G,b∈ob vm\/↑w<=b)(I:xd [b4] w' w'')
  (Y:QN ↑w'' b4 53 [vcl,sS n,G,vd]):CrI w7 b4 vcl n G vd M' E w'' :=
 ⟨(h.st.Z O (λb hb=>.inr (Qi h.m b hb).1)).Q I,Y,Qg U I (λb J=>by have:=(Qi U b J).1;simp;omega),
  Qg (Qg h.e O h.dj.symm) I (λb J=>by have:=(Qi h.e b J).1;simp;omega),(h.dj.symm.grow V (QW h.e)).symm⟩
theorem CrI.setE (h:CrI w7 b4 vcl n vm vd M E w)(hb:b4<w7.heap.size){G:O7}{E':List Ed}(O:xd (ob vd) w w')(U:Ye 179 ↑w7 w' G E')(V:∀b∈ob G,b∈ob vd\/↑w<=b)(I:xd [b4] w' w'')
  (Y:QN ↑w'' b4 53 [vcl,sS n,vm,G]):CrI w7 b4 vcl n vm G M E' w'' :=
 ⟨(h.st.Z O (λb hb=>.inr (Qi h.e b hb).1)).Q I,Y,Qg (Qg h.m O h.dj) I (λb J=>by have:=(Qi h.m b J).1;simp;omega),
  Qg U I (λb J=>by have:=(Qi U b J).1;simp;omega),h.dj.grow V (QW h.m)⟩
end
theorem Qa1 (a:Qz)(fd:LI)(k:Nat):Y2 a fd (k+1)=if xh fd k∈a.mr then Y2 a fd k++[(k:Int)]else Y2 a fd k:=by
 unfold Y2;rw[Mt,LW,Lv,LY];by_cases h:xh fd k∈a.mr
 ·rw[OZ h,L9,OZ (O2 h)];rfl
 rw[OY h,L9,OY (by rw[O4 h];simp),MV,Ns,LK]
theorem Qd8 (a:Qz)(fd:LI):∀k,(Y2 a fd k).length<=k
 | 0=>by simp[Y2]
 | k+1=>by
  have:=Qd8 a fd k;rw[Qa1];split
  ·simp;omega
  omega
theorem Qix (a:Qz)(fd:LI)(k:Nat):Xh a fd (k+1)=Xh a fd k++a.al.filterMap (KH a fd k):=by
 unfold Xh;rw[Mt,LJ,LY];simp
theorem j9 (h:Zv L ↑w va vm ve a)(U:QL a):
  QT sV 236 [.agg #[va,sS a.st,vm,ve]] w λr w'=>sW w w'/\Xu ↑w ↑w' r (Xc a):=by
 have h1:=U.st1;have kv:=U.al_le;have gb:=((jd U).1).len U.st0;refine Zn func236 ?_;refine Zg (xx a) λfd hs=>?_;rw[hs]at gb;have gc:Xc a=⟨a.al,fd.length,Y2 a fd fd.length,Xh a fd fd.length⟩:=by unfold Xc;rw[hs]
 refine Qc<|Zd [va,sS a.st,vm,ve] λb1 w1 ge kw hv=>QV [nS,sS 0,nS,nS] λb2 w2 hw kx hE=>xe ?_;have V:=ge.D hw;have hfr:=Qim (h.I V) U;rw[hs]at hfr;refine Qc<|Q7 (hv.I hw) Z Z<|Qw<|hfr.S ?_;rintro vf w3 ⟨hn,gg⟩;refine Qb ?_;have hF:=V.D hn;have hG:=(hv.I hw).I hn;refine Qc<|Qs Z hG Z Z<|Qw<|(qS (h.al.I hF) oa).S ?_;rintro r4 w4 ⟨hH,vcl,rfl,Y⟩;have hJ:=Qh.ints (L:=[]) Y oa oe;refine QV [nS,sS 0,nS,nS] λb4 w5 gh gi gj =>
  Q6 [vcl,sS 0,nS,nS] gj ⟨hJ.one,Z,Z,Z,La⟩ λw6 gk hK=>xe ?_
 have hz:sW w4 w6:=gh.O gk gi;have ha:=hH.D hz;have hL:=Qh.ints (L:=[]) gg oa oe;have kz:=hn.size;have k0:=hH.size;have k4:=hz.size;have k5:=hv.lt;have k6:=hE.lt;have k9:=hK.lt;refine Ql<|QG hL Z<|Q9 Z<|Qo<|Qv (u:=sS fd.length) hK Z Z oe rfl λw7 J gl=>xe ?_;have ma:=J.size;have mc:xd [b4] w3 w7:=(ha.any (L:=[b4])).Q J;have hM:sW w w7:=(hF.D ha).O J oa;have hN:Qu [b4] ↑w7 vf fd:=((hL.up (L':=[b4]) (λb hb=>.inr (by simp at hb;omega))).I ha).st J;have h0:Zv [b4] ↑w7 va vm ve a:=(h.up (λb hb=>.inr (by simp at hb;omega))).I hM;have gm:Qh 3 ↑w3 w7 vcl a.al:=Qg (Qm Y hz) J (λb hb=>by have:=QW Y b hb;simp;omega);have hO:=(hG.I ha).J J (by simp;omega);have he:b4<w7.heap.size:=oa
 have n1:b1∉[b4]:=by simp;omega
 have n2:b2∉[b4]:=by simp;omega
 refine Qd<|Qc<|Qb<|QY (α:=Nat×O7×O7) [(5,7),(16,69)] (λz=>[(5,sS z.1)])
  (λz w'=>z.1<=fd.length/\CrI w7 b4 vcl fd.length z.2.1 z.2.2 (Y2 a fd z.1) (Xh a fd z.1) w'/\(Xh a fd z.1).length<=z.1*32) (λz=>fd.length - z.1) (0,nS,nS) Lb
  ⟨Lp _,⟨xd.C _ _,gl,QM _ _ _ _,QM _ _ _ _,Dj.nil' _⟩,Lp _⟩ ?_
 rintro⟨i,v1,v2⟩ g8 w8 ⟨hi,hI,h3⟩;simp only[]at hi hI h3;have gn:=Qd8 a fd i;have hP:=hN.st hI.st;refine Qd<|Ql<|Qa<|QG hP Z<|ZT Z Z<|xe<|Zp rfl (λgq=>?_) (λgq=>?_)
 ·have gr:i=fd.length:=oa
  rw[gr]at hI h3 gn;refine Qt ?_;have gs:=Qh.ints (L:=[]) hI.m oa oe;have gt:=Ye.eds (L:=[]) hI.e oa oe;refine Qc<|Q7 hI.B Z Z<|Q6 [vcl,sS fd.length,v1,v2] ((((hE.I hn).I ha).J J (by simp;omega)).J hI.st n2) ⟨hJ.one,Z,gs.one,gt.one,La⟩ λw9 hp gu=>xe ?_;refine Qk ⟨[.agg #[vcl,sS fd.length,v1,v2]],⟨Kh gu,La⟩,(hM.O hI.st oa).O hp oa,?_⟩;rw[gc];have k1:=Qg (Qg gm hI.st (λb hb=>by have:=QW Y b hb;simp;omega)) hp (λb hb=>by have:=(Qi Y b hb).1;simp;omega);have k2:=Qg hI.m hp (λb hb=>by have:=(Qi hI.m b hb).1;simp;omega);have k3:=Qg hI.e hp (λb hb=>by have:=(Qi hI.e b hb).1;simp;omega);refine⟨vcl,v1,v2,Z,λL' h4=>⟨?_,?_,?_⟩⟩
  ·exact Qh.ints k1 (by show a.al.length<=_;omega) (λb hb=>oq (h4 b hb))
  ·exact Qh.ints k2 (by show(Y2 a fd fd.length).length<=_;omega) (λb hb=>oq (h4 b hb))
  exact Ye.eds k3 (by show(Xh a fd fd.length).length<=_;omega) (λb hb=>oq (h4 b hb))
 have h5:i<fd.length:=oa
 refine Zg (xh fd i) λs hq=>?_;have hf:=Qa1 a fd i;rw[hq]at hf;refine Qf<|Qd<|Qn<|QX (α:=O7) [(22,34)] (λz=>[]) (λz w'=>CrI w7 b4 vcl fd.length z v2 (Y2 a fd (i+1)) (Xh a fd i) w') ol ?_ ?_
 ·have gv:=h0.st hI.st;have gx:=hO.J hI.st n1;refine Qd<|ZK [] (Xj 0 7 [6])<|p (QH Z)<|pq (λ_ hc=>Qj (gx.I hc) Z Z)<|p Qx<|p Qx<|pic (i:=i) Z hP Z Z h5 λmf hQ=>?_;rw[hq]at hQ;refine pq (λ_ hc=>Qq (hQ.I hc) Z)<|pk<|xg<|(QgV (gv.mr.I (xd.Y [] w8)) s).S ?_;rintro mg mh ⟨rfl,rfl⟩;have h6:=hI.I (xd.Y [] w8);refine⟨xd.Y _ _,pe ?_⟩;refine Zp Z (λh7=>?_) (λh7=>?_)
  ·rw[OY h7]at hf;refine Qf ?_;exact⟨v1,La,by rw[hf];exact h6⟩
  rw[OZ h7]at hf;refine Qr<|Qs Z h6.B Z Z<|Qa<|Qo<|Q3 [[sS i]] λmj mo gy mq gz=>?_;have hg:=h6.I gy;refine Qo<|Q0 (news:=[sS i]) (L:=[]) hg.m Z Z Z (gz.at oe) oo oa hg.st.size λhR g0 g2 V g3=>?_;have hS:Qh 3 ↑w7 g0 hR (Y2 a fd i++[(i:Int)]):=Qh.snoc g2;refine Q9 Z<|Qo<|Qv (hg.B.J V (QJ hg.m he)) Z Z oe (Qh.ints (L:=[]) hS (by simp;omega) oe).one λms g4 g5 =>
   xe ?_
  exact⟨hR,La,by rw[hf];exact hg.setM he V hS g3 g4 g5⟩
 rintro v3 mt mu g6;refine Zg (Xh a fd (i+1)) λE1 h8=>?_;have hT:=Qix a fd i;rw[h8]at hT;refine Qc<|Qb<|QY (α:=Nat×List Ed×O7) [(6,7),(35,69)] (λz=>[(6,sS z.1)])
  (λz w'=>z.1<=a.al.length/\CrI w7 b4 vcl fd.length v3 z.2.2 (Y2 a fd (i+1)) z.2.1 w'/\z.2.1.length<=i*32+z.1/\z.2.1++(a.al.drop z.1).filterMap (KH a fd i)=E1) (λz=>a.al.length - z.1) (0,Xh a fd i,v2) Lb
  ⟨Lp _,g6,h3,hT.symm⟩ ?_
 rintro⟨k,E,vd⟩ mv hU ⟨hk,I,g7,G⟩;simp only[]at hk I g7 G;have h9:=h0.st I.st;have hr:=hO.J I.st n1;have hV:=hN.st I.st;refine Qd<|Ql<|Qs Z hr Z Z<|QG h9.al Z<|ZT Z Z<|xe<|Zp rfl (λg9=>?_) (λg9=>?_)
 ·refine Qt<|Qr<|Qa<|QC Z Z<|Qb ?_;rw[Lx oa,List.filterMap_nil,LK]at G;refine⟨(i+1,v3,vd),og,Lb,h5,?_,?_⟩
  ·simp only[];rw[h8,<-G];exact I
  simp only[];rw[h8,<-G];omega
 have O:k<a.al.length:=oa
 refine Zg (xh a.al k) λu hu=>?_;rw[Mi O,Zo O,hu,Mz]at G;refine Zg (nxt a.ed s u) λt ht=>?_;have ka:KH a fd i u=if 0<=t then some ((i:Int),u,zC fd t) else none:=by unfold KH;rw[hq,ht]
 rw[ka]at G;have hsr:=QcP (va:=va) (vm:=vm) (a:=a) (h9.ed.I (xd.Y [] hU)) s u a.st;rw[ht]at hsr;refine Qf<|Qd<|Qn<|Qd<|ZK [] (Xj 0 12 [10])<|pq (λ_ hc=>Zj (hr.I hc) Z Z)<|p Qx<|p Qx<|pic (i:=i) Z hV Z Z h5 λmw hW=>?_;rw[hq]at hW;refine pq (λ_ hc=>Qq (hW.I hc) Z)<|p (QH Z)<|pq (λ_ hc=>Qj (hr.I hc) Z Z)<|p Qx <|
  pic (i:=k) Z h9.al Z Z O λmy hX=>?_
 rw[hu]at hX;refine pq (λ_ hc=>Qq (hX.I hc) Z)<|pk<|xg<|hsr.S ?_;rintro mz hA ⟨rfl,kb⟩;have hh:=(xd.Y [] hU).D kb;refine⟨hh,p ZH<|pe ?_⟩;have hj:=I.I hh;have kc:=hr.I hh;have ke:=hV.I hh;refine Ql<|x (Yn Z Z)<|xe<|Zp rfl (λhB=>?_) (λhB=>?_)
 ·rw[OY hB]at G;refine Qf<|Qr<|Qa<|QC Z Z<|Qb<|⟨(k+1,E,vd),og,Lb,O,hj,og,G⟩
 rw[OZ hB]at G;have kf:=Qi I.e;have kg:Qu (b4::ob vd) ↑hA va a.al:=(((h0.al.up (L':=b4::ob vd) (λb hb=>by
  rcases Ll.1 hb with rfl|hb
  ·exact .inl oe
  exact .inr (kf b hb).1)).J I.st oe).I hh)
 have kh:=QJ hj.e he;have ki:b1∉ob vd:=QJ hj.e oa;refine ZK (ob vd) (Xj 0 16 [10,12,13,15])<|p (QH Z)<|pq (λ_ hc=>Qj (hj.B.J hc kh) Z Z)<|p Qx<|p (QH Z)<|pq (λ_ hc=>Qj (kc.J hc ki) Z Z) <|
  p Qx<|pic (i:=k) Z kg Z Z O λm0 hY=>?_
 rw[hu]at hY;refine pq (λ_ hc=>Qq (hY.J hc (λb hb=>Lh _ hb)) Z)<|p Qx<|p Qx <|
  pk<|xg<|(Qij (ke.I (xd.Y [] hA)) t).S ?_
 rintro m1 m2 ⟨rfl,rfl⟩;refine⟨xd.Y _ _,p (λ_=>QD ⟨Z,Z,Z,La⟩)<|pk<|Q3 [Qp ((i:Int),u,zC fd t)] λm3 m4 kj m5 kk=>?_⟩;have hC:=(xd.Y [] hA).D kj;have hm:=hj.I hC;refine⟨hC.any,?_⟩;refine pk<|Q0 (news:=Qp ((i:Int),u,zC fd t)) (L:=[]) hm.e Z Z Z (kk.at oe) (λy hy=>by simp only[Qp,oN,oJ,or_false]at hy;rcases hy with rfl|rfl|rfl <;> rfl) oa hm.st.size λhZ kn ko hD kq=>⟨(hC.any (L:=ob vd)).Q hD,?_⟩
 have ga:Ye 179 ↑w7 kn hZ (E++[((i:Int),u,zC fd t)]):=Ye.snoc ko;refine p (QH Z)<|pkk<|Qv (hm.B.J hD (QJ hm.e he)) Z Z oe (Ye.eds (L:=[]) ga (by simp;omega) oe).one λm6 kr kt =>
  pe ?_
 have ku:=hm.setE he hD ga kq kr kt;refine Qr<|Qa<|QC Z Z<|Qb<|⟨(k+1,E++[((i:Int),u,zC fd t)],hZ),og,Lb,O,ku,by simp;omega,?_⟩;simp only[Om,OA];exact G
theorem yx {x:O8}{k:IntKind}{a b:Int}(hx:ev f x=.int k a)(I:ev f y=.int k b)(J:0<=a)(hb:0<b):
  (execOp (ev f) ⟨d,.binOp .rem t x y G,ty,pS,af,gd⟩).run P w=.ok (.value (.int k (a % b))) w:=by
 refine Kq hx I ?_;have h1:¬b=0:=oa
 simp[binOp,Op.intDiv,h1,Int.tmod_eq_emod_of_nonneg J]
instance ayMa1:Ay sV 26 5 22 5:=⟨od,od⟩
instance ayMa2:Ay sV 22 5 5 1:=⟨od,od⟩
abbrev bys (ns:LN):LV:=ns.map λn:Nat=>.int .u8 (n:Int)
theorem qZ (h:j<ns.length):(bys ns)[j]?=some (.int .u8 ((ns.getD j 0:Nat):Int)):=by simp[bys,oQ,h]
theorem Qea:∀(ns:LN),ZN (bys ns)
 | []=>trivial
 | _::ns=>⟨rfl,Qea ns⟩
theorem Ju (h:∀n∈ns,n<256)(j:Nat):ns.getD j 0<256:=by
 by_cases G:j<ns.length
 ·simp only[oQ,oX G,Option.getD_some];exact h _ (Lm G)
 simp[oQ,G]
structure GrI (al:LI)(S i k:Nat)(M:LI)(E:List Ed):Prop where
 mb:∀x∈M,0<=x/\x<S
 mi:YD M
 ml:∀x∈M,x<(i:Int)+1
 mn:M.length<=S
 eb:∀e∈E,0<=e.1/\e.1<S/\e.2.1∈al/\0<=e.2.2/\e.2.2<S
 ei:E.Pairwise λx y=>x.1<y.1\/(x.1=y.1/\x.2.1<y.2.1)
 el:∀e∈E,e.1<i\/(e.1=i/\e.2.1∈al.take k)
 en:E.length<=i*5+k
theorem Qos {S:Nat}{M:LI}(hb:∀x∈M,0<=x/\x<S)(hi:YD M):M.length<=S:=xM S M (hi.imp (λh=>oa)) hb
theorem GrI.mark {al:LI}{S:Nat}{M:LI}{E:List Ed}(h:GrI al S i 0 M E)(G:∀x∈M,x<(i:Int))(hi:i<S):GrI al S i 0 (M++[(i:Int)]) E:=by
 have I:∀x∈M++[(i:Int)],0<=x/\x<S:=λx hx=>by
  rcases Lk.1 hx with hx|hx
  ·exact h.mb x hx
  simp only[oH]at hx;omega
 have J:YD (M++[(i:Int)]):=by
  refine Mu.2 ⟨h.mi,oe,λx hx y O=>?_⟩;simp only[oH]at O;subst O;exact G x hx
 refine⟨I,J,λx hx=>?_,Qos I J,h.eb,h.ei,h.el,h.en⟩;rcases Lk.1 hx with hx|hx
 ·have:=G x hx;omega
 simp only[oH]at hx;omega
theorem GrI.skip {al:LI}{S k:Nat}{M:LI}{E:List Ed}(h:GrI al S i k M E)(G:k<al.length):GrI al S i (k+1) M E :=
 ⟨h.mb,h.mi,h.ml,h.mn,h.eb,h.ei,λe I=>(h.el e I).imp id (λx=>⟨x.1,by rw[Ln G];exact LG _ x.2⟩),oq h.en⟩
theorem GrI.edge {al:LI}{S k:Nat}{M:LI}{E:List Ed}(h:GrI al S i k M E)(I:k<al.length)(O:YD al)(hi:i<S){t:Int}(U:0<=t)(ht:t<S):GrI al S i (k+1) M (E++[((i:Int),xh al k,t)]):=by
 have V:xh al k∈al:=XH I;refine⟨h.mb,h.mi,h.ml,h.mn,λe G=>?_,?_,λe G=>?_,by have:=h.en;simp;omega⟩
 ·rcases Lk.1 G with G|G
  ·exact h.eb e G
  simp only[oH]at G;subst G;exact⟨og,og,V,U,ht⟩
 ·refine Mu.2 ⟨h.ei,oe,λx hx y J=>?_⟩;simp only[oH]at J;subst J;rcases h.el x hx with h1|⟨h1,h2⟩
  ·left;exact h1
  right;refine⟨h1,?_⟩;simp only[];have Y:YD (al.take k++al.drop k):=by rw[ML];exact O
  refine(Mu.1 Y).2.2 _ h2 _ ?_;rw[Mi I,Zo I];exact Lj
 rw[Ln I,Zo I];rcases Lk.1 G with G|G
 ·exact(h.el e G).imp id (λx=>⟨x.1,LG _ x.2⟩)
 simp only[oH]at G;subst G;exact .inr ⟨Z,Mv _ oe⟩
theorem GrI.next {al:LI}{S k:Nat}{M:LI}{E:List Ed}(h:GrI al S i k M E)(I:k<=5):GrI al S (i+1) 0 M E :=
 ⟨h.mb,h.mi,λx hx=>oq (h.ml x hx),h.mn,h.eb,h.ei,λe G=>by rcases h.el e G with h1|h1 <;> (left;omega),oq h.en⟩
theorem Qib {v:O7}{al:LI}(h:Qu L ↑w v al)(hb:∀e∈al,0<=e/\e<32)(hi:YD al)(hn:ns.length=27)(ho:∀n∈ns,n<256):
  QT sV 162 [v,sT (bys ns)] w λr w'=>sW w w'/\∃a:Qz,Xu ↑w ↑w' r a/\QL a/\a.st<=5/\a.al=al /\
   (ns.getD 0 0<250->∃a0:Qz,QL a0/\0<a0.st/\a0.st<=((1+ns.getD 0 0 % 5:Nat):Int)/\a=Xc a0):=by
 have kz:al.length<=32:=xM 32 al (hi.imp (λh=>oa)) (λx hx=>oq (hb x hx));refine Zn func162 ?_;have g0:=qZ (ns:=ns) (j:=0) oa;have g1:=qZ (ns:=ns) (j:=1) oa;have l0:=Ju ho 0;have l1:=Ju ho 1;refine Zg (ns.getD 0 0) λs0 hs0=>?_;refine Zg (ns.getD 1 0) λm1 hX=>?_;rw[hs0]at g0 l0;rw[hX]at g1 l1;refine Qc<|Zd (bys ns) λb3 w1 hY k0 h4=>QV [nS,sS 0,nS,nS] λb4 w2 h5 k4 hp=>xe ?_;have hm:=hY.D h5;have hr:=h4.I h5;have k5:=h4.lt;have k6:=hp.lt;refine Qd<|Qc<|Qs Z hr Z g0<|x (Yn Z Z)<|xe<|Zh rfl (λhZ=>?_) (λhZ=>?_)
 ·refine Ql<|Qw<|(qS (h.I hm) oa).S ?_;rintro r3 w3 ⟨h6,vcl,rfl,O⟩;have hs:=Qh.ints (L:=[]) O oa oe;refine Q6 [vcl,sS 0,nS,nS] (hp.I h6) ⟨hs.one,Z,Z,Z,La⟩ λw4 h7 ga=>xe ?_;have gb:=Qg O h7 (λb hb=>by have:=(Qi O b hb).1;simp;omega);refine Qk ⟨[.agg #[vcl,sS 0,nS,nS]],⟨Kh ga,La⟩,(hm.D h6).O h7 oa,⟨al,0,[],[]⟩,?_,?_,(by decide:(0:Int)<=5),Z,λh=>O1 h oa⟩
  ·exact⟨vcl,_,_,Z,λL' gc=>⟨Qh.ints gb (by show al.length<=_;omega) (λb hb=>oq (gc b hb)),Zw.nil _ _ _,Zw.nil _ _ _⟩⟩
  exact⟨hb,hi,(by decide:(0:Int)<=0),(by decide:(0:Int)<=4096),oe,oe,oe,oe⟩
 refine Qf<|Ql<|Qw<|(qS (h.I hm) oa).S ?_;rintro r5 w5 ⟨h8,vcl,rfl,O⟩;have hs:=Qh.ints (L:=[]) O oa oe;refine QV [nS,sS 0,nS,nS] λG w6 ge gg gh =>
  Q6 [vcl,sS 0,nS,nS] gh ⟨hs.one,Z,Z,Z,La⟩ λw7 gi h9=>xe ?_
 have hA:sW w5 w7:=ge.O gi gg;have hf:=h8.D hA;have k9:=h8.size;have ma:=h9.lt;refine Zg (1+s0 % 5) λS hS=>?_;have gk:(1:Int)+(s0:Int) % 5=(S:Int):=oa
 refine Qc<|Qs Z (hr.I hf) Z g0<|x (yx (a:=(s0:Int)) (b:=5) Z Z oa oa)<|x (Yi (k':=.i64) Z ⟨oa,oa⟩)<|QC Z Z<|x (UJ Z) <|
  Qo<|Qv (u:=sS S) h9 Z (O0 sS gk) oe rfl λI Y gl=>xe ?_
 have mc:=Y.size;have mf:xd [G] w2 I:=(hf.any (L:=[G])).Q Y;have hB:sW w I:=(hm.D hf).O Y oa;have hC:Qu [G] ↑I v al:=(h.up (L':=[G]) (λb hb=>.inr (by simp at hb;omega))).I hB;have gm:Qh 3 ↑w2 I vcl al:=Qg (Qm O hA) Y (λb hb=>by have:=QW O b hb;simp;omega);have hD:=(hr.I hf).J Y (by simp;omega);have gn:=(hp.I hf).J Y (by simp;omega);have hg:G<I.heap.size:=oa
 have n3:b3∉[G]:=by simp;omega
 have n4:b4∉[G]:=by simp;omega
 refine Qd<|Qc<|Qb<|QY (α:=Nat×O7×O7×LI×List Ed) [(6,8),(22,76)] (λz=>[(6,sS z.1)])
  (λz w'=>z.1<=S/\CrI I G vcl S z.2.1 z.2.2.1 z.2.2.2.1 z.2.2.2.2 w'/\GrI al S z.1 0 z.2.2.2.1 z.2.2.2.2/\∀x∈z.2.2.2.1,x<(z.1:Int)) (λz=>S - z.1) (0,nS,nS,[],[]) Lb
  ⟨Lp _,⟨xd.C _ _,gl,QM _ _ _ _,QM _ _ _ _,Dj.nil' _⟩,⟨oe,oe,oe,oe,oe,oe,oe,oe⟩,oe⟩ ?_
 rintro⟨i,v1,v2,M,E⟩ g9 w9 ⟨gq,hI,J,hM⟩;simp only[]at gq hI J hM;have mg:=J.mn;have mh:=J.en;refine Qd<|Ql<|Qs Z hI.B Z Z<|ZT Z Z<|xe<|Zp rfl (λgr=>?_) (λgr=>?_)
 ·have mj:i=S:=oa
  refine Qt ?_;have gs:=Qh.ints (L:=[]) hI.m oa oe;have gt:=Ye.eds (L:=[]) hI.e oa oe;have gu:Qh 3 ↑w2 w9 vcl al:=Qg gm hI.st (λb hb=>by have:=QW O b hb;simp;omega);have gv:Zv [] ↑w9 vcl v1 v2 ⟨al,(S:Int),M,E⟩:=⟨Qh.ints gu (by show al.length<=_;omega) oe,gs,gt⟩;have hok:QL ⟨al,(S:Int),M,E⟩:=⟨hb,hi,og,og,J.mb,J.mi,J.eb,J.ei⟩;have hu:=Qcm hok;have hE:sW w w9:=hB.O hI.st oa;have gx:=gn.J hI.st n4;have mo:=hI.st.size;refine Qc<|Q7 hI.B Z Z<|Qw<|(j9 (a:=⟨al,(S:Int),M,E⟩) gv hok).S ?_;rintro vr mq ⟨hH,hF⟩;obtain⟨us,hJ,hK,gy⟩:=X3 hF;refine Qo<|ZM (us:=us) (gx.I hH) Z hJ hK Z gy λms hL gz=>xe ?_;have g2:=hE.size;refine Qk ⟨[sT us],⟨⟨_,Z,Yc hK (gz.at (L:=[]) oe).cells⟩,La⟩,(hE.D hH).O hL oa,Xc ⟨al,(S:Int),M,E⟩,?_,hu.1,?_,hu.2.1,λ_=>⟨⟨al,(S:Int),M,E⟩,hok,og,og,Z⟩⟩
  ·show Xu _ _ (sT us) _;rw[<-hJ];exact(Je hF oa hL).S g2
  have:=hu.2.2;simp only[]at this;omega
 have hv:i<S:=oa
 refine Qf<|Qd<|Qn<|QX (α:=O7×LI) [(28,39)] (λz=>[]) (λz w'=>CrI I G vcl S z.1 v2 z.2 E w'/\GrI al S i 0 z.2 E) ol ?_ ?_
 ·have g3:m1 / 2 ^ i<256:=Nat.lt_of_le_of_lt (Nat.div_le_self _ _) l1;refine Qc<|Qs Z (hD.J hI.st n3) Z g1<|Qa<|x (Qax (n:=i) Z Z (by show i<=8;omega))<|x (Uh (a:=m1 / 2 ^ i) (b:=1) (O0 (Value.int .u8) (zO m1 i)) Z g3 oh)<|x (Zc Z Z)<|xe<|Zp Z (λg4=>?_) (λg4=>?_)
  ·refine Qf ?_;exact⟨(v1,M),La,hI,J⟩
  refine Qr<|Qs Z hI.B Z Z<|Qa<|Qo<|Q3 [[sS i]] λmt mu g5 mv g6=>?_;have hh:=hI.I g5;refine Qo<|Q0 (news:=[sS i]) (L:=[]) hh.m Z Z Z (g6.at oe) oo oa hh.st.size λhN g7 g8 hO ka=>?_;have hP:Qh 3 ↑I g7 hN (M++[(i:Int)]):=Qh.snoc g8;refine Q9 Z<|Qo<|Qv (hh.B.J hO (QJ hh.m hg)) Z Z oe (Qh.ints (L:=[]) hP (by simp;omega) oe).one λmw kb kc =>
   xe ?_
  exact⟨(hN,M++[(i:Int)]),La,hh.setM hg hO hP ka kb kc,J.mark hM hv⟩
 rintro⟨v3,M3⟩ my mz ⟨hQ,hR⟩;simp only[]at hQ hR;refine Qc<|Qb<|QY (α:=Nat×O7×List Ed) [(7,8),(40,76)] (λz=>[(7,sS z.1)])
  (λz w'=>z.1<=al.length/\z.1<=5/\CrI I G vcl S v3 z.2.1 M3 z.2.2 w'/\GrI al S i z.1 M3 z.2.2) (λz=>5 - z.1) (0,v2,E) Lb
  ⟨Lp _,Lp _,hQ,hR⟩ ?_
 rintro⟨k,vd,F⟩ m0 ke ⟨hk,hT,ha,he⟩;simp only[]at hk hT ha he;have kf:=hC.st ha.st;have m2:=he.en;refine Qd<|QX (α:=Unit) [(40,47)] (λz=>[(47,.bool (decide (k<al.length/\k<5)))]) (λz w'=>w'=ke) ol ?_ ?_
 ·refine Qr<|Qa<|Qa<|QG kf Z<|xb (YF Z Z) (λhU=>?_) (λhU=>?_)
  ·refine Qa<|Qa<|ZT Z Z<|QB Z<|xe<|⟨(),⟨O0 Value.bool ?_,La⟩,Z⟩;exact decide_eq_decide.2 ⟨λe=>⟨oa,oa⟩,λe=>oa⟩
  refine Qa<|YN<|QB Z<|xe ?_;exact⟨(),⟨O0 Value.bool (O4 (λe=>hU oa)).symm,La⟩,Z⟩
 rintro _ m3 U rfl;refine Zp rfl (λhw=>?_) (λhw=>?_)
 ·refine Qt<|Qr<|Qa<|QC Z Z<|Qb<|⟨(i+1,v3,vd,M3,F),og,Lb,hv,ha,he.next hT,λx hx=>by have:=he.ml x hx;simp only[];omega⟩
 have hk1:k<al.length:=hw.1;have hz:k<5:=hw.2;have gj:=qZ (ns:=ns) (j:=0+2+i*5+k*1) oa;have lj:=Ju ho (0+2+i*5+k*1);refine Zg (ns.getD (0+2+i*5+k*1) 0) λq hq=>?_;rw[hq]at gj lj;have kg:=hD.J ha.st n3;have kh:0<=(q:Int) % ((S:Int)+2):=Int.emod_nonneg _ oa;refine Qf<|Qd<|Qn<|Qd<|ZK [] (Xj 0 12 [])<|p Qx<|p Qx<|p (QH Z)<|p (λ_=>ZX (i:=i) Z Z oa)<|p (λ_=>ZX (i:=k) Z Z hz)<|pq (λ_ hc=>Qj (kg.I hc) Z gj) <|
  p (λ_=>Yi (k':=.i64) Z ⟨oa,oa⟩)<|p (QH Z)<|pq (λ_ hc=>Qj (ha.B.I hc) Z Z)<|p (λ_=>Xy Z Z ⟨oa,oa⟩) <|
  p (λ_=>yx (a:=(q:Int)) (b:=(S:Int)+2) Z Z oa oa)<|p ZH<|pe ?_
 have V:=ha.I (xd.Y [] U);refine Zg ((q:Int) % ((S:Int)+2)) λt ht=>?_;refine Ql<|Qs Z V.B Z Z<|ZT Z Z<|xe<|Zp rfl (λki=>?_) (λki=>?_)
 ·refine Qf<|Qr<|Qa<|QC Z Z<|Qb<|⟨(k+1,vd,F),og,Lb,hk1,hz,V,he.skip hk1⟩
 have kj:=Qi V.e;have kk:Qu (G::ob vd) { U with drawn:=U.drawn+1 }.heap v al:=((hC.up (L':=G::ob vd) (λb hb=>by
  rcases Ll.1 hb with rfl|hb
  ·exact .inl oe
  exact .inr (kj b hb).1)).J V.st oe)
 have kn:=QJ V.e hg;refine Ur (xd (ob vd) { U with drawn:=U.drawn+1 }) [oB 0,oB 1,oB 2,oB 3,oB 4,oB 5,oB 6,oB 7,oB 8,oC 9,oC 10,oB 11,oC 12] mixed ol od (xd.Y _ _) ?_
 refine p (QH Z)<|pq (λ_ hc=>Qj (V.B.J hc kn) Z Z)<|p Qx<|p Qx<|p Qx <|
  pic (i:=k) Z kk Z Z hk1 λm4 ko=>pq (λ_ hc=>Qq (ko.J hc (λb hb=>Lh _ hb)) Z)<|p Qx<|p (λ_=>QD ⟨Z,Z,Z,La⟩) <|
  pk<|Q3 [Qp ((i:Int),xh al k,(q:Int) % ((S:Int)+2))] λm5 m6 kq m7 kr=>?_
 have h0:=(xd.Y [] { U with drawn:=U.drawn+1 }).D kq
 have hj:=V.I h0;refine⟨h0.any,?_⟩;refine pk<|Q0 (news:=Qp ((i:Int),xh al k,(q:Int) % ((S:Int)+2))) (L:=[]) hj.e Z Z Z (kr.at oe) (λy hy=>by simp only[Qp,oN,oJ,or_false]at hy;rcases hy with rfl|rfl|rfl <;> rfl) oa hj.st.size λhV kt ku h3 kv=>⟨(h0.any (L:=ob vd)).Q h3,?_⟩
 have hW:Ye 179 ↑I kt hV (F++[((i:Int),xh al k,(q:Int) % ((S:Int)+2))]):=Ye.snoc ku;refine p (QH Z)<|pkk<|Qv (hj.B.J h3 (QJ hj.e hg)) Z Z oe (Ye.eds (L:=[]) hW (by simp;omega) oe).one λm8 kw kx=>pe ?_;refine Qr<|Qa<|QC Z Z<|Qb<|⟨(k+1,hV,F++[((i:Int),xh al k,(q:Int) % ((S:Int)+2))]),og,Lb,hk1,hz,(hj.setE hg h3 hW kv kw kx),he.edge hk1 hi hv kh oa⟩
theorem qF [Ag P t sz]{x:O8}{b o:Nat}(h:QN ↑w b T cs)(hx:ev f x=.pointer (some ⟨b,o,none⟩))(hl:us.length=sz)(G:∀j u,us[j]?=some u->cs[o+j]?=some u):
  (execOp (ev f) ⟨d,.load t x,ty,pS,af,gd⟩).run P w=.ok (.value (sT us)) w:=by
 refine zR hx hl λj u I=>?_;rw[KG,Jc,h.cell];exact G j u I
theorem QoZ {o:Nat}:∀j u,(bys ((ns.drop o).take n))[j]?=some u->(bys ns)[o+j]?=some u:=by
 intro j u h;simp only[bys,List.getElem?_map,List.getElem?_take,List.getElem?_drop]at h ⊢;split at h
 ·exact h
 cases h
theorem Qo0 (h:∀n∈ns,n<256)(o n:Nat):∀m∈(ns.drop o).take n,m<256:=λm G=>h m (MZ (Ma G))
theorem Qgf (m k:Nat):∀e∈setK m k,0<=e/\e<k:=by
 intro e G;simp only[setK,Oj,Of,Od]at G;obtain⟨i,⟨hi,_⟩,rfl⟩:=G;omega
theorem QbL (keep:Bool->Bool->Bool):∀(n:Nat) (a b:LI),a.length+b.length<=n->YD a->YD b->YD (mrg keep a b):=by
 intro n;induction n with
 | zero =>
  intro a b h _ _;have J:a=[]:=Lu oa;have hb:b=[]:=Lu oa;subst J hb;rw[KU];exact List.Pairwise.nil
 | succ n ih =>
  intro a b O ia ib;by_cases h:a=[]/\b=[]
  ·obtain⟨rfl,rfl⟩:=h;rw[KU];exact List.Pairwise.nil
  have U:=yY h;have itl:∀(c:Bool) (l:LI),YD l->YD (tl c l):=λc l hl=>by
   cases c
   ·exact hl
   cases l with
   | nil=>exact hl
   | cons y l=>exact hl.tail
  have I:=ih (tl (Jt a b) a) (tl (Jt b a) b) oa (itl _ _ ia) (itl _ _ ib);rw[Kz keep h];cases keep (Jt a b) (Jt b a) with
  | false=>simpa using I
  | true =>
   simp only[cond_true,OA];refine Mb.2 ⟨λx hx=>?_,I⟩;have G:=(UU (itl _ _ ia) (itl _ _ ib) x).1 hx;cases a with
   | nil =>
    cases b with
    | nil=>exact O1 ⟨Z,Z⟩ h
    | cons y b =>
     simp only[Jt,tl,cond_true,cond_false,Oo,oJ,false_or,Lg.hx,Oi]at G ⊢;exact ib.lt_of G.1
   | cons u a =>
    cases b with
    | nil =>
     simp only[Jt,tl,cond_true,cond_false,Oo,oJ,or_false,Lg.hx,Oi]at G ⊢;exact ia.lt_of G.1
    | cons y b =>
     rcases Int.lt_trichotomy u y with h1|h1|h1
     ·have e1:decide (u<=y)=true:=O2 oa;have e2:decide (y<=u)=false:=O4 oa;simp only[Jt,tl,e1,e2,cond_true,cond_false,Oo,Lg.hx,Oi]at G ⊢;rcases G.1 with h2|h2
      ·exact ia.lt_of h2
      rcases Ll.1 h2 with h2|h2
      ·omega
      have:=ib.lt_of h2;omega
     ·have e1:decide (u<=y)=true:=O2 oa;have e2:decide (y<=u)=true:=O2 oa;simp only[Jt,tl,e1,e2,cond_true,Oo,Lg.hx,Oi]at G ⊢;rcases G.1 with h2|h2
      ·have:=ia.lt_of h2;omega
      have:=ib.lt_of h2;omega
     have e1:decide (u<=y)=false:=O4 oa;have e2:decide (y<=u)=true:=O2 oa;simp only[Jt,tl,e1,e2,cond_true,cond_false,Oo,Lg.hx,Oi]at G ⊢;rcases G.1 with h2|h2
     ·rcases Ll.1 h2 with h2|h2
      ·omega
      have:=ia.lt_of h2;omega
     exact ib.lt_of h2
abbrev ZY:O7:=nS
def srt (n:Nat)(l:LI):LI:=((oM n).filter λi:Nat=>decide ((i:Int)∈l)).map λi:Nat=>(i:Int)
theorem KQ (n:Nat)(l:LI):YD (srt n l):=by
 unfold srt YD;rw[Mj];exact((List.pairwise_lt_range).filter _).imp λh=>oa
theorem UA {l:LI}{x:Int}:x∈srt n l↔(0<=x/\x<(n:Int))/\x∈l:=by
 unfold srt;rw[Lt];constructor
 ·rintro⟨i,hi,rfl⟩;have h1:=LB.1 hi;have h2:=ME.1 h1.1;exact⟨⟨oa,oa⟩,O3 h1.2⟩
 rintro⟨⟨h1,h2⟩,G⟩;have e:((x.toNat:Nat):Int)=x:=oa
 exact⟨x.toNat,LB.2 ⟨ME.2 oa,O2 (by rw[e];exact G)⟩,e⟩
theorem Qgc (n:Nat)(l:LI):(srt n l).length<=n:=by
 unfold srt;rw[Lo];exact LA (LO _ _) (by rw[Mg];exact Lr _)
theorem KW {l m:LI}(hl:YD l)(J:YD m)(h:∀x,x∈l↔x∈m):l=m:=by
 induction l generalizing m with
 | nil =>
  cases m with
  | nil=>rfl
  | cons y m=>exact O1 ((h y).2 Lj) oe
 | cons x l ih =>
  cases m with
  | nil=>exact O1 ((h x).1 Lj) oe
  | cons y m =>
   obtain⟨h1,h2⟩:=Mb.1 hl;obtain⟨I,O⟩:=Mb.1 J;have e:x=y:=by
    rcases Ll.1 ((h x).1 Lj) with e|e
    ·exact e
    rcases Ll.1 ((h y).2 Lj) with e'|e'
    ·exact e'.symm
    have:=h1 y e';have:=I x e;omega
   subst e;refine O0 _ (ih h2 O λz=>⟨λG=>?_,λG=>?_⟩)
   ·rcases Ll.1 ((h z).1 (Lh _ G)) with e|e
    ·have:=h1 z G;omega
    exact e
   rcases Ll.1 ((h z).2 (Lh _ G)) with e|e
   ·have:=I z G;omega
   exact e
theorem Qjs {l m:LI}(G:YD m)(h:∀x,x∈m↔x∈l)(hb:∀x∈l,0<=x/\x<(n:Int)):m=srt n l :=
 KW G (KQ n l) λx=>by rw[UA,h x];exact⟨λhx=>⟨hb x hx,hx⟩,λhx=>hx.2⟩
def jG (ok:Ed->Bool)(l:LI)(e:Ed):LI:=if ok e=true/\e.2.2∉l then l++[e.2.2]else l
def bfs (ok:Ed->Bool)(ed:List Ed):Nat->Nat->LI->LI
 | 0,_,l=>l
 | f+1,i,l=>if i<l.length then bfs ok ed f (i+1) ((QK ed (xh l i)).foldl (jG ok) l) else l
theorem Qec {ok:Ed->Bool}{f:Nat}{l:LI}(h:¬i<l.length):bfs ok ed f i l=l:=by
 cases f with
 | zero=>rfl
 | succ f=>rw[bfs,OY h]
structure Ux (n:Nat)(l0 l:LI):Prop where
 ex:∃m,l=l0++m/\m.Nodup/\(∀x∈m,0<=x/\x<(n:Int))/\∀x∈m,x∉l0
theorem Ux.zero (n:Nat)(l0:LI):Ux n l0 l0:=⟨[],oe,MB,oe,oe⟩
theorem Ux.len {l0 l:LI}(h:Ux n l0 l):l.length<=l0.length+n:=by
 obtain⟨m,rfl,h1,h2,_⟩:=h.ex;have:=xM n m h1 h2;rw[Le];omega
theorem Ux.all {l0 l:LI}(h:Ux n l0 l)(G:∀x∈l0,0<=x/\x<(n:Int)):∀x∈l,0<=x/\x<(n:Int):=by
 obtain⟨m,rfl,_,h2,_⟩:=h.ex;intro x hx;rcases Lk.1 hx with hx|hx
 ·exact G x hx
 exact h2 x hx
theorem Ux.add {l0 l:LI}(h:Ux n l0 l){x:Int}(hx:0<=x/\x<(n:Int))(I:x∉l):Ux n l0 (l++[x]):=by
 obtain⟨m,rfl,h1,h2,J⟩:=h.ex;refine⟨m++[x],by rw[LC],?_,λy G=>?_,λy G=>?_⟩
 ·rw[Ml];refine⟨h1,oe,λa O b hb e=>?_⟩;rw[Lc.1 hb]at e;exact I (Lk.2 (.inr (e ▸ O)))
 ·rcases Lk.1 G with G|G
  ·exact h2 y G
  rw[Lc.1 G];exact hx
 rcases Lk.1 G with G|G
 ·exact J y G
 rw[Lc.1 G];exact λU=>I (Lk.2 (.inl U))
theorem Ux.edge {l0 l:LI}(h:Ux n l0 l)(ok:Ed->Bool){e:Ed}(G:0<=e.2.2/\e.2.2<(n:Int)):Ux n l0 (jG ok l e):=by
 unfold jG;split
 ·rename_i h1;exact h.add G h1.2
 exact h
theorem Ux.edges {n:Nat}{l0:LI}(ok:Ed->Bool):∀(es:List Ed) {l:LI},Ux n l0 l->(∀e∈es,0<=e.2.2/\e.2.2<(n:Int))->Ux n l0 (es.foldl (jG ok) l)
 | [],_,h,_=>h
 | e::es,_,h,G=>Ux.edges ok es (h.edge ok (G e Lj)) λx hx=>G x (Lh _ hx)
def cls (ok:Ed->Bool)(a:Qz)(l:LI):LI:=srt a.st.toNat (bfs ok a.ed (l.length+a.st.toNat) 0 l)
def ya (l:LI)(x:Int):LI:=if x∉l then l++[x]else l
def ddp (l:LI):LI:=l.foldl ya []
def hop (ed:List Ed)(l:LI)(v:Int):LI:=l.flatMap λs=>((QK ed s).filter λe=>decide (e.2.1=v)).map (·.2.2)
def mkd (a:Qz)(l:LI):Bool:=l.any λs=>decide (s∈a.mr)
def kpt (a:Qz)(o:LI):LI:=a.al.filter λv=>decide (v∈o)
def ers (a:Qz)(o:LI):LI:=a.al.filter λv=>!decide (v∈o)
def okR (ev:LI)(e:Ed):Bool:=decide (e.2.1∈ev)
def rch (a:Qz)(l ev:LI):LI:=cls (okR ev) a (ddp l)
def pnx (a:Qz)(er l:LI)(v:Int):LI:=rch a (hop a.ed l v) er
def Vm (z:Sy)(u:LI):Sy:=if u∈z.tup then z else⟨z.tup++[u],z.mk',z.ed⟩
def JJ (a:Qz)(er:LI)(i:Nat)(t:LI)(z:Sy)(v:Int):Sy :=
 if(pnx a er t v).length=0 then z else⟨(Vm z (pnx a er t v)).tup,(Vm z (pnx a er t v)).mk',(Vm z (pnx a er t v)).ed++[((i:Int),v,((Vm z (pnx a er t v)).tup.idxOf (pnx a er t v):Int))]⟩
def zz (a:Qz)(i:Nat)(t:LI)(z:Sy):Sy:=if mkd a t=true then⟨z.tup,z.mk'++[(i:Int)],z.ed⟩else z
def j6 (a:Qz)(kp er:LI):Nat->Nat->Sy->Sy
 | 0,_,z=>z
 | f+1,i,z=>if i<z.tup.length then j6 a kp er f (i+1) (kp.foldl (JJ a er i (Jk z i)) (zz a i (Jk z i) z)) else z
theorem Qj2 {kp er:LI}{f:Nat}{z:Sy}(h:¬i<z.tup.length):j6 a kp er f i z=z:=by
 cases f with
 | zero=>rfl
 | succ f=>rw[j6,OY h]
def pj0 (a:Qz)(er:LI):Sy:=⟨[rch a [0] er],[],[]⟩
def prj (a:Qz)(o:LI):Sy:=if a.st=0 then⟨[],[],[]⟩else j6 a (kpt a o) (ers a o) (2 ^ a.st.toNat) 0 (pj0 a (ers a o))
def ZI (a:Qz)(o:LI):Qz:=⟨kpt a o,(prj a o).tup.length,(prj a o).mk',(prj a o).ed⟩
def Ss (n:Nat)(l:LI):Prop:=YD l/\∀x∈l,0<=x/\x<(n:Int)
theorem qw (n:Nat)(l:LI):Ss n (srt n l):=⟨KQ n l,λ_ hx=>(UA.1 hx).1⟩
theorem Qlk {α:Type}(q:α->Bool):∀l:List α,l.length=(l.filter q).length+(l.filter λx=>!q x).length
 | []=>rfl
 | x::l=>by
  rw[L9,L9,LS,Qlk q l];cases q x <;> simp <;> omega
theorem zP:∀(n:Nat) (L:List (LI)),L.Nodup->(∀l∈L,Ss n l)->L.length<=2 ^ n
 | 0,L,hd,h=>by
  have O:∀l∈L,l=[]:=λl hl=>by
   cases l with
   | nil=>rfl
   | cons x l=>have:=(h _ hl).2 x Lj;omega
  match L,hd,O with
  | [],_,_=>simp
  | [_],_,_=>simp
  | a::b::L,hd,O =>
   have e1:=O a oe;have e2:=O b oe;rw[e1,e2]at hd;simp at hd
 | n+1,L,hd,h=>by
  have hq:=Qlk (λl:LI=>decide ((n:Int)∈l)) L;have h1:=zP n (L.filter λl=>!decide ((n:Int)∈l)) (hd.filter _) λl hl=>by
   obtain⟨h2,G⟩:=LB.1 hl;have I:(n:Int)∉l:=by simpa using G
   refine⟨(h l h2).1,λx hx=>?_⟩;have:=(h l h2).2 x hx;have:x≠(n:Int):=λe=>I (e ▸ hx);omega
  have V:∀a∈L,∀b∈L,(n:Int)∈a->(n:Int)∈b->(a.filter λx=>!decide (x=(n:Int)))=(b.filter λx=>!decide (x=(n:Int)))->a=b:=λa U b hb na nb e=>by
   refine KW (h a U).1 (h b hb).1 λx=>?_;by_cases hx:x=(n:Int)
   ·rw[hx];exact⟨λ_=>nb,λ_=>na⟩
   have J:x∈(a.filter λx=>!decide (x=(n:Int)))↔x∈(b.filter λx=>!decide (x=(n:Int))):=by rw[e]
   simpa[Of,hx]using J
  have h2:=zP n ((L.filter λl=>decide ((n:Int)∈l)).map λl=>l.filter λx=>!decide (x=(n:Int))) (by
   unfold List.Nodup;rw[Mj];refine(hd.filter _).imp_of_mem λ{a b} U hb Y e=>Y ?_;obtain⟨G,I⟩:=LB.1 U;obtain⟨J,h6⟩:=LB.1 hb;exact V a G b J (O3 I) (O3 h6) e) λl hl=>by
   obtain⟨m,hm,rfl⟩:=Lt.1 hl;have G:=h m (LB.1 hm).1;refine⟨G.1.filter _,λx hx=>?_⟩;obtain⟨I,J⟩:=LB.1 hx;have:=G.2 x I;have:x≠(n:Int):=by simpa using J
   omega
  rw[Lo]at h2;have:2 ^ (n+1)=2 ^ n+2 ^ n:=by rw[OM];omega
  omega
def VW (o un:LI)(only:Bool)(e:Ed):Bool:=!decide (e.2.1∈o) && (!only || decide (e.2.1∈un))
def vcl (a:Qz)(o un:LI)(l:LI)(only:Bool):LI:=cls (VW o un only) a l
def vnx (a:Qz)(o un:LI)(l:LI)(v:Int):LI:=vcl a o un (hop a.ed l v) false
abbrev Dq:=LI×LI×LI
def Ko (l:List Dq)(x y:LI):Bool:=l.any λz=>decide (z.1=x/\z.2.1=y)
def dfE (a:Qz)(o un:LI)(x:Dq)(l:List Dq)(v:Int):List Dq :=
 if(vnx a o un x.1 v).length+(vnx a o un x.2.1 v).length > 0/\Ko l (vnx a o un x.1 v) (vnx a o un x.2.1 v)=false then l++[(vnx a o un x.1 v,vnx a o un x.2.1 v,x.2.2++[v])]else l
def dfL (a:Qz)(o un:LI)(bad:LI->LI->Bool):Nat->Nat->List Dq->Option (LI)
 | 0,_,_=>none
 | f+1,i,l=>match l[i]? with
  | none=>none
  | some x=>if bad x.1 x.2.1=true then some x.2.2 else dfL a o un bad f (i+1) ((kpt a o).foldl (dfE a o un x) l)
def dff (a:Qz)(o un:LI)(x y:LI)(bad:LI->LI->Bool):Option (LI):=dfL a o un bad (4 ^ a.st.toNat+1) 0 [(x,y,[])]
def yv (a:Qz)(x y:LI):Bool:=mkd a x && !mkd a y
def rft (a:Qz)(o un:LI)(est:LI)(s:Int):Option (LI):=dff a o un est (vcl a o un [s] false) (yv a)
abbrev jQ:=Int×LI×LI
def yo (l:List jQ)(s:Int)(t:LI):Bool:=l.any λz=>decide (z.1=s/\z.2.1=t)
def obN (a:Qz)(o un:LI)(x:jQ)(e:Ed):jQ:=(e.2.2,if e.2.1∈o then vnx a o un x.2.1 e.2.1 else x.2.1,x.2.2++[e.2.1])
def obE (a:Qz)(o un:LI)(x:jQ)(l:List jQ)(e:Ed):List jQ:=if yo l (obN a o un x e).1 (obN a o un x e).2.1=true then l else l++[obN a o un x e]
def obL (a:Qz)(o un:LI):Nat->Nat->List jQ->Option (LI×LI)
 | 0,_,_=>none
 | f+1,i,l=>match l[i]? with
  | none=>none
  | some x=>match rft a o un x.2.1 x.1 with
   | some t=>some (x.2.2,t)
   | none=>obL a o un f (i+1) ((QK a.ed x.1).foldl (obE a o un x) l)
def obs (a:Qz)(o un:LI):Option (LI×LI):=if a.st=0 then none else obL a o un (4 ^ a.st.toNat+1) 0 [(0,vcl a o un [0] false,[])]
def psb (a:Qz)(v:Int)(l:LI):Bool:=l.any λs=>(QK a.ed s).any λe=>decide (e.2.1=v)
def ctd (a:Qz)(o un:LI)(s v:Int):Bool:=decide (v∈o) && (decide (v∈un) && (psb a v (vcl a o un [s] false) && !psb a v (vcl a o un [s] true)))
abbrev Cq:=Int×LI
def csE (x:Cq)(l:List Cq)(e:Ed):List Cq:=if e.2.2∈l.map (·.1) then l else l++[(e.2.2,x.2++[e.2.1])]
def csL (a:Qz)(o un:LI):Nat->Nat->List Cq->Option (LI×Int)
 | 0,_,_=>none
 | f+1,i,l=>match l[i]? with
  | none=>none
  | some x=>match a.al.find? (ctd a o un x.1) with
   | some v=>some (x.2,v)
   | none=>csL a o un f (i+1) ((QK a.ed x.1).foldl (csE x) l)
def cns (a:Qz)(o un:LI):Option (LI×Int):=if a.st=0 then none else csL a o un (a.st.toNat+1) 0 [(0,[])]
def hld (a:Qz)(un set:LI):Bool:=(obs a set un).isNone && (cns a set un).isNone
def ins (set:LI)(v:Int):LI:=srt 32 (set++[v])
def zL (a:Qz)(un:LI):LI->LI×LI->LI×LI
 | [],z=>z
 | v::vs,z=>if hld a un z.1=true then z else zL a un vs (if v∈z.1 then z else(ins z.1 v,z.2++[v]))
def xtD (a:Qz)(un:LI)(set:LI)(v:Int):LI:=if hld a un (set.filter λx=>!decide (x=v))=true then set.filter λx=>!decide (x=v) else set
def KC (a:Qz)(o un:LI):LI:=(zL a un a.al (kpt a o,[])).2.foldl (xtD a un) (zL a un a.al (kpt a o,[])).1
section
variable {all:xI}{C:xF}
theorem tf {pre:xA}{I J:Pt}(h:XP P all C (λf w=>(Yb all f (QR all i)=true/\XO P (QR all i) f w λG w'=>C w'/\XT P all C K I G w') /\
   (Yb all f (QR all j)=true/\XO P (QR all j) f w λG w'=>C w'/\XT P all C K J G w')) pre f w):XT P all C K (.fk pre i j I J) f w:=h
theorem tp {l:xA}(h:XP P all C K l f w):XT P all C K (.pl l) f w:=h
end
theorem Ku (es:List Ed)(s v:Int):nxt es s v=match xu es s v with|some u=>u|none=>-1:=by
 induction es with
 | nil=>rfl
 | cons e es ih =>
  rw[nxt,xu];split
  ·rfl
  exact ih
theorem yJ (G:QL a)(s v:Int):0<=nxt a.ed s v↔(xu a.ed s v).isSome=true:=by
 rw[Ku];cases h:xu a.ed s v with
 | none=>simp
 | some u=>simp;exact(G.ed _ (YI h)).2.2.2.1
section
variable {w4 w'':O6}{b:Nat}{m q:Bool}{vd:O7}{E D:LI}
end
def grid (g:Nat->Int->Option Ed)(vs:LI)(n:Nat):List Ed:=(oP 0 n).flatMap λj=>vs.filterMap (g j)
theorem KB (g:Nat->Int->Option Ed)(vs:LI)(n:Nat):grid g vs (n+1)=grid g vs n++vs.filterMap (g n):=by
 unfold grid;rw[Mt,LJ];simp
theorem zj (l m:List Ed)(s v:Int):xu (l++m) s v=match xu l s v with|some u=>some u|none=>xu m s v:=by
 induction l with
 | nil=>rfl
 | cons e l ih =>
  rw[Mq,xu,xu];split
  ·rfl
  exact ih
def zc (g:Nat->Int->Option Ed):Prop:=∀j v e,g j v=some e->e.1=(j:Int)/\e.2.1=v
theorem QdJ {g:Nat->Int->Option Ed}(I:zc g)(j:Nat)(v:Int):∀(vs:LI),xu (vs.filterMap (g j)) j v=if v∈vs then(g j v).map (·.2.2) else none
 | []=>by simp[xu]
 | u::vs=>by
  have ih:=QdJ I j v vs;rw[Mz];cases G:g j u with
  | none =>
   simp only[];rw[ih];by_cases e:v=u
   ·subst e;simp[G]
   simp[e]
  | some e =>
   have J:=I j u e G;simp only[];rw[xu];by_cases e2:u=v
   ·subst e2;rw[OZ J,OZ Lj,G];rfl
   rw[OY (λh=>e2 (J.2.symm.D h.2)),ih];simp[Ne.symm e2]
theorem QdI {g:Nat->Int->Option Ed}(G:zc g)(h:j≠i)(v:Int)(vs:LI):xu (vs.filterMap (g j)) i v=none:=by
 refine VR λe I h2=>?_;obtain⟨u,_,J⟩:=MJ.1 I;have:=G j u e J;omega
theorem qT {g:Nat->Int->Option Ed}(G:zc g)(vs:LI)(j:Nat)(v:Int):∀n,xu (grid g vs n) j v=if j<n/\v∈vs then(g j v).map (·.2.2) else none
 | 0=>by simp[grid,xu]
 | n+1=>by
  rw[KB,zj,qT G vs j v n];by_cases e:j=n
  ·subst e;rw[OY oa,QdJ G];simp
  rw[QdI G (Ne.symm e)];by_cases h:j<n/\v∈vs
  ·rw[OZ h,OZ ⟨oa,h.2⟩];cases(g j v).map (·.2.2) <;> rfl
  rw[OY h,OY (λh2=>h ⟨oa,h2.2⟩)]
theorem ja {g:Nat->Int->Option Ed}{vs:LI}{e:Ed}(h:e∈grid g vs n):∃j v,j<n/\v∈vs/\g j v=some e:=by
 unfold grid at h;obtain⟨j,G,h2⟩:=Mh.1 h;obtain⟨v,I,J⟩:=MJ.1 h2;rw[L4]at G;exact⟨j,v,oa,I,J⟩
theorem Qb0 {g:Nat->Int->Option Ed}(G:zc g){vs:LI}(hi:YD vs):∀n,(grid g vs n).Pairwise λx y:Ed=>x.1<y.1\/(x.1=y.1/\x.2.1<y.2.1)
 | 0=>by simp[grid]
 | n+1=>by
  rw[KB,Mu];refine⟨Qb0 G hi n,Jr (r:=(·<·)) (λx y u v V I J=>?_) hi,λe O e' U=>?_⟩
  ·have h1:=G n x u I;have h2:=G n y v J;right;omega
  obtain⟨j,v,Y,_,h1⟩:=ja O;obtain⟨v',_,h2⟩:=MJ.1 U;have h3:=G j v e h1;have h4:=G n v' e' h2;left;omega
theorem QsC (l:List Qz):∀(acc:LI),(∀a∈l,YD a.al)->YD acc->YD (l.foldl (λacc a=>mrg (· || ·) acc a.al) acc)/\∀x,x∈l.foldl (λacc a=>mrg (· || ·) acc a.al) acc↔x∈acc\/∃a∈l,x∈a.al:=by
 induction l with
 | nil=>intro acc _ h;exact⟨h,λx=>oe⟩
 | cons a l ih =>
  intro acc hl h;have I:=hl a Lj;obtain⟨h1,h2⟩:=ih (mrg (· || ·) acc a.al) (λb hb=>hl b (Lh _ hb)) (QbL _ _ _ _ (Lr _) h I);rw[LP];refine⟨h1,λx=>?_⟩;rw[h2 x,UU h I];simp only[oN,exists_eq_or_imp];constructor
  ·rintro(⟨G|G,_⟩|G)
   ·exact .inl G
   ·exact .inr (.inl G)
   exact .inr (.inr G)
  rintro(G|G|G)
  ·exact .inl ⟨.inl G,by simp[G]⟩
  ·exact .inl ⟨.inr G,by simp[G]⟩
  exact .inr G
theorem Qca {l:List Qz}(h:∀a∈l,QL a):YD (evs l):=(QsC l [] (λa G=>(h a G).ali) oe).1
theorem Xo {l:List Qz}(h:∀a∈l,QL a)(x:Int):x∈evs l↔∃a∈l,x∈a.al:=by
 have:=(QsC l [] (λa G=>(h a G).ali) oe).2 x;unfold evs;rw[this];simp
def syF (aa:List Qz)(tup:List (LI))(j:Nat)(v:Int):Option Ed:=(QU v aa (tup.getD j [])).map λu=>((j:Int),v,(tup.idxOf u:Int))
theorem Qjh (aa:List Qz)(tup:List (LI)):zc (syF aa tup):=by
 intro j v e h;unfold syF at h;obtain⟨u,_,rfl⟩:=LZ.1 h;exact⟨Z,Z⟩
theorem U5 {α β:Type}{f g:α->Option β}:∀{l:List α},(∀x∈l,f x=g x)->l.filterMap f=l.filterMap g
 | [],_=>rfl
 | x::l,h=>by rw[Mz,Mz,h x Lj,U5 (λy G=>h y (Lh _ G))]
theorem Qb3 {f:α->Option β}{v:α}{e:β}(h:f v=some e):[v].filterMap f=[e]:=by rw[Mz,h];rfl
theorem QgZ {f:α->Option β}{v:α}(h:f v=none):[v].filterMap f=[]:=by rw[Mz,h];rfl
theorem Qji {tup:List (LI)}{v:Int}(h:QU v aa (tup.getD j [])=none):syF aa tup j v=none:=by unfold syF;rw[h];rfl
theorem QcM {tup:List (LI)}{v:Int}(h:QU v aa (tup.getD j [])=some u):syF aa tup j v=some ((j:Int),v,(tup.idxOf u:Int)):=by unfold syF;rw[h];rfl
def Clo (aa:List Qz)(tup:List (LI))(j:Nat)(vs:LI):Prop:=∀v∈vs,∀u,QU v aa (tup.getD j [])=some u->u∈tup
theorem Y8 {tup r:List (LI)}(h:j<tup.length):(tup++r).getD j []=tup.getD j []:=by simp[oQ,Oa h]
theorem Qf9 {tup r:List (LI)}{vs:LI}(G:j<tup.length)(hc:Clo aa tup j vs):vs.filterMap (syF aa (tup++r) j)=vs.filterMap (syF aa tup j):=by
 refine U5 λv I=>?_;unfold syF;rw[Y8 G];cases J:QU v aa (tup.getD j []) with
 | none=>rfl
 | some u =>
  simp only[OJ,Option.some.injEq,Prod.mk.injEq,true_and];rw[Mf,OZ (hc v I u J)]
theorem Clo.pre {tup r:List (LI)}{vs:LI}(I:j<tup.length)(hc:Clo aa tup j vs):Clo aa (tup++r) j vs:=by
 intro v J u G;rw[Y8 I]at G;exact LG _ (hc v J u G)
theorem Y6 {l:List α}{u:α}(h:l.Nodup)(G:u∉l):(l++[u]).Nodup:=by
 rw[Ml];exact⟨h,oe,λa I b hb=>by simp only[oH]at hb;subst hb;exact λe=>G (by rw[<-e];exact I)⟩
theorem Qan {aa:List Qz}{i:Nat}:∀(vs:LI) (s J:Sy),i<s.tup.length->s.tup.Nodup->Vf aa i (Jk s i) vs s=some J ->
  ∃r,J.tup=s.tup++r/\J.mk'=s.mk'/\J.ed=s.ed++vs.filterMap (syF aa J.tup i)/\Clo aa J.tup i vs/\J.tup.Nodup
 | [],s,J,_,hd,e=>by cases e;exact⟨[],oe,rfl,oe,λv hv=>(by cases hv),hd⟩
 | v::vs,s,J,hi,hd,e=>by
  rw[Vf]at e;obtain⟨O,h1,h2⟩:=L7.1 e;have key:∃Y,O.tup=s.tup++Y/\O.mk'=s.mk'/\O.ed=s.ed++[v].filterMap (syF aa O.tup i)/\Clo aa O.tup i [v]/\O.tup.Nodup:=by
   unfold syE at h1;have eT:Jk s i=s.tup.getD i []:=rfl;rw[eT]at h1;cases U:QU v aa (s.tup.getD i []) with
   | none =>
    rw[U]at h1;cases h1
    refine⟨[],oe,rfl,by rw[QgZ (Qji U),Oq],λv' G u I=>?_,hd⟩;simp only[oH]at G;subst G;rw[U]at I;cases I
   | some u =>
    rw[U]at h1;simp only[]at h1;by_cases I:u∈s.tup
    ·rw[OZ I]at h1;cases h1
     refine⟨[],oe,rfl,by rw[Qb3 (QcM U)],λv' G u' V=>?_,hd⟩;simp only[oH]at G;subst G;simp only[]at V ⊢;rw[U]at V;cases V;exact I
    rw[OY I]at h1;split at h1
    ·cases h1
    cases h1
    have e2:(s.tup++[u]).getD i []=s.tup.getD i []:=Y8 hi;have e3:(s.tup++[u]).idxOf u=s.tup.length:=by rw[Mf,OY I];simp
    refine⟨[u],Z,Z,?_,λv' G u' V=>?_,Y6 hd I⟩
    ·rw[Qb3 (QcM (tup:=s.tup++[u]) (u:=u) (by rw[e2];exact U)),e3]
    simp only[oH]at G;subst G;rw[e2,U]at V;cases V;simp
  obtain⟨Y,k1,k2,k3,k4,k5⟩:=key;have ha:i<O.tup.length:=by rw[k1];simp;omega
  have eT:Jk O i=Jk s i:=by unfold Jk;rw[k1];exact Y8 hi
  rw[<-eT]at h2;obtain⟨r2,g1,g2,g3,g4,g5⟩:=Qan vs O J ha k5 h2;refine⟨Y++r2,by rw[g1,k1,LC],g2.D k2,?_,?_,g5⟩
  ·rw[g3,k3,LC];congr 1;rw[show v::vs=[v]++vs from rfl,List.filterMap_append];congr 1;rw[g1];exact(Qf9 ha k4).symm
  intro v' G u I;rcases Ll.1 G with rfl|G
  ·have:=k4.pre (r:=r2) ha;rw[<-g1]at this;exact this v' Lj u I
  exact g4 v' G u I
structure SyG (aa:List Qz)(i:Nat)(s:Sy):Prop where
 nd:s.tup.Nodup
 le:i<=s.tup.length
 hd:s.tup.getD 0 []=oI aa.length 0/\0<s.tup.length
 mk2:s.mk'=((oP 0 i).filter λj=>Yh aa (s.tup.getD j [])).map λj:Nat=>(j:Int)
 ed:s.ed=grid (syF aa s.tup) (evs aa) i
 cl:∀j,j<i->Clo aa s.tup j (evs aa)
theorem Y9 {α β:Type}{f g:α->List β}:∀{l:List α},(∀x∈l,f x=g x)->l.flatMap f=l.flatMap g
 | [],_=>rfl
 | x::l,h=>by rw[LR,LR,h x Lj,Y9 (λy G=>h y (Lh _ G))]
theorem SyG.next {s G:Sy}(h:SyG aa i s)(hi:i<s.tup.length)(e:Vf aa i (Jk s i) (evs aa) (ZP aa i (Jk s i) s)=some G):SyG aa (i+1) G:=by
 have ht:(ZP aa i (Jk s i) s).tup=s.tup:=by unfold ZP;split <;> rfl
 have V:(ZP aa i (Jk s i) s).ed=s.ed:=by unfold ZP;split <;> rfl
 have hT:Jk (ZP aa i (Jk s i) s) i=Jk s i:=by show(ZP aa i (Jk s i) s).tup.getD i []=s.tup.getD i [];rw[ht]
 rw[<-hT]at e;obtain⟨r,g1,Y,U,g4,g5⟩:=Qan (evs aa) _ G (by rw[ht];exact hi) (by rw[ht];exact h.nd) (by rw[hT]at e ⊢;exact e);rw[ht]at g1;rw[V]at U;have pre:∀j,j<=i->G.tup.getD j []=s.tup.getD j []:=λj I=>by rw[g1];exact Y8 oa
 refine⟨g5,by rw[g1];simp;omega,⟨by rw[pre 0 oa];exact h.hd.1,by rw[g1];simp;omega⟩,?_,?_,λj I=>?_⟩
 ·rw[Y,Mt,LW,Lv,LY];have e1:((oP 0 i).filter λj=>Yh aa (G.tup.getD j []))=(oP 0 i).filter λj=>Yh aa (s.tup.getD j []):=by
   refine NH λj I=>?_;rw[L4]at I;rw[pre j oa]
  rw[e1];unfold ZP;by_cases J:Yh aa (Jk s i)=true
  ·rw[OZ J];have O:Yh aa (G.tup.getD i [])=true:=by rw[pre i (Lr _)];exact J
   simp only[OF,O,if_true,List.filter_nil,oU,OI];rw[h.mk2]
  rw[OY J];have O:Yh aa (G.tup.getD i [])=false:=by rw[pre i (Lr _)];exact eq_false_of_ne_true J
  rw[L9,OY (by rw[O];simp),MV,h.mk2];simp
 ·rw[U,KB,h.ed];congr 1;unfold grid;refine Y9 λj I=>?_;rw[L4]at I;rw[g1];exact(Qf9 oa (h.cl j oa)).symm
 by_cases e2:j=i
 ·subst e2;exact g4
 have:=(h.cl j oa).pre (r:=r) oa;rw[<-g1]at this;exact this
theorem QcL {aa:List Qz}:∀(f i:Nat) (s G:Sy),SyG aa i s->syL aa f i s=some G->∃I,SyG aa I G/\(G.tup.length=I\/I=i+f)
 | 0,i,s,G,h,e=>by cases e;exact⟨i,h,.inr Z⟩
 | f+1,i,s,G,h,e=>by
  rw[syL]at e;split at e
  ·rename_i hi;obtain⟨J,h1,h2⟩:=L7.1 e;obtain⟨I,O,U⟩:=QcL f (i+1) J G (h.next hi h1) h2;exact⟨I,O,oa⟩
  cases e;exact⟨i,h,.inl (oq h.le)⟩
structure SyP (aa:List Qz)(A:Qz)(Q:List (LI)):Prop where
 al:A.al=evs aa
 st:A.st=(Q.length:Int)
 nd:Q.Nodup
 v:∀t∈Q,Vt aa t
 le:Q.length<=4096
 hd:0<Q.length->Q.getD 0 []=oI aa.length 0
 mk2:A.mr=((oP 0 Q.length).filter λj=>Yh aa (Q.getD j [])).map λj:Nat=>(j:Int)
 ed:A.ed=grid (syF aa Q) (evs aa) Q.length
 cl:∀j,j<Q.length->Clo aa Q j (evs aa)
theorem Yx (O:∀a∈aa,QL a){Q:List (LI)}(h:xw aa=some (A,Q)):SyP aa A Q/\(Q.length=0↔∃a∈aa,a.st=0):=by
 have hok:=zN O h;unfold xw at h;split at h
 ·rename_i I;cases h
  exact⟨⟨Z,Z,oe,oe,oe,λh=>by simp at h,oe,by simp[grid],λj J=>by simp at J⟩,ox I⟩
 rename_i I;obtain⟨s,h1,h2⟩:=LZ.1 h;have U:SyG aa 0 (zt aa):=⟨by simp[zt],oe,⟨by simp[zt],by simp[zt]⟩,by simp[zt],by simp[zt,grid],λj J=>oa⟩;obtain⟨V,G,h4⟩:=QcL 4096 0 (zt aa) s U h1;cases h2
 have hl:V=s.tup.length:=by
  have h5:=G.le;have Y:=hok.2;simp only[]at Y;omega
 subst hl;refine⟨⟨rfl,Z,G.nd,hok.1,hok.2,λ_=>G.hd.1,G.mk2,G.ed,G.cl⟩,?_⟩;have:=G.hd.2;constructor
 ·intro h;have h7:s.tup.length=0:=h;omega
 intro h;exact O1 h I
theorem SyP.J {Q:List (LI)}(h:SyP aa A Q)(I:j<Q.length)(v:Int):
  xu A.ed j v=if v∈evs aa then(QU v aa (Q.getD j [])).map λu=>(Q.idxOf u:Int) else none:=by
 rw[h.ed,qT (Qjh aa Q)];by_cases G:v∈evs aa
 ·rw[OZ ⟨I,G⟩,OZ G];unfold syF;rw[Option.map_map];rfl
 rw[OY (λe=>G e.2),OY G]
theorem SyP.to {Q:List (LI)}(h:SyP aa A Q)(G:j<Q.length){v:Int}(I:v∈evs aa)(J:QU v aa (Q.getD j [])=some u):Q.idxOf u<Q.length/\Q.getD (Q.idxOf u) []=u:=by
 have hl:=Md (h.cl j G v I u J);refine⟨hl,?_⟩;simp[oQ,hl]
theorem SyP.okay (I:∀a∈aa,QL a){Q:List (LI)}(h:SyP aa A Q):QL A:=by
 have hf:=h.le;refine⟨λe G=>?_,by rw[h.al];exact Qca I,by rw[h.st];omega,by rw[h.st];omega,λs J=>?_,?_,λe G=>?_,by rw[h.ed];exact Qb0 (Qjh aa Q) (Qca I) _⟩
 ·rw[h.al]at G;obtain⟨a,V,hx⟩:=(Xo I e).1 G;exact(I a V).al e hx
 ·rw[h.mk2]at J;simp only[Oj,Of,Od]at J;obtain⟨i,⟨hi,_⟩,rfl⟩:=J;rw[h.st];omega
 ·rw[h.mk2];unfold YD;rw[Mj];refine List.Pairwise.sublist MW ?_;exact(Nd (s:=0) (n:=Q.length)).imp (λh=>oa)
 rw[h.ed]at G;obtain⟨j,v,Y,O,U⟩:=ja G;unfold syF at U;obtain⟨u,hu,rfl⟩:=LZ.1 U;have:=(h.to Y O hu).1;rw[h.st,h.al];exact⟨og,og,O,og,og⟩
open Go.RowKit
instance:LawfulBEq ByteArray where
 eq_of_beq h:=(MapKept.bytes_beq _ _).1 h;rfl:=(MapKept.bytes_beq _ _).2 Z
def chr (s:ByteArray)(i:Nat):Nat:=(s.get! i).toNat
theorem Qq8 {s:ByteArray}(h:i<s.size):(s[i]'h).toNat=chr s i:=by
 unfold chr;obtain⟨d⟩:=s;have hd:i<d.size:=h;simp[ByteArray.get!,hd,ByteArray.getElem_eq_getElem_data]
theorem QiA {a b:ByteArray}(h:a.data.toList=b.data.toList):a=b:=by
 obtain⟨⟨x⟩⟩:=a;obtain⟨⟨y⟩⟩:=b;have G:x=y:=h;rw[G]
theorem bytes_beq (a b:ByteArray):(a.toList == b.toList)=decide (a=b):=by
 rw[ByteArray.toList_eq,ByteArray.toList_eq];by_cases h:a=b
 ·subst h;simp
 rw[O4 h];have:a.data.toList≠b.data.toList:=λe=>h (QiA e);simpa using this
section
variable {t':Nat}{x:O8}
theorem QjP [h:St P t]{s:ByteArray}{k:IntKind}(hx:ev f x=.string s)(G:ev f y=.int k i)(hi:i<s.size):
  (execOp (ev f) ⟨d,.index t x y,ty,pS,af,gd⟩).run P w=.ok (.value (.int .u8 (chr s i))) w:=by
 have h1:=run_index_string (P:=P) w t s k i h.u;rw[dif_pos ⟨oa,oa⟩]at h1;have e:(s[(i:Int).toNat]'(ox hi)).toNat=chr s i:=Qq8 hi;simp only[execOp,hx,G,Sem.run_bind,h1,Result.andThen_ok,Sem.run_pure,e]
theorem QeQ [h:St P t]{s:ByteArray}(hx:ev f x=.string s):
  (execOp (ev f) ⟨d,.call ⟨.builtin .len,#[x],#[t]⟩,ty,pS,af,gd⟩).run P w=.ok (.value (sS s.size)) w:=QjO h.u hx
theorem Qbv {a b:ByteArray}(hx:ev f x=.string a)(G:ev f y=.string b):
  (execOp (ev f) ⟨d,.binOp .eql t x y t',ty,pS,af,gd⟩).run P w=.ok (.value (.bool (decide (a=b)))) w:=by
 have I:(eqGuard .eql t x y (.string a) (.string b)).run P w=.ok () w:=by simp[eqGuard]
 simp only[execOp,hx,G,Sem.run_bind,I,Result.andThen_ok,binOp_string_eql,Sem.run_pure,bytes_beq]
theorem YQ {a b:ByteArray}(hx:ev f x=.string a)(G:ev f y=.string b)(hl:a.size+b.size<=1000000000):
  (execOp (ev f) ⟨d,.binOp .add t x y t',ty,pS,af,gd⟩).run P w=.ok (.value (.string (a++b))) w:=by
 have I:(eqGuard .add t x y (.string a) (.string b)).run P w=.ok () w:=by simp[eqGuard]
 have J:¬(((a.size+b.size:Nat):Int) > IntKind.i64.max):=by
  rw[show IntKind.i64.max=9223372036854775807 from rfl];omega
 simp only[execOp,hx,G,Sem.run_bind,I,Result.andThen_ok,binOp_string_add,Op.stringOp,OY J,Sem.run_pure]
end
section
variable {P:O9}{ops:xI}{K:xE}{f:Fr}{w:O6}{d:xJ}{ty:Nat}{pS:String}{af:xH}{gd:xz}{l:xI}
 {t e sz bys:Nat} {z:O7} {x y1 y2:O8} {L:LN} {v:O7} {n:Nat} {cs:LV} {H:xG} {k k':IntKind} {hi:Nat}
theorem QjL [h:Sl P t e sz bys z](hA:Zw L H v n sz cs)(hx:ev f x=v)(I:ev f y1=.int k hi)(J:ev f y2=.int k' hi)(h1:hi<=n):
  ∃v',Zw L H v' hi sz (cs.take (hi*sz))/\∀w,(execOp (ev f) ⟨d,.slice t x none (some y1) (some y2),ty,pS,af,gd⟩).run P w=.ok (.value v') w:=by
 obtain⟨ii,O,_,Y,_⟩:=Sl.info h;rcases hA.2.2 with⟨rfl,rfl⟩|⟨a,cap,rfl,hc,U⟩
 ·have V:hi=0:=oa
  subst V;refine⟨nS,?_,λw=>?_⟩
  ·rw[Nat.zero_mul,NL];exact Zw.nil _ _ _
  simp[execOp,hx,I,J,Instr.sliceAt,Instr.slice,Instr.sliceBounds,Instr.sliceBound,asIntOf,run_underlying h.u,sizeOf,typeInfo,O]
 refine⟨.slice (some a) hi hi,⟨?_,oq hA.2.1,.inr ⟨a,hi,Z,Lr _,λu G=>U.out u (Ma G),λu G=>U.lt u (Ma G),λj u G=>?_⟩⟩,λw=>?_⟩
 ·rw[LH,hA.1,M9 (MY _ h1)]
 ·rw[L6]at G;split at G
  ·exact U.cell j u G
  cases G
 by_cases V:hi=0
 ·subst V;simp[execOp,hx,I,J,Instr.sliceAt,Instr.slice,Instr.sliceBounds,Instr.sliceBound,asIntOf,run_underlying h.u,sizeOf,typeInfo,O]
 simp[execOp,hx,I,J,Instr.sliceAt,Instr.slice,Instr.sliceBounds,Instr.sliceBound,asIntOf,run_underlying h.u,sizeOf,typeInfo,O,Addr.add];intro h9;omega
end
section
variable {l:xI}{o:Oper}{C:xF}{pl:xA}
theorem xB {b:Bool}(G:(execOp (ev f) o).run P w=.ok (.value (.bool b)) w)(ht:b=true->XL P ops K l (QP f o.dst (.bool true)) w)(J:b=false->XL P ops K l (QP f o.dst (.bool false)) w)
  (I:Yb ops f o=true:=by rfl):XL P ops K (o::l) f w:=by
 cases hb:b with
 | true=>rw[hb]at G;exact x G (ht hb) I
 | false=>rw[hb]at G;exact x G (J hb) I
theorem pB {b:Bool}(G:∀w',(execOp (ev f) (QR ops i)).run P w'=.ok (.value (.bool b)) w')(ht:b=true->XP P ops C K pl (QP f (QR ops i).dst (.bool true)) w)(J:b=false->XP P ops C K pl (QP f (QR ops i).dst (.bool false)) w)
  (I:Yb ops f (QR ops i)=true:=by rfl):XP P ops C K ((i,true)::pl) f w:=by
 cases hb:b with
 | true=>rw[hb]at G;exact p G (ht hb) I
 | false=>rw[hb]at G;exact p G (J hb) I
theorem Qb7 {G:Prop}(b:Bool)(ht:b=true->G)(I:b=false->G):G:=by cases h:b with|true=>exact ht h|false=>exact I h
theorem bT {q:Prop}[Decidable q](h:q):true=decide q:=(O2 h).symm
theorem bF {q:Prop}[Decidable q](h:¬q):false=decide q:=(O4 h).symm
theorem bD {q r:Prop}[Decidable q][Decidable r](h:q↔r):decide q=decide r:=decide_eq_decide.2 h
end
section
variable {x:O8}
theorem yy {q:Prop}[Decidable q](hx:ev f x=.bool (decide q)):(execOp (ev f) ⟨d,.unOp .not t x,ty,pS,af,gd⟩).run P w=.ok (.value (.bool (decide (¬q)))) w:=by
 rw[Zi hx];simp
end
structure VU where
 nm:ByteArray
 co:Bool
 ob:Bool
 fo:Bool
 fl:Int
structure Jz where
 nm:ByteArray
 a:Qz
structure Exc where
 nm:ByteArray
 ls:xD
structure xQ where
 nm:ByteArray
 ts:xD
 bd:Int
structure ZO where
 ev:List VU
 co:List Jz
 rq:List Jz
 ex:List Exc
 cs:List xQ
def V3 (n:Nat):LI:=(oM n).map λi:Nat=>(i:Int)
def nmP (i c:Nat):Prop:=((97<=c/\c<=122)\/(65<=c/\c<=90)\/c=95)\/(i≠0/\48<=c/\c<=57)
instance (i c:Nat):Decidable (nmP i c):=by unfold nmP;infer_instance
def nmQ (s:ByteArray)(i:Nat):Bool:=decide (nmP i (chr s i))
def Xq (s:ByteArray):Bool:=(oP 0 s.size).all (nmQ s) && decide (0<s.size/\s.size<=32)
def Jm (seen:List ByteArray)(e:VU):Int:=if Xq e.nm=false then 7 else if e.nm∈seen then 8 else if e.fl<0\/4<e.fl then 2 else if e.fl≠0/\(e.co || e.ob)=true then 13 else 0
def zl:List ByteArray->List VU->Int
 | _,[]=>0
 | seen,e::l=>if Jm seen e≠0 then Jm seen e else zl (seen++[e.nm]) l
def XZ (l:List VU):Int:=if 32<l.length then 3 else zl [] l
def ixs {α:Type}(q:α->Bool):Nat->List α->LI
 | _,[]=>[]
 | i,e::l=>if q e=true then(i:Int)::ixs q (i+1) l else ixs q (i+1) l
def unc (l:List VU):LI:=ixs (λe=>!e.co) 0 l
def XM (sz:LI):Option Int->List (Int×Int)->Int
 | _,[]=>0
 | pr,l::ls=>if l.1<0\/(sz.length:Int)<=l.1 then 2 else if yR pr l.1=true then 5 else if l.2<0\/xh sz l.1.toNat<=l.2 then 2 else XM sz (some l.1) ls
def J5 (sz:LI)(ls:xD):Int:=if ls.length=0 then 12 else XM sz none ls
def grt (n:Int):Bool:=decide (n < -65536) || decide (65536<n)
def J4 (sz:LI):Option Int->List (Int×Int)->Int
 | _,[]=>0
 | pr,l::ls=>if l.1<0\/(sz.length:Int)<=l.1 then 2 else if yR pr l.1=true then 5 else if l.2=0\/grt l.2=true then 2 else J4 sz (some l.1) ls
def XN (sz:LI)(k:xQ):Int:=if k.ts.length=0 then 12 else if J4 sz none k.ts≠0 then J4 sz none k.ts else if grt k.bd=true then 2 else 0
def VA (seen:List ByteArray)(s:ByteArray):Int:=if Xq s=false then 7 else if s∈seen then 8 else 0
def YU (sz:LI):List ByteArray->List Exc->Int
 | _,[]=>0
 | seen,x::l=>if VA seen x.nm≠0 then VA seen x.nm else if J5 sz x.ls≠0 then J5 sz x.ls else YU sz (seen++[x.nm]) l
def Xr (sz:LI):List ByteArray->List xQ->Int
 | _,[]=>0
 | seen,x::l=>if VA seen x.nm≠0 then VA seen x.nm else if XN sz x≠0 then XN sz x else Xr sz (seen++[x.nm]) l
def Jn (n:Int):Bool:=decide (n<1) || decide (4096<n)
def Xa (sz:LI)(ex:List Exc)(cs:List xQ):Int:=if 8<sz.length then 3 else if sz.any Jn=true then 2 else if 32<ex.length\/32<cs.length then 3 else if YU sz [] ex≠0 then YU sz [] ex else Xr sz [] cs
def mns (a b:LI):LI:=mrg (λp q=>p && !q) a b
def KA (a:Qz):Bool:=decide (Jj a=0) && decide ((YB a).st=a.st/\(YB a).al=a.al/\(YB a).mr=a.mr/\(YB a).ed=a.ed)
def YA (nev:Nat)(amg:LI)(seen:List ByteArray)(x:Jz):Int :=
 if Xq x.nm=false then 7 else if x.nm∈seen then 8 else if Jj x.a≠0 then Jj x.a else if KA x.a=false then 6 else if x.a.st=0 then 12 else
 if(x.a.al.any λe=>decide ((nev:Int)<=e))=true then 2 else if(mns x.a.al amg).length≠0 then 9 else 0
def YC (nev:Nat)(al:LI):List ByteArray->LI->List Jz->Int×List ByteArray×LI
 | s,u,[]=>(0,s,u)
 | s,u,x::l=>if YA nev al s x≠0 then(YA nev al s x,s,u) else YC nev al (s++[x.nm]) (mrg (· || ·) u x.a.al) l
def KE (nev:Nat)(u:LI):List ByteArray->List Jz->Int
 | _,[]=>0
 | s,x::l=>if YA nev u s x≠0 then YA nev u s x else KE nev u (s++[x.nm]) l
def szs (l:List Jz):LI:=l.map (·.a.st)
def xj (l:List Jz):List Qz:=l.map (·.a)
def Z2 (c:ZO):Int :=
 if XZ c.ev≠0 then XZ c.ev else if c.co.length=0 then 12 else if 8<c.co.length\/12<c.co.length+c.rq.length then 3 else
 if(YC c.ev.length (V3 c.ev.length) [] [] c.co).1≠0 then(YC c.ev.length (V3 c.ev.length) [] [] c.co).1 else
 if KE c.ev.length (YC c.ev.length (V3 c.ev.length) [] [] c.co).2.2 (YC c.ev.length (V3 c.ev.length) [] [] c.co).2.1 c.rq≠0 then KE c.ev.length (YC c.ev.length (V3 c.ev.length) [] [] c.co).2.2 (YC c.ev.length (V3 c.ev.length) [] [] c.co).2.1 c.rq else
 Xa (szs c.co) c.ex c.cs
def Ua (t:LI)(x:Exc):Bool:=x.ls.all λl=>decide (t.getD l.1.toNat 0=l.2)
def QrW (t:LI)(k:xQ):Int:=k.ts.foldl (λs p=>s+p.2*t.getD p.1.toNat 0) 0
def qr (t:LI)(k:xQ):Bool:=decide (k.bd<QrW t k)
def vio (c:ZO)(t:LI):Option (Int×Int):=
 if 0<=fix (Ua t) 0 c.ex then some (1,fix (Ua t) 0 c.ex) else if 0<=fix (qr t) 0 c.cs then some (2,fix (qr t) 0 c.cs) else none
def rfr (v:Int):Nat->List Jz->LI->Int
 | i,x::l,s::ss=>if v∈x.a.al/\(xu x.a.ed s v).isSome=false then(i:Int) else rfr v (i+1) l ss
 | _,_,_=>-1
structure Rsn where
 st:Int
 kd:Int
 ix:Int
 ev:Int
def rfd (c:ZO)(rs:LI):LI->Option (Int×Int)
 | []=>none
 | v::l=>if 0<=rfr v 0 c.rq rs/\(c.ev.getD v.toNat ⟨.empty,false,false,false,0⟩).co=false then some (rfr v 0 c.rq rs,v) else rfd c rs l
def jk (a:Qz)(s:Int):LI:=(QK a.ed s).map (·.2.1)
def rsn (c:ZO)(pl:Qz)(plc:Int)(i:Nat)(t:LI):Option Rsn :=
 match vio c (t.take c.co.length) with
 | some (k,j)=>some ⟨i,k,j,-1⟩
 | none=>match rfd c (t.drop c.co.length) (jk pl plc) with
  | some (j,v)=>some ⟨i,3,j,v⟩
  | none=>none
structure Spc where
 a:Qz
 co:List (LI)
 rq:List (LI)
 pl:LI
 fb:List Rsn
def plx (ps:List (LI))(t:LI):Int:=if t∈ps then(ps.idxOf t:Int) else 0
def QpY (c:ZO)(pl:Qz)(ps:List (LI))(s:Spc)(p:LI×Nat):Spc :=
 ⟨s.a,s.co++[p.1.take c.co.length],s.rq++[p.1.drop c.co.length],s.pl++[plx ps (p.1.take c.co.length)],
  match rsn c pl (plx ps (p.1.take c.co.length)) p.2 p.1 with|some r=>s.fb++[r]|none=>s.fb⟩
def YY (c:ZO):Int:=if Z2 c≠0 then Z2 c else if K9 (xj c.co)≠0 then K9 (xj c.co) else match xw (xj c.co) with
 | none=>3
 | some _=>if K9 (xj c.co++xj c.rq)≠0 then K9 (xj c.co++xj c.rq) else match xw (xj c.co++xj c.rq) with
  | none=>3
  | some _=>0
def Jf (l:List Qz):Qz:=match xw l with|none=>⟨[],0,[],[]⟩|some z=>z.1
def syQ (l:List Qz):List (LI):=match xw l with|none=>[]|some z=>z.2
def spc (c:ZO):Spc:=(syQ (xj c.co++xj c.rq)).zipIdx.foldl (QpY c (Jf (xj c.co)) (syQ (xj c.co))) ⟨Jf (xj c.co++xj c.rq),[],[],[],[]⟩
theorem QeP [h:Bk P t]{x:O8}{a b:Bool}(hx:ev f x=.bool a)(I:ev f y=.bool b):
  (execOp (ev f) ⟨d,.binOp .neq t x y G,ty,pS,af,gd⟩).run P w=.ok (.value (.bool (!(a == b)))) w:=by
 have J:(eqGuard .neq t x y (.bool a) (.bool b)).run P w=.ok () w:=by simp[eqGuard]
 simp[execOp,hx,I,J,run_neq_bool (P:=P) (w:=w) t a b h.u]
inductive Pu where
 | pl (l:xA)
 | f2 (pre:xA) (i j:Nat) (t1 t2:Pu)
 | f3 (pre:xA) (i j k:Nat) (t1 t2 t3:Pu)
def Pu.len:Pu->Nat
 | .pl l=>l.length
 | .f2 pre _ _ t1 _=>pre.length+(1+t1.len)
 | .f3 pre _ _ _ t1 _ _=>pre.length+(1+t1.len)
def Qby (all:Array Oper):Pu->Array Bool->Bool
 | .pl l,ls=>Xp all l ls
 | .f2 pre i j t1 t2,ls=>Jq all pre ls && Region.ready .any all (ZU pre ls) == [i,j] && t1.len == t2.len && Qby all t1 ((ZU pre ls).setIfInBounds i true) && Qby all t2 ((ZU pre ls).setIfInBounds j true)
 | .f3 pre i j k t1 t2 t3,ls=>Jq all pre ls && Region.ready .any all (ZU pre ls) == [i,j,k] && t1.len == t2.len && t1.len == t3.len && Qby all t1 ((ZU pre ls).setIfInBounds i true) && Qby all t2 ((ZU pre ls).setIfInBounds j true) && Qby all t3 ((ZU pre ls).setIfInBounds k true)
def Qr4 (all:xI)(t:Pu):Bool:=Region.noSelect all.toArray && t.len == all.length && Qby all.toArray t (oR all.length false)
def XE (P:O9)(all:xI)(C:xF)(i:Nat)(N:xE)(f:Fr)(w:O6):Prop:=Yb all f (QR all i)=true/\XO P (QR all i) f w λG w'=>C w'/\N G w'
def XU (P:O9)(all:xI)(C:xF)(K:xE):Pu->Fr->O6->Prop
 | .pl l=>XP P all C K l
 | .f2 pre i j t1 t2=>XP P all C (λf w=>XE P all C i (XU P all C K t1) f w/\XE P all C j (XU P all C K t2) f w) pre
 | .f3 pre i j k t1 t2 t3=>XP P all C (λf w=>XE P all C i (XU P all C K t1) f w/\XE P all C j (XU P all C K t2) f w/\XE P all C k (XU P all C K t3) f w) pre
section
variable {all:xI}{C:xF}{B:xE}
theorem KI (G:Region.noSelect all.toArray=true):∀(t:Pu) (ls:Array Bool) (f:Fr) (w:O6),ls.size=all.length->C w->Qby all.toArray t ls=true->XU P all C K t f w->XA P all C K t.len ls f w
 | .pl l,ls,f,w,Y,hC,I,h=>Yt G l ls f w Y (.inl hC) I h
 | .f2 pre i j t1 t2,ls,f,w,Y,hC,I,h=>by
  simp only[Qby,oK,beq_iff_eq]at I;obtain⟨⟨⟨⟨hq,J⟩,hl⟩,h1⟩,h2⟩:=I;rw[Pu.len];refine YM (B:=λf w=>XE P all C i (XU P all C K t1) f w/\XE P all C j (XU P all C K t2) f w) G pre ls f w hC hq (λf O=>?_) h;have U:∀k,((ZU pre ls).setIfInBounds k true).size=all.length:=λk=>by simp[YR,Y]
  rw[M4 1];refine J8 (λh0=>(by rw[h0]at J;cases J)) ?_;rw[J];intro k hk o V;simp only[oN,oJ,or_false]at hk;rcases hk with rfl|rfl
  ·have:=O.1;unfold XE at this;rw[ZF V]at this;rw[this.1,cond_true];exact this.2.S λv w' hx=>⟨.inr (.inr hx.1),KI G t1 _ _ _ (U _) hx.1 h1 hx.2⟩
  have:=O.2;unfold XE at this;rw[ZF V]at this;rw[this.1,cond_true,hl];exact this.2.S λv w' hx=>⟨.inr (.inr hx.1),KI G t2 _ _ _ (U _) hx.1 h2 hx.2⟩
 | .f3 pre i j k t1 t2 t3,ls,f,w,Y,hC,I,h=>by
  simp only[Qby,oK,beq_iff_eq]at I;obtain⟨⟨⟨⟨⟨⟨hq,J⟩,hl⟩,ha⟩,h1⟩,h2⟩,h3⟩:=I;rw[Pu.len];refine YM (B:=λf w=>XE P all C i (XU P all C K t1) f w/\XE P all C j (XU P all C K t2) f w/\XE P all C k (XU P all C K t3) f w) G pre ls f w hC hq (λf O=>?_) h;have U:∀k,((ZU pre ls).setIfInBounds k true).size=all.length:=λk=>by simp[YR,Y]
  rw[M4 1];refine J8 (λh0=>(by rw[h0]at J;cases J)) ?_;rw[J];intro q hk o V;simp only[oN,oJ,or_false]at hk;rcases hk with rfl|rfl|rfl
  ·have:=O.1;unfold XE at this;rw[ZF V]at this;rw[this.1,cond_true];exact this.2.S λv w' hx=>⟨.inr (.inr hx.1),KI G t1 _ _ _ (U _) hx.1 h1 hx.2⟩
  ·have:=O.2.1;unfold XE at this;rw[ZF V]at this;rw[this.1,cond_true,hl];exact this.2.S λv w' hx=>⟨.inr (.inr hx.1),KI G t2 _ _ _ (U _) hx.1 h2 hx.2⟩
  have:=O.2.2;unfold XE at this;rw[ZF V]at this;rw[this.1,cond_true,ha];exact this.2.S λv w' hx=>⟨.inr (.inr hx.1),KI G t3 _ _ _ (U _) hx.1 h3 hx.2⟩
theorem Qhz {Q:Exit->Fr->O6->Prop}(C:xF)(t:Pu)(I:P.follows .mixedOrders=true)(J:XG n all=true)(G:Qr4 all t=true)
  (hC:C { w with drawn:=w.drawn+1 }) (h:XU P all C (λf w=>Q .normal f w) t f { w with drawn:=w.drawn+1 }):W P n (.region id all.toArray true) Q f w:=by
 simp only[Qr4,oK,beq_iff_eq]at G;obtain⟨⟨O,hl⟩,G⟩:=G;refine JO C I J ?_;have h1:=KI O t _ _ _ oe hC G h;rw[hl]at h1;exact h1
theorem uP {l:xA}(h:XP P all C K l f w):XU P all C K (.pl l) f w:=h
theorem u2 {pre:xA}{G I:Pu}(h:XP P all C (λf w=>XE P all C i (XU P all C K G) f w/\XE P all C j (XU P all C K I) f w) pre f w):XU P all C K (.f2 pre i j G I) f w:=h
theorem u3 {pre:xA}{k:Nat}{G I J:Pu}(h:XP P all C (λf w=>XE P all C i (XU P all C K G) f w/\XE P all C j (XU P all C K I) f w/\XE P all C k (XU P all C K J) f w) pre f w):XU P all C K (.f3 pre i j k G I J) f w:=h
theorem ue {N:xE}(h:XO P (QR all i) f w λG w'=>C w'/\N G w')(I:Yb all f (QR all i)=true:=by rfl):XE P all C i N f w:=⟨I,h⟩
end
attribute [irreducible] XU XE
open Go.RowKit
abbrev fen (ro:xJ):Fence:={ Fence.wide with round:=ro }
def coll (ds:LN):List Deferred:=ds.map λD=>{ target:=.collected D,args:=#[] }
structure Xi (n:Nat)(ds:LN)(a:Act)(f:Fr):Prop where
 size:a.tmps.size=n
 defers:a.defers=coll ds
 get:∀t,a.tmps.getD t undef=f t
theorem Xi.rel {a:Act}(h:Xi n ds a f):Rel n { a with defers:=[] } f:=⟨h.size,Z,h.get⟩
theorem Xi.eval {n:Nat}{ds:LN}{a:Act}{f:Fr}(h:Xi n ds a f):a.eval=ev f:=by
 have:=h.rel.eval;rw[<-this];funext x;cases x <;> rfl
theorem Xi.put {n:Nat}{ds:LN}{a:Act}{f:Fr}(h:Xi n ds a f){dst:xJ}(hd:∀d,dst=some d->d<n)(v:O7):Xi n ds (a.put dst v) (QP f dst v):=by
 have:=h.rel.put hd v;cases dst with
 | none=>exact h
 | some d=>exact⟨this.size,h.defers,this.get⟩
def Jp:Code->Nat->Bool
 | .region _ ops _,t=>Yq ops.toList t
 | .seq a b,t=>Jp a t || Jp b t
 | .cond _ a b,t=>Jp a t || Jp b t
 | .block _ a,t=>Jp a t
 | .loop a,t=>Jp a t
 | .skip,_| .exit _,_| .label _,_| .goto _,_| .ret,_| .rangeFunc ..,_=>false
 | _,_=>true
def wrG (D:xC):Code->Bool
 | .region _ ops _=>QfZ D ops.toList
 | .seq a b=>wrG D a && wrG D b
 | .cond _ a b=>wrG D a && wrG D b
 | .block _ a=>wrG D a
 | .loop a=>wrG D a
 | .skip| .exit _| .label _| .goto _| .ret| .rangeFunc ..=>true
 | _=>false
theorem JW {D:xC}{t:Nat}(ht:Kg D t=false):∀c:Code,wrG D c=true->Jp c t=false
 | .region _ ops _,h=>Qae h ht
 | .seq a b,h=>by simp only[wrG,oK]at h;simp[Jp,JW ht a h.1,JW ht b h.2]
 | .cond _ a b,h=>by simp only[wrG,oK]at h;simp[Jp,JW ht a h.1,JW ht b h.2]
 | .block _ a,h=>JW ht a (by simpa[wrG]using h)
 | .loop a,h=>JW ht a (by simpa[wrG]using h)
 | .skip,_=>rfl
 | .exit _,_=>rfl
 | .label _,_=>rfl
 | .goto _,_=>rfl
 | .ret,_=>rfl
 | .rangeFunc ..,_=>rfl
 | .scope _,h=>by simp[wrG]at h
 | .refuse _,h=>by simp[wrG]at h
def WG (ro:xJ)(m:Nat)(P:O9)(n:Nat)(c:Code)(Q:Exit->LN->Fr->O6->Prop)(ds:LN)(f:Fr)(w:O6):Prop :=
 ∀a,Xi n ds a f->c.wpIn (fen ro) m P (λe G w'=>∃ds' f',Xi n ds' G f'/\(∀t,Jp c t=false->f' t=f t)/\Q e ds' f' w') a w
def QeF (K:LN->Fr->O6->Prop)(Q:Exit->LN->Fr->O6->Prop):Exit->LN->Fr->O6->Prop
 | .normal,ds,f,w=>K ds f w
 | e,ds,f,w=>Q e ds f w
def QsL (id:Nat)(Q:Exit->LN->Fr->O6->Prop):Exit->LN->Fr->O6->Prop
 | .exit i,ds,f,w=>bif OW i id then Q .normal ds f w else Q (.exit i) ds f w
 | e,ds,f,w=>Q e ds f w
section
variable {ro:xJ}{Q:Exit->LN->Fr->O6->Prop}
theorem WG.S {c:Code}{Q':Exit->LN->Fr->O6->Prop}(h:WG ro m P n c Q ds f w)(G:∀e ds f w,Q e ds f w->Q' e ds f w):WG ro m P n c Q' ds f w :=
 λa I=>wpIn_mono (h a I) λ_ _ _ ⟨J,O,h1,h2,U⟩=>⟨J,O,h1,h2,G _ _ _ _ U⟩
theorem WG.keeps {c:Code}(h:WG ro m P n c Q ds f w):WG ro m P n c (λe I G w'=>(∀t,Jp c t=false->G t=f t)/\Q e I G w') ds f w :=
 λa J=>wpIn_mono (h a J) λ_ _ _ ⟨I,G,h1,h2,O⟩=>⟨I,G,h1,h2,h2,O⟩
theorem Yd (h:Q .normal ds f w):WG ro m P n .skip Q ds f w:=λ_ G=>wpIn_skip ⟨ds,f,G,λ_ _=>Z,h⟩
theorem JQ (h:Q (.exit i) ds f w):WG ro m P n (.exit i) Q ds f w:=λ_ G=>wpIn_exit ⟨ds,f,G,λ_ _=>Z,h⟩
theorem Ka (h:Q .ret ds f w):WG ro m P n .ret Q ds f w:=λ_ G=>wpIn_ret ⟨ds,f,G,λ_ _=>Z,h⟩
theorem QQ {x y:Code}(h:WG ro m P n x (QeF (λds f w=>WG ro m P n y Q ds f w) Q) ds f w):WG ro m P n (.seq x y) Q ds f w:=by
 intro a O;refine wpIn_seq (wpIn_mono (h a O) ?_);rintro e U w' ⟨J,G,h1,h2,I⟩;have k1:∀t,Jp (.seq x y) t=false->G t=f t:=λt ht=>h2 t (by simp only[Jp,Oe]at ht;exact ht.1);cases e with
 | normal =>
  refine wpIn_mono (I U h1) λ_ _ _ ⟨V,Y,g1,g2,g3⟩=>⟨V,Y,g1,λt ht=>(g2 t ?_).D (k1 t ht),g3⟩;simp only[Jp,Oe]at ht;exact ht.2
 | exit id=>exact⟨J,G,h1,k1,I⟩
 | goto l=>exact⟨J,G,h1,k1,I⟩
 | ret=>exact⟨J,G,h1,k1,I⟩
 | panic ch=>exact⟨J,G,h1,k1,I⟩
 | outgrown=>exact⟨J,G,h1,k1,I⟩
theorem QhG {x y:Code}(D:xC)(S:α->List (Nat×O7))(I:α->LN->O6->Prop)(hD:wrG D x=true)
  (h1:WG ro m P n x (QeF (λG O w'=>∃z,Xd O (S z)/\I z G w') Q) ds f w)
  (h2:∀z g G w',I z G w'->WG ro m P n y Q G (Uc (S z) (mix D f g)) w'):WG ro m P n (.seq x y) Q ds f w:=by
 refine QQ (h1.keeps.S ?_);rintro e G O w' ⟨V,J⟩;cases e with
 | normal =>
  obtain⟨z,Y,hi⟩:=J;have U:=h2 z O G w' hi;rw[Vp (λt ht=>V t (JW ht x hD)),XQ Y]at U;exact U
 | exit id=>exact J
 | goto l=>exact J
 | ret=>exact J
 | panic ch=>exact J
 | outgrown=>exact J
theorem K4 {c:O8}{x y:Code}{t:Bool}(hc:ev f c=.bool t)(ht:t=true->WG ro m P n x Q ds f w)(I:t=false->WG ro m P n y Q ds f w):
  WG ro m P n (.cond c x y) Q ds f w:=by
 intro a G;have J:a.eval c=.bool t:=by rw[G.eval];exact hc
 refine wpIn_cond_split J (λe=>wpIn_mono (ht e a G) ?_) (λe=>wpIn_mono (I e a G) ?_) <;>
  (rintro e Y w' ⟨O,U,h1,h2,V⟩
   refine⟨O,U,h1,λt ht=>h2 t ?_,V⟩;simp only[Jp,Oe]at ht
   first|exact ht.1|exact ht.2)
theorem Qpg {c:O8}{x y:Code}{p:Prop}[Decidable p](hc:ev f c=.bool (decide p))(ht:p->WG ro m P n x Q ds f w)(G:¬p->WG ro m P n y Q ds f w):
  WG ro m P n (.cond c x y) Q ds f w :=
 K4 hc (λe=>ht (O3 e)) (λe=>G (O5 e))
theorem qm {c:O8}{x y:Code}{p:Prop}[Decidable p](hc:ev f c=.bool (decide p))(G:¬p->WG ro m P n y Q ds f w)(ht:p->WG ro m P n x Q ds f w):
  WG ro m P n (.cond c x y) Q ds f w:=Qpg hc ht G
theorem jU {c:O8}{x y:Code}(hc:ev f c=.bool true)(h:WG ro m P n x Q ds f w):WG ro m P n (.cond c x y) Q ds f w:=K4 hc (λ_=>h) (λe=>by cases e)
theorem Kc {c:O8}{x y:Code}(hc:ev f c=.bool false)(h:WG ro m P n y Q ds f w):WG ro m P n (.cond c x y) Q ds f w:=K4 hc (λe=>by cases e) (λ_=>h)
theorem ZL {c:Code}(h:WG ro m P n c (QsL id Q) ds f w):WG ro m P n (.block id c) Q ds f w:=by
 intro a O;refine wpIn_block (wpIn_mono (h a O) ?_);rintro e U w' ⟨J,I,h1,h2,G⟩;have k1:∀t,Jp (.block id c) t=false->I t=f t:=λt ht=>h2 t (by simpa[Jp]using ht);cases e with
 | exit i =>
  simp only[Exit.inBlock];simp only[QsL]at G;by_cases hi:i=id
  ·subst hi;simp only[Nat.beq_refl,cond_true]at G;simp only[if_true];exact⟨J,I,h1,k1,G⟩
  have hb:OW i id=false:=by
   cases e:OW i id with
   | false=>rfl
   | true=>exact O1 (Nat.eq_of_beq_eq_true e) hi
  rw[hb]at G;rw[OY hi];exact⟨J,I,h1,k1,G⟩
 | normal=>exact⟨J,I,h1,k1,G⟩
 | goto l=>exact⟨J,I,h1,k1,G⟩
 | ret=>exact⟨J,I,h1,k1,G⟩
 | panic ch=>exact⟨J,I,h1,k1,G⟩
 | outgrown=>exact⟨J,I,h1,k1,G⟩
end
def QgH (l:xI):Bool:=l.all λo=>match o.op with| .defer _=>false|_=>true
theorem yL {l:xI}(h:QgH l=true):∀o∈l,∀c,o.op≠.defer c:=λo G c e=>by
 have:=Mo.1 h o G;rw[e]at this;cases this
section
variable {ro:xJ}
theorem Qhw {o:Oper}{a:Act}{K':Act->O6->Prop}{Q:Exit->Act->O6->Prop}(h:Xi n ds a f)(I:∀c,o.op≠.defer c)
  (hK:∀v w',K (QP f o.dst v) w'->K' (a.put o.dst v) w') (hx:XO P o f w K):o.wpIn (fen ro) m P a w K' Q:=by
 unfold XO at hx;refine⟨λ_ _=>trivial,?_⟩;have e:Oper.semAt (fen ro).round a.eval o=execOp (ev f) o:=by
  rw[h.eval];cases ro with
  | none=>rfl
  | some l=>exact Oper.semAt_some l _ _ I
 rw[e];generalize (execOp (ev f) o).run P w=r at hx;cases r with
 | ok nx w' =>
  cases nx <;> simp only[upF]at hx <;> simp only[Oper.uponIn]
  case value v=>exact hK v w' hx
  case skip=>exact hK _ w' hx
  case enter g args =>
   refine⟨λh=>by simp[Fence.wide]at h,?_⟩;refine(callsIn_wide (n:=m - 1)).2 (Calls.mono hx λe J G=>?_);cases e with
   | returned v=>exact hK v J G
   | panicked c=>exact G.elim
   | outgrown=>exact G.elim
 | halt x w'=>exact hx.elim
theorem V9 {l:xI}{a:Act}(h:Xi n ds a f)(G:∀o∈l,∀d,o.dst=some d->d<n)(o:Oper):Region.wanted o (yielded l.toArray a.tmps)=Yb l f o:=qo h.rel G o
theorem Qhx {Q:Exit->LN->Fr->O6->Prop}{all:xI}(I:∀o∈all,∀d,o.dst=some d->d<n)(hd:∀o∈all,∀c,o.op≠.defer c)(f0:Fr):
  ∀(l:xI) (k:Nat) (a:Act) (f:Fr) (w:O6),(∀j,l[j]?=all[k+j]?)->Xi n ds a f->(∀t,Yq all t=false->f t=f0 t) ->
   XL P all (λf w=>Q .normal ds f w) l f w ->
   wpOpsIn (fen ro) m P all.toArray (λe Y w'=>∃ds' f',Xi n ds' Y f'/\(∀t,Yq all t=false->f' t=f0 t)/\Q e ds' f' w') (oP k l.length) a w
 | [],_,a,f,w,_,G,O,h=>⟨ds,f,G,O,by unfold XL at h;exact h⟩
 | o::l,k,a,f,w,hl,G,O,h=>by
  have U:all[k]?=some o:=by simpa using(hl 0).symm
  have J:o∈all:=Me U;have ih:=λa f w=>Qhx (Q:=Q) I hd f0 l (k+1) a f w (λj=>by have:=hl (j+1);simpa[Nat.add_assoc,Nat.add_comm 1 j]using this);have next:∀v,(∀t,Yq all t=false->QP f o.dst v t=f0 t):=λv t ht=>(Xe (JE J ht) v).D (O t ht);simp only[oS,OE,wpOpsIn,oT,U];rw[V9 G I o];unfold XL at h;cases V:Yb all f o with
  | false =>
   rw[V]at h;exact⟨λ_ _=>trivial,ih _ _ _ (G.put (I o J) _) (next _) h⟩
  | true =>
   rw[V]at h;exact Qhw G (hd o J) (λv w' hx=>ih _ _ _ (G.put (I o J) v) (next v) hx) h
theorem Qy {Q:Exit->LN->Fr->O6->Prop}{l:xI}(G:XG n l=true)(hd:QgH l=true)(h:XL P l (λf w=>Q .normal ds f w) l f w):WG ro m P n (.region id l.toArray false) Q ds f w:=by
 intro a I;refine wpIn_region ?_;have:=Qhx (ro:=ro) (m:=m) (XY G) (yL hd) f l 0 a f w oe I (λ_ _=>rfl) h;simpa[List.range_eq_range',Jp]using this
attribute [local semireducible] XA in
theorem Qcp {Q:Exit->Act->O6->Prop}{all:xI}{C:xF}{K:xE}(I:∀o∈all,∀d,o.dst=some d->d<n)(hd:∀o∈all,∀c,o.op≠.defer c)(f0:Fr)
  (J:∀a f w,Xi n ds a f->(∀t,Yq all t=false->f t=f0 t)->K f w->Q .normal a w):
  ∀(k:Nat) (ls:Array Bool) (a:Act) (f:Fr) (w:O6),Xi n ds a f->(∀t,Yq all t=false->f t=f0 t)->XA P all C K k ls f w->wpAnyIn (fen ro) m P .any all.toArray Q k ls a w
 | 0,_,a,f,w,G,O,h=>⟨h.1,J a f w G O h.2⟩
 | k+1,ls,a,f,w,G,O,h=>by
  refine⟨λh0=>J a f w G O (h.1 h0),λi hi=>?_⟩;unfold wpOpIn;simp only[oT];cases V:all[i]? with
  | none =>
   exfalso;obtain⟨_,o,ha,_⟩:=mem_ready.1 hi;simp[V]at ha
  | some o =>
   have U:o∈all:=Me V;have h1:=h.2 i hi o V;have next:∀v,(∀t,Yq all t=false->QP f o.dst v t=f0 t):=λv t ht=>(Xe (JE U ht) v).D (O t ht);simp only[];rw[V9 G I o];cases Y:Yb all f o with
   | false =>
    rw[Y]at h1;exact⟨λ_ _=>trivial,Qcp I hd f0 J k _ _ _ _ (G.put (I o U) _) (next _) h1⟩
   | true =>
    rw[Y]at h1;exact Qhw G (hd o U) (λv w' hx=>Qcp I hd f0 J k _ _ _ _ (G.put (I o U) v) (next v) hx.2) h1
theorem jV {Q:Exit->LN->Fr->O6->Prop}{all:xI}(C:xF)(I:P.follows .mixedOrders=true)(J:XG n all=true)(hd:QgH all=true)
  (h:XA P all C (λf w=>Q .normal ds f w) all.length (oR all.length false) f { w with drawn:=w.drawn+1 }):WG ro m P n (.region id all.toArray true) Q ds f w:=by
 intro a O;refine wpIn_region_any I ?_;have h2:=Qcp (ro:=ro) (m:=m) (n:=n) (ds:=ds) (Q:=λe U w'=>∃ds' G,Xi n ds' U G/\(∀t,Yq all t=false->G t=f t)/\Q e ds' G w') (XY J) (yL hd) f
  (λa G w V Y hq=>⟨ds,G,V,Y,hq⟩) _ _ a f _ O (λ_ _=>Z) h
 simpa[Jp]using h2
theorem Ut {Q:Exit->LN->Fr->O6->Prop}{all:xI}(C:xF)(pl:xA)(I:P.follows .mixedOrders=true)(J:XG n all=true)(hd:QgH all=true)(G:yB all pl=true)
  (hC:C { w with drawn:=w.drawn+1 }) (h:XP P all C (λf w=>Q .normal ds f w) pl f { w with drawn:=w.drawn+1 }):WG ro m P n (.region id all.toArray true) Q ds f w:=by
 simp only[yB,oK,beq_iff_eq]at G;obtain⟨⟨O,hl⟩,G⟩:=G;have h1:=Yt O pl _ _ _ oe (.inl hC) G h;rw[hl]at h1;exact jV C I J hd h1
end
section
variable {ro:xJ}{Q:Exit->LN->Fr->O6->Prop}
theorem zr {F:Fence}{c:Code}{Q:Exit->Act->O6->Prop}{a:Act}(J:α->Act->O6->Prop)(μ:α->Nat)(z:α)(h₀:J z a w)
  (round:∀x a w,J x a w->c.wpIn F m P (Exit.then (λO w'=>∃U,μ U<μ x/\J U O w') Q) a w):(Code.loop c).wpIn F m P Q a w:=by
 intro b k cs Y hb V;have key:∀j x a w,μ x=j->J x a w ->
   ∃e O w',Q e O w'/\ArrivesIn (Machine.fenced P F) P (lone (b.atR a (.code c::.inLoop c::k)) cs w) b k cs e O w':=by
  intro j;induction j using Nat.strongRecOn with
  | _ j ih =>
   intro x a w hn hJ;obtain⟨e,a₁,w₁,G,I⟩:=round x a w hJ b (.inLoop c::k) cs Y hb V;cases e with
   | normal =>
    obtain⟨U,ha,he⟩:=G;obtain⟨e₂,a₂,w₂,hq₂,harr₂⟩:=ih (μ U) (hn ▸ ha) U a₁ w₁ Z he;exact⟨e₂,a₂,w₂,hq₂,.of_steps (StepsIn.trans I (.one (fenced_calm hb V Z) stepR_inLoop)) harr₂⟩
   | exit id=>exact⟨_,a₁,w₁,G,.pass (x:=.inLoop c) Z (λ_ _=>.inl oe) I⟩
   | goto l=>exact⟨_,a₁,w₁,G,.pass (x:=.inLoop c) Z (λ_ _=>.inl oe) I⟩
   | ret=>exact⟨_,a₁,w₁,G,.pass (x:=.inLoop c) Z (λ_ _=>.inl oe) I⟩
   | panic ch=>exact⟨_,a₁,w₁,G,.pass (x:=.inLoop c) Z (λ_ _=>.inl oe) I⟩
   | outgrown=>exact⟨_,a₁,w₁,G,.pass (x:=.inLoop c) Z (λ_ _=>.inl oe) I⟩
 obtain⟨e,O,w',G,I⟩:=key _ z a w Z h₀;exact⟨e,O,w',G,.of_steps (.one (fenced_calm hb V Z) stepR_loop) I⟩
theorem K3 {c:Code}(D:xC)(S:α->List (Nat×O7))(I:α->LN->O6->Prop)(μ:α->Nat)(hD:wrG D c=true)(z:α)
  (h0:Xd f (S z)) (hI:I z ds w)
  (round:∀x g O w',I x O w'->WG ro m P n c (QeF (λG U he=>∃Y,μ Y<μ x/\Xd U (S Y)/\I Y G he) Q) O (Uc (S x) (mix D f g)) w'):WG ro m P n (.loop c) Q ds f w:=by
 intro a ha;refine zr (λ(x:α) a' w'=>∃O U,Xi n O a' U/\(∀t,Jp c t=false->U t=f t)/\Xd U (S x)/\I x O w') μ z ⟨ds,f,ha,λ_ _=>Z,h0,hI⟩ ?_;rintro x a' w' ⟨O,U,h1,h2,h3,h4⟩;have h5:=round x U O w' h4;rw[Vp (λt ht=>h2 t (JW ht c hD)),XQ h3]at h5;refine wpIn_mono (h5 a' h1) ?_;rintro e hf he ⟨G,J,g1,g2,V⟩;have k1:∀t,Jp c t=false->J t=f t:=λt ht=>(g2 t ht).D (h2 t ht);have k2:∀t,Jp (.loop c) t=false->J t=f t:=λt ht=>k1 t (by simpa[Jp]using ht);cases e with
 | normal=>obtain⟨Y,hm,hs,hi⟩:=V;exact⟨Y,hm,G,J,g1,k1,hs,hi⟩
 | exit id=>exact⟨G,J,g1,k2,V⟩
 | goto l=>exact⟨G,J,g1,k2,V⟩
 | ret=>exact⟨G,J,g1,k2,V⟩
 | panic ch=>exact⟨G,J,g1,k2,V⟩
 | outgrown=>exact⟨G,J,g1,k2,V⟩
end
def rqG (P:O9)(rs:List ResultVar)(R:O7->O6->Prop):Exit->LN->Fr->O6->Prop
 | .normal,ds,f,w=>(∀D∈ds,w.heap[D]?=some (.deferred (some [])))/\ds.Nodup/\∃vs,∀w',xd ds w w'->qk P f w' rs vs/\R (tup vs) w'
 | .ret,ds,f,w=>(∀D∈ds,w.heap[D]?=some (.deferred (some [])))/\ds.Nodup/\∃vs,∀w',xd ds w w'->qk P f w' rs vs/\R (tup vs) w'
 | _,_,_,_=>False
theorem xd.putObj (w:O6)(D:Nat)(o:Obj):xd [D] w (w.putObj D o):=⟨rfl,rfl,rfl,oe,λk _ G=>World.putObj_heap_other (λe=>G (by simp[e]))⟩
theorem yQ {F:Fence}{m:Nat}{P:O9}{fn:Func}{tmps:Array O7}{R:Ending->O6->Prop}:∀(ds:LN) (w:O6),(∀D∈ds,w.heap[D]?=some (.deferred (some [])))->ds.Nodup ->
  (∀w',xd ds w w'->∃v,(results fn tmps).run P w'=.ok v w'/\R (.returned v) w')->LeavesInM F m P fn tmps R (coll ds) .returning w
 | [],w,_,_,h=>h w (xd.C _ _)
 | D::ds,w,hD,I,h=>by
  refine⟨oe,.inl ⟨D,_,rfl,run_takeDeferred (hD D Lj),?_⟩⟩;have G:=List.nodup_cons.1 I;refine yQ ds _ (λE hE=>?_) G.2 (λw' J=>h w' ?_)
  ·rw[World.putObj_heap_other (λe=>G.1 (by rw[<-e];exact hE))];exact hD E (Lh _ hE)
  exact((xd.putObj w D (.deferred none)).S (λb hb=>by simp at hb;simp[hb])).Q (J.S (λb hb=>Lh _ hb))
theorem QT.of_G {c:Code}{args:LV}{R:O7->O6->Prop}{rs:List ResultVar}(m:Nat)
  (Y:P.funcs[g]?=some fn) (hb:fn.body=some c) (hn:fn.ntmps=n) (ha:fn.results=rs.toArray) (hl:args.length<=n)
  (h:WG none m P n c (rqG P rs R) [] (ent args) w):QT P g args w R:=by
 unfold QT;refine(callsIn_wide (n:=m)).1 (callsIn_of_wp_marks Y hb La (wpIn_mono (h _ ?_) ?_))
 ·refine⟨by simp[hn];omega,Z,λt=>?_⟩;have key:∀(l:LV) (t:Nat),l[t]?.getD undef=ent l t:=by
   intro l;induction l with
   | nil=>intro t;rfl
   | cons v l ih=>intro t;cases t with|zero=>rfl|succ t=>simpa[ent]using ih t
  rw[<-key];simp only[Array.getD_eq_getD_getElem?,Array.getElem?_append,Ok,oT];by_cases ht:t<args.length
  ·simp[ht]
  simp[ht,Array.getElem?_replicate];split <;> rfl
 rintro e O w' ⟨J,f',h1,_,G⟩;have fin:((∀D∈J,w'.heap[D]?=some (.deferred (some [])))/\J.Nodup/\∃vs,∀I,xd J w' I->qk P f' I rs vs/\R (tup vs) I) ->
   LeavesInM Fence.wide m P fn O.tmps (λe w'=>match e with| .returned v=>R v w'|_=>False) O.defers .returning w':=by
  rintro⟨hd,he,vs,U⟩;rw[h1.defers];refine yQ J w' hd he λI V=>⟨tup vs,?_,(U I V).2⟩;simp only[results,ha,List.mapM_toArray,Sem.run_bind,Sem.run_map];rw[JY (a:={ O with defers:=[] }) h1.rel _ (λ_=>rfl) (λ_ _=>rfl) rs vs (U I V).1]
  cases vs with
  | nil=>rfl
  | cons v vs=>cases vs with|nil=>rfl|cons u us=>rfl
 cases e with
 | normal=>exact fin G
 | ret=>exact fin G
 | exit id=>exact G.elim
 | goto l=>exact G.elim
 | panic c=>exact G.elim
 | outgrown=>exact G.elim
attribute [irreducible] WG
theorem Qom [Fu sV g fn]{q:Ed->Bool}{v:O7}(h:qn L ↑w v es)
  (I:∀(e:Ed) (G:O6),sW w G->QT sV g ([sT (Qp e)]++cap) G λr w'=>r=.bool (q e)/\sW G w'):
  QT sV 159 [v,.func (.func g) #[] cap.toArray] w λr w'=>sW w w'/\IxQ q es r :=
 (ixG (c:=Qp) ⟨_,Z,func159⟩ (λ_=>Z) (ldA λ_=>Z) h λe _=>I e).S λ_ _ ⟨h1,h2⟩=>⟨h2,h1 ▸ Qoo q es⟩
theorem Qfd [Fu sV gp fn]{q:Int->Bool}{v:O7}{l:LI}(h:Zw L ↑w v l.length 1 (l.flatMap UZ))
  (I:∀e∈l,∀(G:O6),sW w G->QT sV gp ([sS e]++cap) G λr w'=>r=.bool (q e)/\sW G w'):
  QT sV 142 [v,.func (.func gp) #[] cap.toArray] w λr w'=>r=sS (fix q 0 l)/\sW w w' :=
 ixG ⟨_,Z,func142⟩ Qk7 (ld1 λ_=>Z) h I
theorem Qfz [Fu sV gp fn]{q:Int->Bool}{v:O7}{l:LI}(h:Zw L ↑w v l.length 1 (l.flatMap UZ))
  (I:∀e∈l,∀(G:O6),sW w G->QT sV gp ([sS e]++cap) G λr w'=>r=.bool (q e)/\sW G w'):
  QT sV 170 [v,.func (.func gp) #[] cap.toArray] w λr w'=>r=.bool (l.any q)/\sW w w':=by
 refine Zn func170 ?_;refine Qc<|Qb<|Ql<|Qa<|Vc<|(Qfd h I).S ?_;rintro O G ⟨rfl,J⟩;refine x (Yn Z Z)<|Qb<|Qk ⟨[_],Lb,O0 Value.bool (U7 q l 0),J⟩
theorem Qcf [Fu sV g fn]{q:Int->Bool}{v:O7}{es:LI}(h:Qu L ↑w v es)
  (I:∀(e:Int) (G:O6),sW w G->QT sV g ([sS e]++cap) G λr w'=>r=.bool (q e)/\sW G w'):
  QT sV 170 [v,.func (.func g) #[] cap.toArray] w λr w'=>r=.bool (es.any q)/\sW w w' :=
 Qfz (Qu.fl h) λe _=>I e
theorem QgF (es:List Ed)(s v:Int):nxt es s v=nxt (QK es s) s v:=by
 induction es with
 | nil=>rfl
 | cons e es ih =>
  unfold QK at *;rw[L9];by_cases h:e.1=s
  ·rw[OZ (ox h),nxt,nxt,ih]
  rw[OY (ox h),nxt,OY (λc=>h c.1),ih]
theorem Qe4:∀(l:List Ed) (s v:Int) (i:Nat) (hi:i<l.length),(∀e∈l,e.1=s)->(l[i]'hi).2.1=v->(∀m (G:m<i),(l[m]'oa).2.1≠v)->nxt l s v=(l[i]'hi).2.2
 | e::l,s,v,0,_,I,J,_=>by rw[nxt,OZ ⟨I e Lj,J⟩];rfl
 | e::l,s,v,i+1,hi,I,J,G=>by
  rw[nxt,OY (λc=>G 0 oa c.2)];exact Qe4 l s v i (ox hi) (λe O=>I e (Lh _ O)) J (λm U=>G (m+1) oa)
theorem Qkm:∀(l:List Ed) (s v:Int),(∀e∈l,e.2.1≠v)->nxt l s v=-1
 | [],_,_,_=>rfl
 | e::l,s,v,h=>by rw[nxt,OY (λc=>h e Lj c.2)];exact Qkm l s v (λe G=>h e (Lh _ G))
theorem Qku {b:Nat}{n:Int}(e:Ed)(w:O6)(I:QN ↑w b T [sS n]):
  QT sV 160 ([sT (Qp e)]++[sP b]) w λr w'=>r=.bool (decide (e.2.1=n))/\sW w w':=by
 refine Zn func160 ?_;refine Qc<|Zd (Qp e) λO U G V J=>Qb<|Qc<|Qs Z J Z Z<|ZD (I.I G) Z Z<|x (Zc Z Z)<|Qb<|Qk ⟨[_],Lb,Z,G⟩
theorem Qed {st:Int}(h:qn L ↑w ve a.ed)(J:QL a)(s v:Int)(hs0:0<=s)(U:s<a.st):
  QT sV 81 [.agg #[va,sS st,vm,ve],sS s,sS v] w λr w'=>r=sS (nxt a.ed s v)/\sW w w':=by
 have hk:=J.st1;refine Zn func81 ?_;refine Qc<|Zd [va,sS st,vm,ve] λb3 w1 U hn hf=>Zd [sS v] λb5 w2 V hp hg=>Qb<|Qc<|Q7 (hf.I V) Z Z<|Qa<|Qw<|(QbC ((h.I U).I V) J.eds (λe G=>⟨(J.ed e G).1,oq (J.ed e G).2.1⟩) s hs0 oa).S ?_;rintro vo w3 ⟨Y,hE⟩;refine Qb ?_;have hh:∀e∈QK a.ed s,e.1=s:=λe G=>(Zy G).2;rw[QgF];refine Ql<|x (Zl (l:=[]) (l':=[.tmp 5]))<|Qw<|(Qom (q:=λe=>decide (e.2.1=v)) (cap:=[sP b5]) hE (λe w4 O=>Qku e w4 ((hg.I Y).I O))).S ?_;rintro r4 w4 ⟨O,I⟩;have hW:=((U.D V).D Y).D O;refine Or.elim I (λI=>?_) (λI=>?_)
 ·obtain⟨rfl,hq⟩:=I;have e1:nxt (QK a.ed s) s v=-1:=Qkm _ _ _ λe G=>by
   obtain⟨i,hi,rfl⟩:=LQ G;simpa using hq i hi
  rw[e1];refine Qb<|Qd<|Ql<|ZT Z Z<|xe<|jI Z ?_;refine Qc<|Qb<|Qk ⟨[sS (-1)],Lb,Z,hW⟩
 obtain⟨i,hi,rfl,h1,h2⟩:=I;have e1:nxt (QK a.ed s) s v=((QK a.ed s)[i]'hi).2.2:=Qe4 _ s v i hi hh (ox h1) (λm hm=>ox (h2 m hm));rw[e1];refine Qb<|Qd<|Ql<|ZT Z Z<|xe<|Zh Z (λha=>O1 ha oa) (λha=>?_);refine Qf<|Ql<|Qa<|xie (hE.I O) Z Z hi λhs hj=>x (ZB Z)<|x (Qq (hj.fld 2 _ Z) Z)<|Qb<|Qk ⟨[_],Lb,Z,hW⟩
def flw (a:Qz):Int->LI->Int×Nat
 | s,[]=>(s,0)
 | s,v::u=>if nxt a.ed s v<0 then(s,0) else((flw a (nxt a.ed s v) u).1,(flw a (nxt a.ed s v) u).2+1)
theorem Qkn (G:QL a){v:Int}(h:¬nxt a.ed s v<0):nxt a.ed s v<a.st:=(G.ed _ (QbH oa)).2.2.2.2
theorem Qin {vw:O7}{st:Int}(h:qn L ↑w ve a.ed)(J:Qu L' ↑w vw u)(Y:QL a)(s:Int)(hs0:0<=s)(ha:s<a.st):
  QT sV 280 [.agg #[va,sS st,vm,ve],sS s,vw] w λr w'=>r=.tuple #[sS (flw a s u).1,sS (flw a s u).2]/\sW w w':=by
 have hq:=J.le;refine Zn func280 ?_;refine Qc<|Zd [va,sS st,vm,ve] λb3 w1 ha hr hh=>x Qe<|Qb<|Qd<|Ql<|QG J Z<|Qa<|xe<|QY (α:=Nat×Int) [(1,1),(6,10),(13,27)] (λz=>[(1,sS z.2),(13,sS z.1)]) (λz w'=>z.1<=u.length/\0<=z.2/\z.2<a.st/\sW w1 w'/\flw a s u=((flw a z.2 (u.drop z.1)).1,(flw a z.2 (u.drop z.1)).2+z.1)) (λz=>u.length - z.1) (0,s) oy ⟨Lp _,hs0,by assumption,xd.C _ _,oe⟩ ?_;rintro⟨k,t⟩ g w2 ⟨hk,hj,hm,V,G⟩;have O:=ha.D V;refine Zk rfl Z (λhe=>?_) (λhe=>?_)
 ·refine Qt<|Ql<|Qa<|QG J Z<|x Qe<|Qb ?_;rw[Lx oa]at G;have hn:k=u.length:=by have hs:¬(k:Int)<(u.length:Int):=he;omega
  refine Qk ⟨[sS t,sS u.length],oy,?_,O⟩;rw[G,hn];simp[flw,tup]
 have I:k<u.length:=oa
 rw[QZ I,flw]at G;refine Qf<|Qd<|Qn<|Ql<|xii (J.I O) Z Z I λhu hp=>x (Qq hp Z)<|x Qe<|Qb<|Qc<|Q7 (hh.I V) Z Z<|Qa<|Qa<|Qw<|(Qed (h.I O) Y t (u[k]'I) hj hm).S ?_;rintro r3 w3 ⟨rfl,hg⟩;refine Qb<|Qd<|Ql<|ZT Z Z<|xe<|Zh rfl (λU=>?_) (λU=>?_)
 ·rw[OZ U]at G;refine Ql<|Qa<|x Qe<|Qb<|Qk ⟨[sS t,sS k],oy,?_,O.D hg⟩;rw[G];simp[tup]
 rw[OY U]at G;refine Qf<|Qr<|Qa<|Qb<|Qr<|QC Z Z<|Qa<|xe<|⟨(k+1,nxt a.ed t (u[k]'I)),og,oy,I,og,(Qkn Y U),V.D hg,?_⟩;simp only[];rw[G];simp;omega
def cks (a:Qz)(s:Int):Int:=if Jj a≠0 then Jj a else if s<0\/a.st<=s then 2 else 0
theorem Kj (h:Zv L ↑w va vm ve a)(s:Int):
  QT sV 79 [.agg #[va,sS a.st,vm,ve],sS s] w λr w'=>r=sS (cks a s)/\sW w w':=by
 refine Zn func79 ?_;refine Qc<|Zd [va,sS a.st,vm,ve] λb2 w1 U ha V=>Qb<|Qd<|Qc<|Q7 V Z Z<|Qw<|(Xb (h.I U)).S ?_;rintro r2 w2 ⟨rfl,Y⟩;refine Qb ?_;unfold cks;have G:=U.D Y;refine Ql<|ZS Z Z<|xe<|Zh rfl (λI=>?_) (λI=>?_)
 ·refine Ql<|Qb<|Qk ⟨[_],Lb,by rw[OZ I];rfl,G⟩
 rw[OY I];refine Qf<|Qd<|QX (α:=Unit) [(11,18)] (λz=>[(18,.bool (decide (s<0\/a.st<=s)))]) (λz w'=>w'=w2) ol ?_ ?_
 ·refine Qr<|Qa<|xb (YF Z Z) (λJ=>?_) (λJ=>?_)
  ·refine Qa<|Zs<|Kd<|QB Z<|xe ?_;exact⟨(),⟨by rw[O2 (Or.inl J)];rfl,La⟩,Z⟩
  refine Qa<|Qa<|Qs Z (V.I Y) Z Z<|x (Yn Z Z)<|QB Z<|xe ?_;exact⟨(),⟨by show Value.bool (decide (a.st<=s))=_;simp[J],La⟩,rfl⟩
 rintro z g w3 rfl;refine Zh rfl (λO=>?_) (λO=>?_)
 ·refine Qc<|Qb<|Qk ⟨[_],Lb,by rw[OZ O];rfl,G⟩
 refine Qf<|Qc<|Qb<|Qk ⟨[_],Lb,by rw[OY O];rfl,G⟩
theorem QdZ (h:cks a s=0):QL a/\0<=s/\s<a.st:=by
 unfold cks at h;split at h
 ·rename_i h1;exact O1 h h1
 rename_i h1;split at h
 ·cases h
 rename_i h2;exact⟨(ZA a).1 (Ly.1 h1),oa,oa⟩
theorem Qnk {b:Nat}{al:LI}(e:Int)(w:O6)(G:QN ↑w b T (va::us))(hA:Qu L ↑w va al):
  QT sV 279 ([sS e]++[sP b]) w λr w'=>r=.bool (decide (e∉al))/\sW w w':=by
 refine Zn func279 ?_;refine Qc<|Qb<|Qc<|Qs Z G Z Z<|Qa<|Qw<|(ZG hA e).S ?_;rintro I J ⟨rfl,rfl⟩;refine x (Zi Z)<|Qb<|Qk ⟨[_],Lb,?_,xd.C _ _⟩;show Value.bool (!decide (e∈al))=_;rw[decide_not]
def Qnj (a:Qz)(s:Int)(u:LI):Int:=if cks a s≠0 then cks a s else if(u.any λe=>decide (e∉a.al))=true then 9 else 0
theorem Qrp {vw:O7}(h:Zv L ↑w va vm ve a)(hw:Qu L' ↑w vw u)(s:Int):
  QT sV 248 [.agg #[va,sS a.st,vm,ve],sS s,vw] w λr w'=>sW w w'/\r=if Qnj a s u≠0 then .tuple #[sS 0,sS 0,sS (Qnj a s u)]else .tuple #[sS (flw a s u).1,sS (flw a s u).2,sS 0]:=by
 refine Zn func248 ?_;refine Qc<|Zd [va,sS a.st,vm,ve] λb3 w1 ha hf U=>x Qe<|x Qe<|Qb<|Qd<|Qc<|Q7 U Z Z<|Qa<|Qw<|(Kj (h.I ha) s).S ?_;rintro r2 w2 ⟨rfl,V⟩;refine Qb ?_;have I:=ha.D V;unfold Qnj;refine Ql<|ZS Z Z<|xe<|Zh rfl (λG=>?_) (λG=>?_)
 ·refine Ql<|x Qe<|x Qe<|Qb<|Qk ⟨[_,_,_],oz,I,by rw[OZ G,OZ G];rfl⟩
 have hc:cks a s=0:=Ly.1 G;obtain⟨ho,h0,h1⟩:=QdZ hc;rw[OY G];refine Qf<|Qd<|Ql<|x (Zl (l:=[]) (l':=[.tmp 3]))<|Qw<|(Qcf (q:=λe=>decide (e∉a.al)) (cap:=[sP b3]) (hw.I I) (λe w4 J=>Qnk e w4 ((U.I V).I J) ((h.al.I I).I J))).S ?_;rintro r3 w3 ⟨rfl,he⟩;refine xe ?_;have O:=I.D he;refine Q5 rfl (λY=>?_) (λY=>?_)
 ·rw[OZ Y];refine Qc<|x Qe<|x Qe<|Qb<|Qk ⟨[_,_,_],oz,O,by rw[OZ oh];rfl⟩
 rw[OY (by rw[Y];simp)];refine Qf<|Qc<|Q7 ((U.I V).I he) Z Z<|Qa<|Qa<|Qw<|(Qin (h.ed.I O) (hw.I O) ho s h0 h1).S ?_;rintro r4 w4 ⟨rfl,J⟩;refine Qa<|x (Q2 Z Z) <|
  QS rfl rfl<|x Qe<|Qb<|Ql<|Qa<|x Qe<|x Qe<|Qb<|Qk ⟨[_,_,_],oz,O.D J,Z⟩
def enb (a:Qz)(s:Int):LI:=(QK a.ed s).map (·.2.1)
theorem QlA {l:List Ed}{k:Nat}(h:k<l.length):(l.take (k+1)).map (·.2.1)=(l.take k).map (·.2.1)++[(l[k]'h).2.1]:=by
 rw[List.take_add_one,LE h,Lv];rfl
theorem QfU (h:Zv L ↑w va vm ve a)(s:Int):
  QT sV 32 [.agg #[va,sS a.st,vm,ve],sS s] w λr w'=>sW w w'/\∃v,r=.tuple #[v,sS (cks a s)]/\(cks a s≠0->v=Zq)/\(cks a s=0->Qh 3 ↑w w' v (enb a s)):=by
 refine Zn func32 ?_;refine Qc<|Zd [va,sS a.st,vm,ve] λb2 w1 hh h8 hj=>x Qe<|Qb<|Qd<|Qc<|Q7 hj Z Z<|Qa<|Qw<|(Kj (h.I hh) s).S ?_;rintro r2 w2 ⟨rfl,hm⟩;refine Qb ?_;have V:=hh.D hm;refine Ql<|ZS Z Z<|xe<|Zh rfl (λY=>?_) (λY=>?_)
 ·refine Ql<|x Qe<|Qb<|Qk ⟨[Zq,_],oy,V,Zq,Z,λ_=>Z,λe=>O1 e Y⟩
 have hc:cks a s=0:=Ly.1 Y;obtain⟨I,h0,h1⟩:=QdZ hc;have h9:=I.st1;rw[hc];refine Qf<|Qc<|Qb<|Qd<|Qc<|Q7 (hj.I hm) Z Z<|Qa<|Qw<|(QbC (h.ed.I V) I.eds (λe he=>⟨(I.ed e he).1,oq (I.ed e he).2.1⟩) s h0 oa).S ?_;rintro vo w3 ⟨hp,hE⟩;refine QG hE Z<|Qa<|xe ?_;have hn:=V.D hp;have hq:=hn.size;have hr:=Yg a.ed s;have hA:=I.ed_le;refine Zg (QK a.ed s) λos J=>?_;rw[J]at hE hr;refine QY (α:=Nat×O7) [(7,7),(9,9),(20,29)] (λz=>[(7,z.2),(20,sS z.1)]) (λz w'=>z.1<=os.length/\sW w3 w'/\Qh 3 ↑w3 w' z.2 ((os.take z.1).map (·.2.1))) (λz=>os.length - z.1) (0,nS) ⟨Z,by rw[J];rfl,La⟩ ⟨Lp _,xd.C _ _,QM _ _ _ _⟩ ?_;rintro⟨k,v⟩ g w4 ⟨hk,U,O⟩;simp only[]at hk O;have hB:=U.size;refine Zk rfl Z (λha=>?_) (λha=>?_)
 ·refine Qt<|Ql<|x Qe<|Qb ?_;rw[Ls (by rw[J]at ha;omega)]at O;refine Qk ⟨[v,_],oy,hn.D U,v,Z,λe=>O1 Z e,λ_=>?_⟩;unfold enb;rw[J];exact Za O hq
 have G:k<os.length:=by rw[J]at ha;omega
 refine Qf<|Qd<|Qn<|Qc<|xie (hE.I U) Z Z G λhC hs=>x (QF hs Z Z)<|QV [sS 0,sS 0,sS 0] λb9 w5 hu hv hw=>Q6 (Qp (os[k]'G)) hw oz λw6 hy hz =>
  xe ?_
 have hf:sW w4 w6:=hu.O hy hv;have h3:=Qm O hf;refine Qr<|Qa<|Qs Z hz Z Z<|Qo<|Yj (us:=[[sS (os[k]'G).2.1]]) Z Z oh oe ⟨rfl,rfl,La⟩ λhD w7 hg hF h4=>?_;have h5:=Qm h3 hg;have hG:=(hf.D hg).size;have hH:((os.take k).map (·.2.1)).length<=131072:=by simp;omega
 refine Qo<|Q0 (news:=[sS (os[k]'G).2.1]) (L:=[]) h5 Z Z Z (h4.at oe) oo oa oa λv8 w8 h6 h7 hI=>Qb<|Qr<|QC rfl rfl<|Qa<|xe<|⟨(k+1,v8),og,oy,G,((U.D hf).D hg).Z h7 (λb hb=>.inr ((Qi O) b hb).1),?_⟩;simp only[];rw[QlA G];exact Qh.snoc h6
theorem QoI (J:QL a)(x v:Int):v∈enb a x↔0<=nxt a.ed x v:=by
 unfold enb;rw[yJ J];constructor
 ·intro h;obtain⟨e,O,rfl⟩:=Lt.1 h;obtain⟨h1,h2⟩:=Zy O;cases G:xu a.ed x e.2.1 with
  | some _=>rfl
  | none =>
   exfalso;have key:∀(l:List Ed),e∈l->xu l x e.2.1=none->False:=by
    intro l;induction l with
    | nil=>intro h;cases h
    | cons d l ih =>
     intro I G;rw[xu]at G;split at G
     ·cases G
     rename_i U;rcases Ll.1 I with rfl|I
     ·exact U ⟨h2,Z⟩
     exact ih I G
   exact key a.ed h1 G
 intro h;obtain⟨u,V⟩:=Option.isSome_iff_exists.1 h;have:=YI V;refine Lt.2 ⟨(x,v,u),?_,Z⟩;unfold QK;exact LB.2 ⟨this,oe⟩
theorem Qbs {v:O7}{l:LI}(h:Qu L ↑w v l)(n:Int):
  QT sV 254 [v,sS n] w λr w'=>r=sS (Ki n none l)/\w'=w:=by
 have hh:=h.le;refine Zn func254 ?_;refine Qc<|Qb<|Qd<|Ql<|QG h Z<|Qa<|xe<|QY (α:=Nat) [(4,6),(9,34)] (λk=>[(9,sS k)]) (λk w'=>w'=w/\k<=l.length/\Ki n (pv l k) (l.drop k)=Ki n none l) (λk=>l.length - k) 0 Lb ⟨Z,Lp _,Z⟩ ?_;rintro k g Y ⟨rfl,hk,G⟩;refine Zk rfl Z (λha=>?_) (λha=>?_)
 ·refine Qt<|Qc<|Qb<|Qk ⟨[sS 0],Lb,?_,Z⟩;rw[<-G,Lx oa];rfl
 have I:k<l.length:=oa
 rw[(QZ I),Ki]at G;refine Qf<|Qd<|Qn<|Ql<|xii h Z Z I λhj he=>x (Qq he Z)<|x Qe<|Qb<|Qn<|QX (α:=Bool) [(14,21)] (λz=>[(14,.bool z)]) (λz w'=>w'=Y/\z=decide (l[k]<0\/n<=l[k])) ol ?_ ?_
 ·refine Qr<|Qa<|xb (YF Z Z) (λJ=>?_) (λJ=>?_)
  ·refine Qa<|Zs<|QB Z<|Qb<|⟨true,Lb,Z,by simp[J]⟩
  refine Qa<|Qa<|Qa<|x (Yn Z Z)<|QB Z<|Qb<|⟨_,Lb,Z,by simp[J]⟩
 rintro z g w2 ⟨rfl,rfl⟩;refine Zh rfl (λO=>?_) (λO=>?_)
 ·refine Qc<|Qb<|Qk ⟨[sS 2],Lb,?_,Z⟩;rw[<-G,OZ O];rfl
 rw[OY O]at G;refine QX (α:=Bool) [(22,33)] (λz=>[(22,.bool z)]) (λz w'=>w'=w2/\z=yR (pv l k) l[k]) ol ?_ ?_
 ·refine Qr<|Qa<|xb (Ya Z Z) (λhf=>?_) (λhf=>?_)
  ·have hk1:((k:Int) - 1)=((k - 1:Nat):Int):=oa
   refine Qa<|Qa<|Qa<|Qa<|x (JH Z Z ⟨oa,oa⟩)<|xii (i:=k - 1) h Z (by show Value.int _ ((k:Int) - 1)=_;rw[hk1]) oa λhn hg=>x (Qq hg rfl)<|x (Jl rfl rfl)<|QB rfl<|Qb<|⟨_,⟨rfl,La⟩,rfl,?_⟩;have:pv l k=some l[k - 1]:=by
    have U:k≠0:=oa
    simp[pv,U,show k - 1<l.length by omega]
   rw[this];rfl
  refine Qa<|Zs<|Zs<|Kd<|QB Z<|Qb ?_;have U:k=0:=oa
  exact⟨false,Lb,Z,by simp[pv,U,yR]⟩
 rintro z g w3 ⟨rfl,rfl⟩;refine Q5 rfl (λV=>?_) (λV=>?_)
 ·refine Qc<|Qb<|Qk ⟨[sS 5],Lb,?_,Z⟩;rw[<-G,OZ V];rfl
 rw[OY (by simp[V])]at G;refine Qf<|Qr<|QC Z Z<|Qa<|xe ?_;exact⟨k+1,oa,Lb,Z,oa,by rw[KS I];exact G⟩
theorem zq {v:O7}{l:LI}(h:Qu L ↑w v l)(n:Int):
  QT sV 89 [v,sS n] w λr w'=>r=sS (Ki n none l)/\w'=w:=by
 have hh:=h.le;refine Zn func89 ?_;refine Qc<|Qb<|Qd<|Ql<|QG h Z<|Qa<|xe<|QY (α:=Nat) [(4,6),(9,32)] (λk=>[(9,sS k)]) (λk w'=>w'=w/\k<=l.length/\Ki n (pv l k) (l.drop k)=Ki n none l) (λk=>l.length - k) 0 Lb ⟨Z,Lp _,Z⟩ ?_;rintro k g Y ⟨rfl,hk,G⟩;refine Zk rfl Z (λha=>?_) (λha=>?_)
 ·refine Qt<|Qc<|Qb<|Qk ⟨[sS 0],Lb,?_,Z⟩;rw[<-G,Lx oa];rfl
 have I:k<l.length:=oa
 rw[(QZ I),Ki]at G;refine Qf<|Qd<|Qn<|Ql<|xii h Z Z I λhj he=>x (Qq he Z)<|x Qe<|Qb<|Qd<|QX (α:=Bool) [(14,20)] (λz=>[(20,.bool z)]) (λz w'=>w'=Y/\z=decide (l[k]<0\/n<=l[k])) ol ?_ ?_
 ·refine Qr<|Qa<|xb (YF Z Z) (λJ=>?_) (λJ=>?_)
  ·refine Qa<|Zs<|QB Z<|xe ?_;exact⟨true,Lb,Z,by simp[J]⟩
  refine Qa<|Qa<|Qa<|x (Yn Z Z)<|QB Z<|xe ?_;exact⟨_,Lb,Z,by simp[J]⟩
 rintro z g w2 ⟨rfl,rfl⟩;refine Zh rfl (λO=>?_) (λO=>?_)
 ·refine Qc<|Qb<|Qk ⟨[sS 2],Lb,?_,Z⟩;rw[<-G,OZ O];rfl
 rw[OY O]at G;refine Qf<|QX (α:=Bool) [(21,31)] (λz=>[(31,.bool z)]) (λz w'=>w'=w2/\z=yR (pv l k) l[k]) ol ?_ ?_
 ·refine Qr<|Qa<|xb (Ya Z Z) (λhf=>?_) (λhf=>?_)
  ·have hk1:((k:Int) - 1)=((k - 1:Nat):Int):=oa
   refine Qa<|Qa<|Qa<|Qa<|x (JH Z Z ⟨oa,oa⟩)<|xii (i:=k - 1) h Z (by show Value.int _ ((k:Int) - 1)=_;rw[hk1]) oa λhn hg=>x (Qq hg rfl)<|x (Jl rfl rfl)<|QB rfl<|xe<|⟨_,Lb,Z,?_⟩;have:pv l k=some l[k - 1]:=by
    have U:k≠0:=oa
    simp[pv,U,show k - 1<l.length by omega]
   rw[this];rfl
  refine Qa<|Zs<|Zs<|Kd<|QB Z<|xe ?_;have U:k=0:=oa
  exact⟨false,Lb,Z,by simp[pv,U,yR]⟩
 rintro z g w3 ⟨rfl,rfl⟩;refine Q5 rfl (λV=>?_) (λV=>?_)
 ·refine Qc<|Qb<|Qk ⟨[sS 5],Lb,?_,Z⟩;rw[<-G,OZ V];rfl
 rw[OY (by simp[V])]at G;refine Qf<|Qr<|QC Z Z<|Qa<|xe ?_;exact⟨k+1,oa,Lb,Z,oa,by rw[KS I];exact G⟩
theorem jC {v:O7}{l:LI}(h:Qu L ↑w v l):
  QT sV 196 [.agg #[va,sS a.st,vm,ve],v] w λr w'=>r=sS (Ki a.st none l)/\sW w w':=by
 refine Zn func196 ?_;refine Qc<|Zd [va,sS a.st,vm,ve] λJ O G U I=>Qb<|Ql<|Qs Z I Z Z<|Qw<|(Qbs (h.I G) a.st).S ?_;rintro r2 V ⟨rfl,rfl⟩;refine Qb<|Qk ⟨[sS (Ki a.st none l)],Lb,Z,G⟩
def flg (n:Nat)(l:LI):List Bool:=(oM n).map λi:Nat=>decide ((i:Int)∈l)
theorem U6 (n:Nat)(l:LI):(flg n l).length=n:=by simp[flg]
theorem Qb4 {l:LI}(h:i<(flg n l).length):(flg n l)[i]'h=decide ((i:Int)∈l):=by simp[flg]
theorem z6 {l:LI}{x:Int}(I:0<=x):(flg n l).set x.toNat true=flg n (l++[x]):=by
 apply L5
 ·simp[flg]
 intro i h2 G;rw[Nc,Qb4 G];by_cases e:x.toNat=i
 ·have:(i:Int)=x:=oa
  rw[OZ e,this];simp
 have:(i:Int)≠x:=oa
 rw[OY e,Qb4];simp[this]
theorem QdC {v:O7}{l:LI}(h:Qu L ↑w v l)(Y:a.st=(n:Int))(hu:a.st<=4096)(hl:∀s∈l,0<=s/\s<a.st):
  QT sV 197 [.agg #[va,sS a.st,vm,ve],v] w λr w'=>sW w w'/\∃b,r=sL b n n/\↑w<=b/\QN ↑w' b 4 ((flg n l).map Value.bool):=by
 have hv:=h.le;refine Zn func197 ?_;refine Qc<|Zd [va,sS a.st,vm,ve] λb2 w1 I hw hf=>Qb<|Qc<|Qs Z hf Z Z<|Qo<|Y5 (n:=n) (O0 sS Y) (O0 sS Y) oa λb10 w2 ha hg hh=>Qb ?_;have hj:QN ↑w2 b10 4 ((flg n (l.take 0)).map Value.bool):=by
  have e:(oI n (Value.bool false).cells.toList).flatten=(flg n (l.take 0)).map Value.bool:=by
   simp only[flg,List.take_zero,oJ,decide_false,List.map_map];apply L5
   ·simp[Value.cells]
   intro i h1 h2;simp[Value.cells]
  rw[<-e];exact hh
 refine Qd<|Ql<|QG (h.I (I.D ha)) Z<|Qa<|xe<|QY (α:=Nat) [(7,7),(13,20)] (λz=>[(13,sS z)]) (λz w'=>z<=l.length/\sW w1 w'/\QN ↑w' b10 4 ((flg n (l.take z)).map Value.bool)) (λz=>l.length - z) 0 Lb ⟨Lp _,ha,hj⟩ ?_;rintro k g w3 ⟨hk,O,U⟩;refine Zk rfl Z (λV=>?_) (λV=>?_)
 ·refine Qt ?_;have hm:l.length<=k:=by have J:¬(k:Int)<(l.length:Int):=V;omega
  rw[Ls hm]at U;refine Ql<|Qb ?_;have hy:=I.size;exact Qk ⟨[sL b10 n n],Lb,I.D O,b10,Z,oa,U⟩
 have G:k<l.length:=by have J:(k:Int)<(l.length:Int):=V;omega
 have hx:=hl _ (Lm G);have he:l.take (k+1)=l.take k++[l[k]'G]:=Ln G;refine Zg (l[k]'G) λs hs=>?_;rw[hs]at hx he;have ho:s=(s.toNat:Int):=oa
 refine Qf<|Qd<|Qn<|Qc<|xii (i:=k) ((h.I I).I O) Z Z G λhz J=>?_;rw[hs]at J;refine x (Qq J Z)<|Qb<|Qr<|Qa<|Qa<|x (QE (i:=s.toNat) Z (O0 sS ho) oa)<|Qo<|Qv (j:=0+s.toNat*1) (u:=.bool true) U Z Z (by rw[Lo,U6];omega) Z λw4 hp hq=>xe ?_;have hr:QN ↑w4 b10 4 ((flg n (l.take (k+1))).map Value.bool):=by
  rw[he,<-(z6 (n:=n) (l:=l.take k) hx.1),NI];simpa using hq
 refine Qr<|QC Z Z<|Qa<|xe ?_;exact⟨k+1,oa,Lb,G,O.O hp hg,hr⟩
def Rv (l:LI)(i:Nat)(li:LI):Prop:=∃h:li.length=l.length,∀k (G:k<l.length),li[k]'oa=if k<i\/l.length<=k+i then l[l.length - 1 - k]'oa else l[k]'G
theorem Rv.start (l:LI):Rv l 0 l:=⟨Z,λk G=>by rw[OY oa]⟩
theorem Rv.next {l:LI}(h:Rv l i li)(hi:i<l.length - 1 - i):Rv l (i+1) ((li.set i (l[l.length - 1 - i]'oa)).set (l.length - 1 - i) (l[i]'oa)):=by
 obtain⟨h1,h2⟩:=h;refine⟨by simp[h1],λk G=>?_⟩;rw[Nc,Nc];by_cases e1:l.length - 1 - i=k
 ·rw[OZ e1,OZ oa];congr 1;omega
 rw[OY e1];by_cases e2:i=k
 ·rw[OZ e2,OZ oa];subst e2;rfl
 rw[OY e2,h2 k G];by_cases e3:k<i\/l.length<=k+i
 ·rw[OZ e3,OZ oa]
 rw[OY e3,OY oa]
theorem Rv.fin {l:LI}(h:Rv l i li)(hi:l.length - 1 - i<=i)(I:2*i<=l.length):li=l.reverse:=by
 obtain⟨h1,h2⟩:=h;apply L5
 ·simp[h1]
 intro k J O;have G:k<l.length:=oa
 rw[h2 k G,List.getElem_reverse];by_cases e:k<i\/l.length<=k+i
 ·rw[OZ e]
 rw[OY e];congr 1;omega
theorem Rv.at_i {l:LI}(h:Rv l i li)(hi:i<l.length - 1 - i):∃(G:i<li.length) (I:l.length - 1 - i<li.length),li[i]'G=l[i]'oa/\li[l.length - 1 - i]'I=l[l.length - 1 - i]'oa:=by
 obtain⟨h1,h2⟩:=h;refine⟨oa,oa,?_,?_⟩
 ·rw[h2 i oa,OY oa]
 rw[h2 _ oa,OY oa]
theorem jN {v:O7}{l:LI}(h:Qh 3 base w v l)(hh:l.length<=1099511627776):
  QT sV 144 [v] w λ_ w'=>Qh 3 base w' v l.reverse/\xd (ob v) w w':=by
 refine Zn func144 ?_;refine Ql<|QG (QO (L:=[]) h hh oe) rfl<|x (JH rfl rfl ⟨oa,oa⟩)<|x Qe<|Qb<|QY (α:=Nat×LI) [(2,3),(7,27)] (λz=>[(2,sS z.1),(3,sS ((l.length:Int) - 1 - z.1))])
  (λz w'=>Rv l z.1 z.2/\2*z.1<=l.length/\xd (ob v) w w'/\Qh 3 base w' v z.2) (λz=>l.length - z.1) (0,l) ⟨Z,O0 sS oe,La⟩ ⟨Rv.start l,oe,xd.C _ _,h⟩ ?_
 rintro⟨i,li⟩ g O ⟨hR,hk,U,G⟩;refine Qd<|Ql<|Qa<|ZT Z Z<|xe<|Zp rfl (λh9=>?_) (λh9=>?_)
 ·refine Qt ?_;rw[hR.fin oa hk]at G;exact⟨[],La,G,U⟩
 have V:i<l.length - 1 - i:=oa
 have Y:(l.length:Int) - 1 - (i:Int)=((l.length - 1 - i:Nat):Int):=oa
 have hq:li.length=l.length:=hR.1;refine Exists.elim (hR.at_i V) λh0 I=>Exists.elim I λh3 I=>?_;refine Exists.elim (qH G oa) λgg hg=>Exists.elim hg λcap J=>?_;have ha:Qu [] ↑O v li:=QO G oa oe;refine Qf<|Qd<|Qn<|ZK [] (Xj 0 16 [13,15])<|p Qx<|p Qx<|p Qx<|p Qx<|p Qx<|p Qx<|pii (i:=l.length - 1 - i) Z ha Z (O0 sS Y) h3 λhs he=>?_;rw[I.2]at he;refine pq (λ_ hc=>Qq (he.I hc) Z)<|p Qx<|p Qx<|pii (i:=i) Z ha Z Z h0 λhu hf=>?_;rw[I.1]at hf;refine pq (λ_ hc=>Qq (hf.I hc) Z)<|p (λ_=>QE (i:=i) (show ev _ _=_ from J) Z oa) <|
  pkk<|QaD (Qm G (xd.Y [] O)) J Z Z h0 λw2 hm hn=>p (λ_=>QE (i:=l.length - 1 - i) (show ev _ _=_ from J) (O0 sS Y) oa) <|
  pkk<|QaD hn (by rw[M2];exact J) Z Z (by rw[M2];exact h3) λw3 ho hp=>pe ?_
 refine Qr<|Qa<|QC Z Z<|Qa<|x (JH Z Z ⟨oa,oa⟩)<|x Qe<|Qb<|⟨(i+1,_),og,⟨Z,O0 sS oa,La⟩,(hR.next V),og,((U.D (xd.Y [] O)).Q hm).Q ho,hp⟩
open Go.RowKit
def upY (P:O9)(m:Nat)(dst:xJ)(f:Fr)(K:xE):Result Next->Prop
 | .ok (.value v) w'=>K (QP f dst v) w'
 | .ok .skip w'=>K (QP f dst undef) w'
 | .ok (.enter g args) w'=>Calls P g args w' λe G=>match e with| .returned v=>K (QP f dst v) G|_=>False
 | .ok (.round l fn tmps assign body) w'=>RoundIn (fen none) (m - 1) P l fn tmps assign body w' λe G=>match e with| .returned v=>K (QP f dst v) G|_=>False
 | _=>False
def XOY (P:O9)(m:Nat)(o:Oper)(f:Fr)(w:O6)(K:xE):Prop:=upY P m o.dst f K ((execOp (ev f) o).run P w)
def JD (P:O9)(m:Nat)(ops:xI)(K:xE):xI->Fr->O6->Prop
 | [],f,w=>K f w
 | o::l,f,w=>bif Yb ops f o then XOY P m o f w (JD P m ops K l) else JD P m ops K l (QP f o.dst undef) w
theorem XOY.of_XO {o:Oper}{K':xE}(hK:∀f w,K f w->K' f w)(h:XO P o f w K):XOY P m o f w K':=by
 unfold XO at h;unfold XOY;generalize (execOp (ev f) o).run P w=r at h;cases r with
 | ok nx w' =>
  cases nx <;> simp only[upF]at h <;> simp only[upY]
  case value v=>exact hK _ _ h
  case skip=>exact hK _ _ h
  case enter g args =>
   refine Calls.mono h λe I G=>?_;cases e with
   | returned v=>exact hK _ _ G
   | panicked c=>exact G.elim
   | outgrown=>exact G.elim
 | halt x w'=>exact h.elim
theorem JD.pre {ops:xI}{K:xE}{l2:xI}:∀(G:xI) (f:Fr) (w:O6),XL P ops (λf w=>JD P m ops K l2 f w) G f w->JD P m ops K (G++l2) f w
 | [],f,w,h=>by unfold XL at h;exact h
 | o::G,f,w,h=>by
  unfold XL at h;show(bif Yb ops f o then XOY P m o f w (JD P m ops K (G++l2)) else JD P m ops K (G++l2) (QP f o.dst undef) w);cases I:Yb ops f o with
  | false=>rw[I]at h;exact JD.pre G _ _ h
  | true=>rw[I]at h;exact XOY.of_XO (λf w h=>JD.pre G f w h) h
theorem JD.pre2 {o1 o2:Oper}{l2:xI}(h:XL P ops (λf w=>JD P m ops K l2 f w) [o1,o2] f w):JD P m ops K (o1::o2::l2) f w:=JD.pre [o1,o2] f w h
theorem JD.of_XL {l:xI}(h:XL P ops K l f w):JD P m ops K l f w:=by
 have:=JD.pre (m:=m) (l2:=[]) l f w h
 rwa [LK]at this
theorem Qmr {o:Oper}{a:Act}{K':Act->O6->Prop}{Q:Exit->Act->O6->Prop}(h:Xi n ds a f)
  (hK:∀v w',K (QP f o.dst v) w'->K' (a.put o.dst v) w') (hx:XOY P m o f w K):o.wpIn (fen none) m P a w K' Q:=by
 unfold XOY at hx;refine⟨λ_ _=>trivial,?_⟩;have e:Oper.semAt (fen none).round a.eval o=execOp (ev f) o:=by rw[h.eval];rfl
 rw[e];generalize (execOp (ev f) o).run P w=r at hx;cases r with
 | ok nx w' =>
  cases nx <;> simp only[upY]at hx <;> simp only[Oper.uponIn]
  case value v=>exact hK v w' hx
  case skip=>exact hK _ w' hx
  case enter g args =>
   refine⟨λh=>by simp[Fence.wide]at h,?_⟩;refine(callsIn_wide (n:=m - 1)).2 (Calls.mono hx λe I G=>?_);cases e with
   | returned v=>exact hK v I G
   | panicked c=>exact G.elim
   | outgrown=>exact G.elim
  case round l fn tmps assign body =>
   refine⟨λh=>by simp[Fence.wide]at h,?_⟩;refine RoundIn.mono hx λe I G=>?_;cases e with
   | returned v=>exact hK v I G
   | panicked c=>exact G.elim
   | outgrown=>exact G.elim
 | halt x w'=>exact hx.elim
theorem Qeg {Q:Exit->LN->Fr->O6->Prop}{all:xI}(I:∀o∈all,∀d,o.dst=some d->d<n)(f0:Fr):
  ∀(l:xI) (k:Nat) (a:Act) (f:Fr) (w:O6),(∀j,l[j]?=all[k+j]?)->Xi n ds a f->(∀t,Yq all t=false->f t=f0 t) ->
   JD P m all (λf w=>Q .normal ds f w) l f w ->
   wpOpsIn (fen none) m P all.toArray (λe Y w'=>∃ds' f',Xi n ds' Y f'/\(∀t,Yq all t=false->f' t=f0 t)/\Q e ds' f' w') (oP k l.length) a w
 | [],_,a,f,w,_,G,J,h=>⟨ds,f,G,J,by unfold JD at h;exact h⟩
 | o::l,k,a,f,w,hl,G,J,h=>by
  have U:all[k]?=some o:=by simpa using(hl 0).symm
  have O:o∈all:=Me U;have ih:=λa f w=>Qeg (Q:=Q) I f0 l (k+1) a f w (λj=>by have:=hl (j+1);simpa[Nat.add_assoc,Nat.add_comm 1 j]using this);have next:∀v,(∀t,Yq all t=false->QP f o.dst v t=f0 t):=λv t ht=>(Xe (JE O ht) v).D (J t ht);simp only[oS,OE,wpOpsIn,oT,U];rw[V9 G I o];unfold JD at h;cases V:Yb all f o with
  | false =>
   rw[V]at h;exact⟨λ_ _=>trivial,ih _ _ _ (G.put (I o O) _) (next _) h⟩
  | true =>
   rw[V]at h;exact Qmr G (λv w' hx=>ih _ _ _ (G.put (I o O) v) (next v) hx) h
theorem KM {Q:Exit->LN->Fr->O6->Prop}{l:xI}(G:XG n l=true)(h:JD P m l (λf w=>Q .normal ds f w) l f w):WG none m P n (.region id l.toArray false) Q ds f w:=by
 unfold WG;intro a I;refine wpIn_region ?_;have:=Qeg (m:=m) (XY G) f l 0 a f w oe I (λ_ _=>rfl) h;simpa[List.range_eq_range',Jp]using this
theorem xy {rest:xI}{x:O8}{l:Nat}{R:Ending->O6->Prop}
  (hx:ev f x=.func (.yield l) #[] #[]) (G:YieldAt (fen none) (m - 1) P l #[ev f y] w R) (hK:∀e w',R e w'->∃v,e=.returned v/\JD P m ops K rest (QP f d v) w')
  (I:Yb ops f ⟨d,.call ⟨.value x,#[y],at_⟩,ty,pS,af,gd⟩=true:=by rfl):
  JD P m ops K (⟨d,.call ⟨.value x,#[y],at_⟩,ty,pS,af,gd⟩::rest) f w:=by
 obtain⟨fn,tmps,assign,body,h1,h2⟩:=G;have J:(execOp (ev f) ⟨d,.call ⟨.value x,#[y],at_⟩,ty,pS,af,gd⟩).run P w=.ok (.round l fn tmps assign body) w:=by
  simp[execOp,resolve,hx,Deferred.ofValue,invoke,h1]
 unfold JD;rw[I];simp only[XOY,J,upY,cond_true];exact h2.mono λe w' h=>by obtain⟨v,rfl,O⟩:=hK e w' h;exact O
attribute [irreducible] JD
structure Lw (B:Nat)(L:LN)(w w':O6):Prop where
 os:w'.os=w.os
 tape:w'.tape=w.tape
 output:w'.output=w.output
 size:w.heap.size<=↑w'
 low:∀k,k<B->k∉L->w'.heap[k]?=w.heap[k]?
theorem Lw.refl (B:Nat)(L:LN)(w:O6):Lw B L w w:=⟨Z,Z,Z,Lr _,λ_ _ _=>Z⟩
theorem Lw.D {B:Nat}{L:LN}{G w w':O6}(h:Lw B L G w)(k:Lw B L w w'):Lw B L G w' :=
 ⟨k.os.D h.os,k.tape.D h.tape,k.output.D h.output,LA h.size k.size,λi hi I=>(k.low i hi I).D (h.low i hi I)⟩
theorem xd.lw {G:O6}(h:xd L w w')(k:Lw ↑w L w' G):xd L w G :=
 ⟨k.os.D h.os,k.tape.D h.tape,k.output.D h.output,LA h.size k.size,λi hi I=>(k.low i hi I).D (h.block i hi I)⟩
structure X9 (B:Nat)(L:LN)(W W':O6):Prop where
 lw:Lw B L W W'
 other:∀(k:Nat) (o:Obj),W.heap[k]?=some o->o.isCells=false->W'.heap[k]?=some o
theorem X9.refl (B:Nat)(L:LN)(w:O6):X9 B L w w:=⟨Lw.refl _ _ _,λ_ _ h _=>h⟩
theorem X9.D {B:Nat}{L:LN}{G w w':O6}(h:X9 B L G w)(k:X9 B L w w'):X9 B L G w':=⟨h.lw.D k.lw,λi o hi I=>k.other i o (h.other i o hi I) I⟩
theorem X9.J {W:O6}(h:xd X W W')(O:B<=↑W)(hX:∀b∈X,(b∈L\/B<=b)/\∃o:Obj,W.heap[b]?=some o/\o.isCells=true):X9 B L W W':=by
 refine⟨⟨h.os,h.tape,h.output,h.size,λk G I=>h.block k oa (λhx=>?_)⟩,λk o G J=>?_⟩
 ·rcases(hX k hx).1 with h1|h1
  ·exact I h1
  omega
 refine(h.block k (LM.1 G).1 (λhx=>?_)).D G;obtain⟨U,h1,h2⟩:=(hX k hx).2;rw[G]at h1;cases h1;rw[J]at h2;cases h2
theorem X9.I {W:O6}(h:sW W W')(G:B<=↑W):X9 B L W W':=X9.J h G (λ_ hb=>by cases hb)
theorem QN.cells {H:xG}{b:Nat}(h:QN H b T cs):∃o:Obj,H[b]?=some o/\o.isCells=true:=⟨_,h,Z⟩
theorem X9.blk {W:O6}{b:Nat}(h:xd [b] W W')(G:B<=↑W)(hb:QN ↑W b T cs)(I:b∈L\/B<=b):X9 B L W W' :=
 X9.J h G (λc hc=>by
  have e:c=b:=by simpa using hc
  subst e;exact⟨I,hb.cells⟩)
def Yf (B:Nat)(I:xF):Prop:=∀W W' X,I W->xd X W W'->(∀r∈X,B<=r/\∃o:Obj,W.heap[r]?=some o/\o.isCells=false)->I W'
theorem Yf.own {I:β->O6->Prop}(h:∀s,Yf B (I s)):OwnFrom B I:=λs W W' row J O U =>
 h s W W' _ J (xd.of_grown O) (λr G=>U r (by cases row <;> simp at G ⊢;exact G.symm))
theorem Yf.blk {b:Nat}:Yf B (λW=>QN ↑W b T cs):=λW W' X h G hX=>h.J G (λhb=>by
 obtain⟨_,o,h1,h2⟩:=hX b hb;unfold QN at h;rw[h]at h1;cases h1;cases h2)
theorem Yf.and {I J:xF}(h:Yf B I)(k:Yf B J):Yf B (λW=>I W/\J W):=λW W' X hi G hX=>⟨h W W' X hi.1 G hX,k W W' X hi.2 G hX⟩
theorem Yf.ex {I:β->O6->Prop}(h:∀z,Yf B (I z)):Yf B (λW=>∃z,I z W):=λW W' X ⟨z,hi⟩ G hX=>⟨z,h z W W' X hi G hX⟩
theorem Yf.pure (p:Prop):Yf B (λ_=>p):=λ_ _ _ h _ _=>h
theorem Yf.J (I:↑w<=B):Yf B (λW=>xd L w W):=λW W' X h G hX=>h.Z G (λb hb=>.inr (oq (hX b hb).1))
theorem Q8 {e:Nat}{v:O7}(h:w.ownsRow base e sz v n cs):∀b∈ob v,∃o:Obj,w.heap[b]?=some o/\o.isCells=true:=by
 intro b hb;rcases h.2 with⟨h1,_⟩|⟨g,cap,cur,h1,h2,G,_⟩
 ·subst h1;simp[ob]at hb
 subst h1;simp[ob]at hb;subst hb;exact⟨_,G,Z⟩
theorem Yf.row {e:Nat}{v:O7}:Yf B (λW=>W.ownsRow base e sz v n cs):=λW W' X h J hX=>Qg h J (λb hb hx=>by
 obtain⟨_,o,h1,h2⟩:=hX b hx;obtain⟨O,G,I⟩:=Q8 h b hb;rw[h1]at G;cases G;rw[h2]at I;cases I)
theorem QhF {Q:Exit->LN->Fr->O6->Prop}{g:O8}{p:Nat}{assign body:Code}(L:LN)(h1:1<=m)
  {gf:Nat}  [hF:Fu P gf fn]  (hg:ev f g=.func (.func gf) #[] capt.toArray) {enc:α->O7} {S:List α->Prop}  (hp:p<n)
  (hh:SeqStopsK (fen none) (m - 1) P gf capt.toArray (λx=>#[enc x]) (Lw ↑w L) S (λ_=>True) N w)
  (I:List α->O6->Prop) (hI:∀s,Yf ↑w (I s)) (h0:I [] w) (A:Fr->α->Fr->O6->Prop) (hA:∀x G,Yf ↑w (A f x G))
  (he:∀l pre x W,I pre W->WG (some l) (m - 1 - 1) P n assign (QeF (λY G W'=>Y=[]/\X9 ↑w L W W'/\I pre W'/\A f x G W') (λ_ _ _ _=>False)) [] (upd f p (enc x)) W)
  (hf:∀l pre x G W,I pre W->A f x G W->pre.length<N->WG (some l) (m - 1 - 1) P n body (QeF (λ_ _ W'=>X9 ↑w L W W'/\I (pre++[x]) W') (λ_ _ _ _=>False)) [] G W)
  (hj:∀D xs W,↑w<=D->S xs->I xs W->W.heap[D]?=some (.deferred (some []))->Q .normal (D::ds) f W):
  WG none m P n (.rangeFunc g #[p] assign body) Q ds f w:=by
 unfold WG at he hf ⊢;intro a U;have eg:∀args w,(callFunc gf args).run P w=.ok (.enter gf args) w:=by
  intro args w;have h1:¬fn.name = "runtime.NumGoroutine" := by simpa using hF.nm
  have h2:¬fn.body=none:=by have:=hF.b;intro e;rw[e]at this;cases this
  simp[callFunc,hF.f,h1,h2]
 have keep:∀{W W':O6},X9 ↑w L W W'->KeepsFrom ↑w W W':=λh=>⟨h.lw.size,λk o _ hk ho=>h.other k o hk ho⟩;refine wpIn_rangeFunc_ownH (F:=fen none) Z h1 (gf:=gf) (lb:=capt.toArray) (by rw[U.eval];exact hg) La eg hh (λh k=>h.D k)
  (λW l o o' hl ho _ _=>⟨Z,Z,Z,oe,λk hk _=>World.putObj_heap_other oa⟩) (Below.refl _ _) (λ_=>rfl) I (λ_ _ _=>False) (Yf.own hI) (λ_ _ _ _ _ hs _ _=>hs) h0
  (λx V W=>∃G,Xi n [] V G/\A f x G W) (λx V=>Yf.own λ_=>Yf.ex λG=>Yf.and (Yf.pure _) (hA x G)) ?_ ?_ ?_ ?_
 ·intro l pre x W K hi hK;have hr:Xi n [] { tmps:=((#[p]:Array Nat).zip #[enc x]).foldl (λt (p,v)=>t.setIfInBounds p v) a.tmps,defers:=[] } (upd f p (enc x)):=by
   have h2:Xi n [] { a with defers:=[] } f:=⟨U.size,Z,U.get⟩
   have J:=h2.put (dst:=some p) (λd e=>by cases e;exact hp) (enc x);have e:((#[p]:Array Nat).zip #[enc x]).foldl (λt (p,v)=>t.setIfInBounds p v) a.tmps=a.tmps.setIfInBounds p (enc x):=oe
   rw[e];exact J
  refine wpIn_mono (he l pre x W hi _ hr) ?_;rintro e V W' ⟨Y,G,h2,_,J⟩;cases e with
  | normal=>obtain⟨rfl,h4,O,h6⟩:=J;exact hK V W' (keep h4) h4.lw O ⟨G,h2,h6⟩
  | exit id=>exact J.elim
  | goto l=>exact J.elim
  | ret=>exact J.elim
  | panic ch=>exact J.elim
  | outgrown=>exact J.elim
 ·rintro l pre x V W _ _ hi ⟨G,h2,J⟩ hm;refine wpIn_mono (hf l pre x G W hi J hm V h2) ?_;rintro e hn W' ⟨Y,hq,h4,_,O⟩;cases e with
  | normal=>exact⟨keep O.1,O.1.lw,O.2⟩
  | exit id=>exact O.elim
  | goto l=>exact O.elim
  | ret=>exact O.elim
  | panic ch=>exact O.elim
  | outgrown=>exact O.elim
 ·intro D xs W hD hS hi hd;exact⟨D::ds,f,⟨U.size,by rw[show coll (D::ds)={ target:=.collected D,args:=#[] }::coll ds from rfl,U.defers],U.get⟩,λ_ _=>rfl,hj D xs W hD hS hi hd⟩
 intro D c pre W _ _ h _;exact h.elim
def Qre (P:O9)(t:Nat):Option (LV×xC):=match P.info? t,P.underlying t with
 | some it,some (.struct fs)=>match it.zero,fs.toList.mapM (λf=>(P.info? f.type).map λi=>(f.offset,i.size)) with
  | some (.agg zs),some pl=>some (zs.toList,pl)
  | _,_=>none
 | _,_=>none
class Bw (P:O9)(t:Nat)(zs:outParam (LV))(pl:outParam xC):Prop where
 h:Qre P t=some (zs,pl):=by first|kernel_rfl|decide|rfl|exact sX (by kernel_rfl)
 b:pl.all (λx=>x.1+x.2<=zs.length)=true:=by first|kernel_rfl|decide|rfl|exact sX (by kernel_rfl)
def QcY:LV->Nat->LV->LV
 | zs,_,[]=>zs
 | zs,o,u::us=>QcY (zs.set o u) (o+1) us
def Qmk (pl:xC)(zs:LV):List (Nat×LV)->LV
 | []=>zs
 | (j,us)::ps=>Qmk pl (QcY zs (pl.getD j (0,0)).1 us) ps
def Qpi:List (Nat×O7)->List (Nat×LV)->Prop
 | [],[]=>True
 | (j,v)::vs,(j',us)::uss=>v.cells=us.toArray/\j=j'/\Qpi vs uss
 | _,_=>False
theorem QcX:∀(us zs:LV) (o:Nat),(QcY zs o us).length=zs.length
 | [],_,_=>rfl
 | u::us,zs,o=>by rw[QcY,QcX us,M2]
theorem Qat (o:Nat):∀(us:LV) (k:Nat) (zs:LV),(us.zipIdx k).foldl (λ(cs:Array O7) (x:O7×Nat)=>cs.setIfInBounds (o+x.2) x.1) zs.toArray=(QcY zs (o+k) us).toArray
 | [],_,_=>rfl
 | u::us,k,zs=>by
  rw[NO,LP,QcY];have:=Qat o us (k+1) (zs.set (o+k) u);rw[<-List.setIfInBounds_toArray]at this;exact this
theorem Qlj {pl:xC}:∀(vs:List (Nat×O7)) (uss:List (Nat×LV)) (zs:LV),Qpi vs uss->uss.all (λp=>p.1<pl.length && (p.2.length == (pl.getD p.1 (0,0)).2))=true ->
  (∀x∈pl,x.1+x.2<=zs.length)->Instr.fill (pl.toArray[·]?) zs.toArray vs=some (Qmk pl zs uss).toArray
 | [],[],zs,_,_,_=>rfl
 | [],_::_,_,h,_,_=>h.elim
 | _::_,[],_,h,_,_=>h.elim
 | (j,v)::vs,(j',us)::uss,zs,h1,h2,I=>by
  obtain⟨hc,rfl,h1⟩:=h1;simp only[Oh,oK,decide_eq_true_eq,beq_iff_eq]at h2;obtain⟨⟨G,hl⟩,h2⟩:=h2;have J:pl.getD j (0,0)=pl[j]'G:=by simp[oQ,G]
  have O:=I _ (Lm G);unfold Instr.fill;simp only[oT,oX G,hc];rw[J]at hl;rw[OY (by simp only[Ok,hl,ne_eq,not_true,decide_false,Bool.false_or,decide_eq_true_eq];omega)];have e:=Qat (pl[j]'G).1 us 0 zs;rw[M8]at e;have e2:(us.toArray.zipIdx).foldl (λ(cs:Array O7) (x:O7×Nat)=>cs.setIfInBounds ((pl[j]'G).1+x.2) x.1) zs.toArray=(QcY zs (pl[j]'G).1 us).toArray:=by
   rw[<-e];simp
  rw[e2,Qmk,J];simpa only[oT]using(Qlj vs uss (QcY zs (pl[j]'G).1 us) h1 h2 (λx hx=>by rw[QcX];exact I x hx))
theorem QfB {zs:LV}{pl:xC}(h:Qre P t=some (zs,pl))(hb:pl.all (λx=>x.1+x.2<=zs.length)=true)(vs:List (Nat×O7))(uss:List (Nat×LV))(h1:Qpi vs uss)
  (h2:uss.all (λp=>p.1<pl.length && (p.2.length == (pl.getD p.1 (0,0)).2))=true):P.built t vs=some (Qmk pl zs uss).toArray:=by
 have O:∀x∈pl,x.1+x.2<=zs.length:=λo U=>ox (Mo.1 hb o U)
 unfold Qre at h;unfold Program.built;cases hi:P.info? t with
 | none=>simp[hi]at h
 | some it =>
  cases J:P.underlying t with
  | none=>simp[hi,J]at h
  | some dd =>
   simp only[hi,J]at h;cases dd <;> simp only[]at h <;> try (cases h)
   case struct fs =>
    cases G:it.zero with
    | none=>simp[G]at h
    | some z =>
     cases z <;> simp only[G]at h <;> try (cases h)
     rename_i za;cases I:fs.toList.mapM (λf=>(P.info? f.type).map λi=>(f.offset,i.size)) with
     | none=>simp[I]at h
     | some pl' =>
      simp only[I,Option.some.injEq,Prod.mk.injEq]at h;obtain⟨rfl,rfl⟩:=h;simp only[G,I,Value.cells];exact Qlj vs uss za.toList h1 h2 O
theorem ZE {zs:LV}{pl:xC}[h:Bw P t zs pl]{parts:List (Nat×O8)}(uss:List (Nat×LV))
  (h1:Qpi (parts.map λx=>(x.1,ev f x.2)) uss) (h2:uss.all (λp=>p.1<pl.length && (p.2.length == (pl.getD p.1 (0,0)).2))=true:=by rfl):
  (execOp (ev f) ⟨d,.build t parts.toArray,ty,pS,af,gd⟩).run P w=.ok (.value (sT (Qmk pl zs uss))) w:=by
 simp only[execOp,Sem.run_bind,(run_build (P:=P) w t (parts.toArray.map λ(i,x)=>(i,ev f x)) _ (by simpa using(QfB h.h h.b _ uss h1 h2))),Result.andThen_ok,Sem.run_pure]
def cnE (p:Ed->Bool)(es:List Ed):Int:=((es.filter p).length:Int)
theorem QdX (p:Ed->Bool)(es:List Ed)(e:Ed):cnE p (es++[e])=cnE p es+if p e=true then 1 else 0:=by
 unfold cnE;rw[LW,Le];by_cases h:p e=true
 ·simp[h]
 simp[h]
theorem Ul (p:Ed->Bool)(es:List Ed):0<=cnE p es/\cnE p es<=es.length:=by
 unfold cnE;have:=LO p es;omega
def gA (n:Nat)(f:Nat->Int):LI:=(oM n).map f
theorem QqS (n:Nat)(f:Nat->Int):(gA n f).length=n:=by simp[gA]
theorem Qld {f:Nat->Int}(h:i<(gA n f).length):(gA n f)[i]'h=f i:=by simp[gA]
theorem Qfk {f g:Nat->Int}{u:Int}(G:u=g i)(h:∀j,j<n->j≠i->g j=f j):(gA n f).set i u=gA n g:=by
 apply L5
 ·simp[gA]
 intro k h1 h2;rw[Nc,Qld h2];by_cases e:i=k
 ·rw[OZ e,G,e]
 rw[OY e,Qld];exact(h k (by simpa[gA]using h2) (Ne.symm e)).symm
theorem QdA {f g:Nat->Int}(h:∀j,j<n->f j=g j):gA n f=gA n g:=List.map_congr_left (λj G=>h j (ME.1 G))
def cN (es:List Ed)(s:Nat):Int:=cnE (λe=>decide (e.1+1=(s:Int))) es
def fS (es:List Ed)(s:Nat):Int:=cnE (λe=>decide (e.1<(s:Int))) es
theorem Qg4 (es:List Ed)(s:Nat):fS es (s+1)=cN es (s+1)+fS es s:=by
 unfold fS cN cnE;induction es with
 | nil=>rfl
 | cons e es ih =>
  simp only[OF];by_cases h1:e.1<(s:Int)
  ·have h2:e.1<((s+1:Nat):Int):=oa
   have G:¬e.1+1=((s+1:Nat):Int):=oa
   simp only[h1,h2,G,decide_true,decide_false,if_true,oS]at ih ⊢;simp only[Ov,if_false]at ih ⊢;omega
  by_cases h2:e.1+1=((s+1:Nat):Int)
  ·have G:e.1<((s+1:Nat):Int):=oa
   simp only[h1,h2,G,decide_true,decide_false,if_true,oS]at ih ⊢;simp only[Ov,if_false]at ih ⊢;omega
  have G:¬e.1<((s+1:Nat):Int):=oa
  simp only[h1,h2,G,decide_false,Ov,if_false]at ih ⊢;exact ih
theorem Qg3 (h:∀e∈es,0<=e.1):fS es 0=0/\cN es 0=0:=by
 unfold fS cN cnE;refine⟨?_,?_⟩
 ·have:(es.filter λe=>decide (e.1<((0:Nat):Int)))=[]:=MU.2 (λe G=>by have:=h e G;simp;omega);rw[this];rfl
 have:(es.filter λe=>decide (e.1+1=((0:Nat):Int)))=[]:=MU.2 (λe G=>by have:=h e G;simp;omega);rw[this];rfl
def mX (es:List Ed)(s j:Nat):Int:=if j<=s then fS es j else cN es j
theorem QnW (h:∀e∈es,0<=e.1)(n:Nat):gA n (cN es)=gA n (mX es 0):=QdA λj _=>by
 unfold mX;by_cases e:j<=0
 ·have:j=0:=oa
  subst this;rw[OZ (Lr _),(Qg3 h).1,(Qg3 h).2]
 rw[OY e]
theorem QnX (es:List Ed)(s n:Nat):(gA n (mX es s)).set (s+1) (mX es s (s+1)+mX es s s)=gA n (mX es (s+1)):=by
 refine Qfk ?_ λj _ G=>?_
 ·unfold mX;rw[OY oa,OZ (Lr _),OZ (Lr _),Qg4]
 unfold mX;by_cases e:j<=s
 ·rw[OZ oa,OZ e]
 rw[OY oa,OY e]
theorem QoY (es:List Ed)(e:Ed)(G:0<=e.1)(n:Nat):(gA n (cN es)).set (e.1.toNat+1) (cN es (e.1.toNat+1)+1)=gA n (cN (es++[e])):=by
 refine Qfk ?_ λj _ I=>?_
 ·unfold cN;rw[QdX,OZ (by simp;omega)]
 unfold cN;rw[QdX,OY (by simp;omega)];simp
theorem QaK (n:Nat):(oI n (sS 0).cells.toList).flatten=(gA n (cN [])).map (Value.int .i64):=by
 apply L5
 ·simp[Value.cells,gA]
 intro i h1 h2;simp[Value.cells,gA,cN,cnE]
theorem UI [X2 P t]{x:O8}{b:Nat}{g:Nat->Int}(h:QN ↑w b T ((gA n g).map (.int .i64)))(hx:ev f x=.pointer (some ⟨b,0+i*1,none⟩))(hi:i<n):
  (execOp (ev f) ⟨d,.load t x,ty,pS,af,gd⟩).run P w=.ok (.value (sS (g i))) w:=Qj h hx (by simp[gA,hi])
theorem yH [h1:X2 P t]{x:O8}{b:Nat}{g G:Nat->Int}{u:Int}(I:QN ↑w b T ((gA n g).map (.int .i64)))(hx:ev f x=.pointer (some ⟨b,0+i*1,none⟩))(J:ev f y=sS u)(hi:i<n)(O:(gA n g).set i u=gA n G)
  (hK:∀w',xd [b] w w'->QN ↑w' b T ((gA n G).map (.int .i64))->K (QP f d undef) w'):XO P ⟨d,.store t x y,ty,pS,af,gd⟩ f w K :=
 Kt I hx J (by rw[QqS];exact hi) λw' U V=>hK w' U (by rw[<-O];exact V)
instance:Bw sV 304 [nS,sS 0,nS,nS,nS] [(0,4),(4,1)]:={}
theorem Qdl (h:Zv [] ↑w va vm ve a)(hn:a.st=(n:Int))(hW:a.st<=4096)(h8:∀e∈a.ed,0<=e.1/\e.1<a.st):
  QT sV 198 [.agg #[va,sS a.st,vm,ve]] w λr w'=>sW w w'/\∃b,r=.agg #[va,sS a.st,vm,ve,sL b (n+1) (n+1)]/\↑w<=b/\QN ↑w' b 3 ((gA (n+1) (fS a.ed)).map (Value.int .i64)):=by
 have hX:=h.ed.le;refine Zn func198 ?_;refine Qc<|Zd [va,sS a.st,vm,ve] λb1 w1 hy hH hI=>QV [nS,sS 0,nS,nS,nS] λb2 G hz hY h9=>xe ?_;have hf:=hI.I hz;have hq:a.st+1=((n+1:Nat):Int):=oa
 have h0:sW G { G with drawn:=G.drawn+1 }:=xd.Y [] G
 have hZ:=h0.size;refine QX (α:=Nat×Nat) [(3,3),(7,12)] (λz=>[(3,.pointer (some ⟨z.1,0,none⟩))]) (λz w'=>sW G w'/\QN ↑w' z.1 304 [va,sS a.st,vm,ve,.slice (some ⟨z.2,0,none⟩) (n+1) (n+1)]/\QN ↑w' z.2 3 ((gA (n+1) (cN [])).map (Value.int .i64))/\↑G<=z.1/\↑G<=z.2/\z.1≠z.2) ol ?_ ?_
 ·refine Qhz (sW G) (.f2 [oB 0,oB 1,oB 2,oB 3] 4 6 (.pl [oB 5,oC 6,oC 7]) (.pl [oC 4,oB 5,oC 7])) mixed ol od (xd.Y _ _) ?_;refine u2<|pq (λ_ hc=>Zj (hf.I hc) Z Z)<|p (QH Z)<|pq (λ_ hc=>Qj (hf.I hc) Z Z)<|p (λ_=>Xy Z Z ⟨oa,oa⟩)<|pe ⟨?_,?_⟩
  ·refine ue<|Y5 (n:=n+1) (O0 sS hq) (O0 sS hq) oa λb11 w3 h3 hJ hr=>?_;have hg:=h0.D h3;have ga:=hr.lt;refine⟨hg,?_⟩;refine uP<|p (λ_=>ZE [(0,[va,sS a.st,vm,ve]),(1,[sL b11 (n+1) (n+1)])] ⟨Z,Z,Z,Z,La⟩)<|pk<|Y0 (us:=[nS,sS 0,nS,nS,nS]) Z λU w4 hh hA V=>?_;have I:=hg.D hh;refine⟨I,?_⟩;refine pk<|qI [va,sS a.st,vm,ve,sL b11 (n+1) (n+1)] V ⟨h.al.one,Z,h.mr.one,h.ed.one,Z,La⟩ λw5 J hm=>⟨I.O J oa,pe ?_⟩;have h4:QN ↑w3 b11 3 ((gA (n+1) (cN [])).map (Value.int .i64)):=by rw[<-QaK];exact hr
   exact⟨(U,b11),Lb,I.O J oa,hm,(h4.I hh).J J (by simp;omega),og,og,og⟩
  refine ue<|Y0 (us:=[nS,sS 0,nS,nS,nS]) Z λU w3 h3 hA V=>?_;have hg:=h0.D h3;have gb:=V.lt;refine⟨hg,?_⟩;refine uP<|pk<|Y5 (n:=n+1) (O0 sS hq) (O0 sS hq) oa λb11 w4 hh hJ hr=>?_;have I:=hg.D hh;refine⟨I,?_⟩;refine p (λ_=>ZE [(0,[va,sS a.st,vm,ve]),(1,[sL b11 (n+1) (n+1)])] ⟨Z,Z,Z,Z,La⟩)<|pk<|qI [va,sS a.st,vm,ve,sL b11 (n+1) (n+1)] (V.I hh) ⟨h.al.one,Z,h.mr.one,h.ed.one,Z,La⟩ λw5 J hm=>⟨I.O J oa,pe ?_⟩;have h4:QN ↑w4 b11 3 ((gA (n+1) (cN [])).map (Value.int .i64)):=by rw[<-QaK];exact hr
  exact⟨(U,b11),Lb,I.O J oa,hm,h4.J J (by simp;omega),og,og,og⟩
 rintro⟨U,bF⟩ g6 w6 ⟨hB,V,hK,hA,hC,gc⟩;have ge:=hf.lt;have gg:=h9.lt;refine Qd<|Qc<|Qs Z (hf.I hB) Z Z<|QG h.ed Z<|Qa<|xe ?_;have hL:∀e∈a.ed,0<=e.1:=λe he=>(h8 e he).1;refine QY (α:=Nat) [(5,5),(16,29)] (λz=>[(16,sS z)]) (λz w'=>z<=a.ed.length/\sW G w'/\QN ↑w' U 304 [va,sS a.st,vm,ve,sL bF (n+1) (n+1)]/\QN ↑w' bF 3 ((gA (n+1) (cN (a.ed.take z))).map (Value.int .i64))) (λz=>a.ed.length - z) 0 Lb
  ⟨Lp _,hB,V,hK⟩ ?_
 rintro k g w7 ⟨hk,hs,h5,hu⟩;refine Zk rfl Z (λh6=>?_) (λh6=>?_)
 ·refine Qt ?_;have hM:a.ed.length<=k:=by have hv:¬(k:Int)<(a.ed.length:Int):=h6;omega
  rw[Ls hM,QnW hL (n+1)]at hu;refine Qd<|Qc<|Qs Z (hf.I hs) Z Z<|Qa<|xe<|QY (α:=Nat) [(6,6),(32,48)] (λz=>[(32,sS z)]) (λz w'=>z<=n/\sW G w'/\QN ↑w' U 304 [va,sS a.st,vm,ve,sL bF (n+1) (n+1)]/\QN ↑w' bF 3 ((gA (n+1) (mX a.ed z)).map (Value.int .i64))) (λz=>n - z) 0 Lb
   ⟨Lp _,hs,h5,hu⟩ ?_
  rintro j g w8 ⟨hj,ho,hw,Y⟩;refine Zk Z Z (λhD=>?_) (λhD=>?_)
  ·refine Qt ?_;have h7:j=n:=oa
   rw[h7]at Y;have hN:gA (n+1) (mX a.ed n)=gA (n+1) (fS a.ed):=QdA λi hi=>by unfold mX;rw[OZ oa]
   rw[hN]at Y;refine Qc<|Q7 hw Z Z<|Q6 [va,sS a.st,vm,ve,sL bF (n+1) (n+1)] (h9.I ho) ⟨h.al.one,Z,h.mr.one,h.ed.one,Z,La⟩ λw9 O hO=>xe ?_;have gh:=hy.size;refine Qk ⟨[_],⟨Kh hO,La⟩,((hy.D hz).D ho).O O oa,bF,Z,oa,Y.J O (by simp;omega)⟩
  have h7:j<n:=by have gi:(j:Int)<a.st:=hD;omega
  have gj:=Ul (λe:Ed=>decide (e.1<(j:Int))) a.ed;have gk:=Ul (λe:Ed=>decide (e.1+1=((j+1:Nat):Int))) a.ed;have hP:mX a.ed j (j+1)=cN a.ed (j+1):=by unfold mX;rw[OY oa]
  have hQ:mX a.ed j j=fS a.ed j:=by unfold mX;rw[OZ (Lr _)]
  have hH:0<=mX a.ed j (j+1)/\mX a.ed j (j+1)<=1099511627776:=by rw[hP];unfold cN;omega
  have gl:0<=mX a.ed j j/\mX a.ed j j<=1099511627776:=by rw[hQ];unfold fS;omega
  refine Qf<|Qd<|Qn<|Ql<|Qb<|ZK [] (Xj 0 14 [13])<|p (QH Z)<|pq (λ_ hc=>Qj (hw.I hc) Z Z)<|p Qx<|p (λ_=>Xy Z Z ⟨oa,oa⟩) <|
   p (λ_=>QE (i:=j+1) Z Z oa)<|pq (λ_ hc=>UI (i:=j+1) (Y.I hc) Z oa)<|p (QH Z)<|pq (λ_ hc=>Qj (hw.I hc) Z Z) <|
   p Qx<|p (λ_=>QE (i:=j) Z Z oa)<|pq (λ_ hc=>UI (i:=j) (Y.I hc) Z oa)<|p (λ_=>Xy Z Z ⟨oa,oa⟩) <|
   p (λ_=>QE (i:=j+1) Z Z oa)<|pkk<|yH (i:=j+1) (Y.I (xd.Y [] w8)) Z Z oa (QnX a.ed j (n+1)) λw9 O hR=>pe ?_
  refine Qr<|QC Z Z<|Qa<|xe ?_;exact⟨j+1,oa,Lb,h7,(ho.D (xd.Y [] w8)).O O hC,(hw.I (xd.Y [] w8)).J O (by simp;omega),hR⟩
 have ha:k<a.ed.length:=by have hv:(k:Int)<(a.ed.length:Int):=h6;omega
 have hE:a.ed.take (k+1)=a.ed.take k++[a.ed[k]'ha]:=Ln ha;have hF:=h8 _ (Lm ha);refine Zg (a.ed[k]'ha) λe he=>?_;rw[he]at hE hF;have hfr:e.1+1=((e.1.toNat+1:Nat):Int):=oa
 have hS:=Ul (λd:Ed=>decide (d.1+1=((e.1.toNat+1:Nat):Int))) (a.ed.take k);have gm:0<=cN (a.ed.take k) (e.1.toNat+1)/\cN (a.ed.take k) (e.1.toNat+1)<=1099511627776:=by unfold cN;rw[LH]at hS;omega
 refine Qf<|Qd<|Qn<|Qc<|xie ((h.I (hy.D hz)).ed.I hs) Z Z ha λgn hv=>?_;rw[he]at hv;refine x (QF hv Z Z)<|QV [sS 0,sS 0,sS 0] λb5 w8 ho hT hm=>Q6 (Qp e) hm oz λw9 O hU=>xe ?_;have hp:sW w7 w9:=ho.O O hT;refine Qr<|Qs Z (h5.I hp) Z Z<|Qs Z hU Z Z<|QC Z Z<|x (QE (i:=e.1.toNat+1) Z (O0 sS hfr) oa) <|
  x (UI (i:=e.1.toNat+1) (hu.I hp) Z oa)<|QC Z Z<|x (QE (i:=e.1.toNat+1) Z (O0 sS hfr) oa) <|
  Qo<|yH (i:=e.1.toNat+1) (hu.I hp) Z Z oa (QoY (a.ed.take k) e hF.1 (n+1)) λgq hG hV=>xe ?_
 refine Qr<|QC Z Z<|Qa<|xe<|⟨k+1,oa,Lb,ha,(hs.D hp).O hG hC,(h5.I hp).J hG (by simp;omega),?_⟩;rw[hE];exact hV
open Go.RowKit
section
variable {l:xI}
end
def XB {α:Type}(f:Nat->α)(i:Nat)(x:α):Nat->α:=λj=>if j=i then x else f j
theorem Zx (f:Nat->α)(i:Nat)(x:α):XB f i x i=x:=by simp[XB]
theorem ZQ (f:Nat->α)(x:α)(h:j≠i):XB f i x j=f j:=by simp[XB,h]
theorem Kl (k:α->β)(n:Nat)(f:Nat->α)(i:Nat)(x:α):((oM n).map λj=>k (f j)).set i (k x)=(oM n).map λj=>k (XB f i x j):=by
 apply L5
 ·simp
 intro j h1 h2;rw[Nc];by_cases e:i=j
 ·subst e;simp[Zx]
 rw[OY e];simp[ZQ _ _ (Ne.symm e)]
structure V7 (base:Nat)(w:O6)(n:Nat)(f:Nat->O7)(g:Nat->LI):Prop where
 own:∀i,i<n->Qh 3 base w (f i) (g i)
 dj:∀i j,i<n->j<n->i≠j->Dj (f i) (f j)
theorem V7.app {f:Nat->O7}{g:Nat->LI}{l:LI}(h:V7 base w n f g)(hi:i<n)(U:Qh 3 base w' v' l)(V:xd (ob (f i)) w w')
  (Y:∀b∈ob v',b∈ob (f i)\/↑w<=b):V7 base w' n (XB f i v') (XB g i l):=by
 refine⟨λj G=>?_,λj k G J I=>?_⟩
 ·by_cases e:j=i
  ·subst e;rw[Zx,Zx];exact U
  rw[ZQ _ _ e,ZQ _ _ e];exact Qg (h.own j G) V (h.dj j i G hi e)
 have key:∀j,j<n->j≠i->Dj v' (f j):=λj G e b hb O=>by
  rcases Y b hb with h1|h1
  ·exact h.dj i j hi G (Ne.symm e) b h1 O
  have:=QW (h.own j G) b O;omega
 by_cases e1:j=i
 ·subst e1;rw[Zx,ZQ _ _ (Ne.symm I)];exact key k J (Ne.symm I)
 rw[ZQ _ _ e1];by_cases e2:k=i
 ·subst e2;rw[Zx];exact(key j G e1).symm
 rw[ZQ _ _ e2];exact h.dj j k G J I
theorem V7.J {f:Nat->O7}{g:Nat->LI}(h:V7 base w n f g)(G:xd X w w')(hX:∀i,i<n->∀b∈ob (f i),b∉X):V7 base w' n f g :=
 ⟨λi hi=>Qg (h.own i hi) G (hX i hi),h.dj⟩
theorem V7.I {f:Nat->O7}{g:Nat->LI}(h:V7 base w n f g)(G:sW w w'):V7 base w' n f g:=h.J G (λ_ _ _ _=>oe)
def YG (es:List Ed)(s:Nat):LI:=(es.filter λe=>decide (e.2.2=(s:Int))).map (·.1)
theorem Qff (es:List Ed)(e:Ed)(G:0<=e.2.2):∀s,XB (YG es) e.2.2.toNat (YG es e.2.2.toNat++[e.1]) s=YG (es++[e]) s:=by
 intro s;unfold YG;rw[LW,Lv];by_cases h:s=e.2.2.toNat
 ·subst h;rw[Zx];have:e.2.2=(e.2.2.toNat:Int):=oa
  simp[<-this]
 rw[ZQ _ _ h];have:¬e.2.2=(s:Int):=oa
 simp[this]
theorem VM {s:Nat}{p:Int}(h:p∈YG es s):∃e∈es,e.1=p/\e.2.2=(s:Int):=by
 unfold YG at h;simp only[Oj,Of,decide_eq_true_eq]at h;obtain⟨e,⟨h1,h2⟩,G⟩:=h;exact⟨e,h1,G,h2⟩
theorem qP (es:List Ed)(s:Nat):(YG es s).length<=es.length:=by
 unfold YG;rw[Lo];exact LO _ _
def bwE (s:Int)(st:LI×LI)(p:Int):LI×LI:=if xh st.1 p.toNat<0 then(st.1.set p.toNat (xh st.1 s.toNat+1),st.2++[p]) else st
def zo (n:Nat)(to:LI):LI:=(oM n).map λi:Nat=>if(i:Int)∈to then 0 else -1
structure QmI (n:Nat)(o q:LI):Prop where
 len:o.length=n
 q:∀x∈q,0<=x/\x<(n:Int)
 le:∀x∈o,-1<=x/\x+(neg o:Int)<=n
theorem Qql (l:LI):neg l<=l.length:=LO _ _
theorem Qrf {p:Int}{st:LI×LI}(h:QmI n st.1 st.2)(Y:0<=s/\s<(n:Int))(G:0<=xh st.1 s.toNat)(J:0<=p/\p<(n:Int)):
  QmI n (bwE s st p).1 (bwE s st p).2/\neg (bwE s st p).1+(bwE s st p).2.length=neg st.1+st.2.length/\0<=xh (bwE s st p).1 s.toNat:=by
 unfold bwE;have hl:=h.len;have I:p.toNat<st.1.length:=oa
 have O:s.toNat<st.1.length:=oa
 by_cases hc:xh st.1 p.toNat<0
 ·rw[OZ hc];have U:st.1[p.toNat]'I<0:=by rw[Zo I];exact hc
  have hv:=h.le _ (XH O);have ha:=UR st.1 p.toNat (xh st.1 s.toNat+1) I U oa;refine⟨⟨by simp[hl],λx hx=>?_,λx hx=>?_⟩,?_,?_⟩
  ·simp only[oZ,oH]at hx;rcases hx with hx|rfl
   ·exact h.q x hx
   exact J
  ·simp only[]at hx ⊢;rcases ND hx with h1|h1
   ·have:=h.le x h1;omega
   subst h1;omega
  ·simp only[oO,oL];omega
  simp only[];have V:s.toNat≠p.toNat:=λe=>by rw[e]at G;omega
  have:xh (st.1.set p.toNat (xh st.1 s.toNat+1)) s.toNat=xh st.1 s.toNat:=by
   unfold xh;simp[oQ,List.getElem?_set_ne (Ne.symm V)]
  rw[this];exact G
 rw[OY hc];exact⟨h,rfl,G⟩
theorem J6 (n:Nat)(to:LI):(zo n to).length=n:=by simp[zo]
theorem Qrg {to:LI}(h:∀x∈to,0<=x/\x<(n:Int)):QmI n (zo n to) to:=by
 refine⟨J6 n to,h,λx hx=>?_⟩;have G:=Qql (zo n to);rw[J6]at G;unfold zo at hx;simp only[Oj]at hx;obtain⟨i,_,rfl⟩:=hx;split <;> omega
theorem Qo1 {to:LI}{x:Int}(h:0<=x/\x<(n:Int))(hx:x∈to):xh (zo n to) x.toNat=0:=by
 have h1:x.toNat<(zo n to).length:=by rw[J6];omega
 rw[<-Zo h1];have:((x.toNat:Nat):Int)=x:=oa
 simp[zo,this,hx]
def Qro (o q:LI):Prop:=∀x∈q,0<=xh o x.toNat
theorem Qmg {p:Int}{st:LI×LI}(h:QmI n st.1 st.2)(J:0<=xh st.1 s.toNat)(O:0<=p/\p<(n:Int))(G:Qro st.1 st.2):Qro (bwE s st p).1 (bwE s st p).2:=by
 unfold bwE;have I:p.toNat<st.1.length:=by have:=h.len;omega
 by_cases hc:xh st.1 p.toNat<0
 ·rw[OZ hc];intro x hx;have e1:xh (st.1.set p.toNat (xh st.1 s.toNat+1)) x.toNat=if x.toNat=p.toNat then xh st.1 s.toNat+1 else xh st.1 x.toNat:=by
   by_cases e:x.toNat=p.toNat
   ·rw[OZ e,e];unfold xh;simp[oQ,I]
   rw[OY e];unfold xh;simp[oQ,List.getElem?_set_ne (Ne.symm e)]
  rw[e1];split
  ·omega
  rename_i e;simp only[oZ,oH]at hx;rcases hx with hx|rfl
  ·exact G x hx
  exact O1 Z e
 rw[OY hc];exact G
theorem UF (n:Nat):(oI n (nS).cells.toList).flatten=(oM n).map (λ_=>nS):=by
 apply L5
 ·simp[Value.cells]
 intro i h1 h2;simp[Value.cells]
theorem Qii (n:Nat):(oI n (sS 0).cells.toList).flatten=(gA n (λj=>if j<0 then -1 else 0)).map (Value.int .i64):=by
 apply L5
 ·simp[Value.cells,gA]
 intro i h1 h2;simp[Value.cells,gA]
theorem Vi {rv:Nat->O7}(hi:i<n):((oM n).map rv)[0+i*1]?=some (rv i):=by simp[hi]
theorem Qty {C:xF}{pl:xA}
  {e bys:Nat}  {x I J:O8}  {v:O7}   {H:xG} {k:IntKind} {lo hi:Nat} [h:Sl P t e sz bys z]
  (O:QR ops G=⟨d,.slice t x (some I) (some J) none,ty,pS,af,gd⟩) (hA:Zw L H v n sz cs) (hx:ev f x=v) (hl:ev f I=.int k lo) (U:ev f J=.int k' hi) (h1:lo<=hi) (h2:hi<=n)
  (hK:∀v',Zw L H v' (hi - lo) sz ((cs.drop (lo*sz)).take ((hi - lo)*sz))->XP P ops C K pl (QP f d v') w)
  (V:Yb ops f (QR ops G)=true:=by rfl):XP P ops C K ((G,true)::pl) f w:=by
 obtain⟨v',Y,h4⟩:=Qgo (P:=P) (d:=d) (ty:=ty) (pS:=pS) (af:=af) (gd:=gd) (t:=t) hA hx hl U h1 h2;exact Lg.p (λw'=>by rw[O];exact h4 w') (by rw[O];exact hK v' Y) V
theorem Qg5 (I:es.Pairwise λx y=>x.1<=y.1)(s:Nat):∀(m:Nat) (G:m<es.length),(m:Int)<fS es s↔(es[m]'G).1<(s:Int):=by
 unfold fS cnE;induction es with
 | nil=>intro m G;simp at G
 | cons e es ih =>
  intro m G;simp only[OH]at I;have ih:=ih I.2;simp only[OF];by_cases h1:e.1<(s:Int)
  ·simp only[h1,decide_true,if_true,oS];cases m with
   | zero=>simp only[On];omega
   | succ m =>
    have:=ih m (ox G);simp only[List.getElem_cons_succ];rw[<-this];omega
  have J:(es.filter λe=>decide (e.1<(s:Int)))=[]:=MU.2 (λd hd=>by have:=I.1 d hd;simp;omega);simp only[h1,decide_false,Ov,if_false,J,List.length_nil];cases m with
  | zero=>simp only[On];omega
  | succ m =>
   have hd:es[m]'(ox G)∈es:=Lm _;have:=I.1 _ hd;simp only[List.getElem_cons_succ];omega
theorem QoC (es:List Ed)(s:Nat):fS es s<=fS es (s+1):=by
 have h:=Qg4 es s;have:=(Ul (λe:Ed=>decide (e.1+1=((s+1:Nat):Int))) es).1;unfold cN at h;omega
theorem Qni (I:es.Pairwise λx y=>x.1<=y.1)(s lo hi:Nat)(h1:fS es s=(lo:Int))(h2:fS es (s+1)=(hi:Int)):(es.drop lo).take (hi - lo)=QK es s/\hi<=es.length/\lo<=hi:=by
 have G:=QoC es s;have hl:=(Ul (λe:Ed=>decide (e.1<((s+1:Nat):Int))) es).2;have J:hi<=es.length:=by unfold fS at h2;omega
 refine⟨?_,J,oa⟩;exact js (λe:Ed=>decide (e.1=(s:Int))) es lo hi oa J
  (λm G V=>by have:=(Qg5 I s m G).1 oa;simp;omega)
  (λm G O Y=>by
   have h5:¬(es[m]'G).1<(s:Int):=λh=>oq ((Qg5 I s m G).2 h)
   have U:=(Qg5 I (s+1) m G).1 oa;simp;omega)
  (λm G O=>by
   have U:¬(es[m]'G).1<((s+1:Nat):Int):=λh=>oq ((Qg5 I (s+1) m G).2 h)
   simp;omega)
theorem QaV:∀(l:List Ed) (k:Nat),(l.flatMap Qp).drop (k*3)=(l.drop k).flatMap Qp
 | [],k=>oe
 | e::l,0=>oe
 | e::l,k+1=>by
  simp only[oV,List.drop_succ_cons,Oz,OQ];rw[M4,<-List.drop_drop,show(Qp e++l.flatMap Qp).drop 3=l.flatMap Qp from rfl,QaV l k]
theorem QaU:∀(l:List Ed) (k:Nat),(l.flatMap Qp).take (k*3)=(l.take k).flatMap Qp
 | [],k=>oe
 | e::l,0=>oe
 | e::l,k+1=>by
  simp only[oV,List.take_succ_cons,Oz,OQ];rw[M4,NM,show(Qp e).length=3 from rfl,show 3+k*3 - 3=k*3 by omega,QaU l k,Ls (by rw[show(Qp e).length=3 from rfl];omega)]
theorem QlE {vf:O7}{st:Int}:
  QT sV 255 [.agg #[va,sS st,vm,ve,vf],sS s] w λr w'=>sW w w'/\∃b1 G,r=.func (.func 285) #[] #[sP b1,sP G] /\
   ↑w<=b1/\↑w<=G/\QN ↑w' b1 304 [va,sS st,vm,ve,vf]/\QN ↑w' G 3 [sS s]:=by
 refine Zn func255 ?_;refine Qc<|Zd [va,sS st,vm,ve,vf] λG w1 I O U=>Zd [sS s] λV w2 J ha Y=>Qb<|Qc<|x Zl<|Qb ?_;have he:=I.size;exact Qk ⟨[_],Lb,I.D J,G,V,Z,O,oa,U.I J,Y⟩
theorem Qfr {V bF s:Nat}(h6:QN ↑w U 304 [va,sS a.st,vm,ve,sL bF (n+1) (n+1)])(h7:QN ↑w V 3 [sS s])
  (h8:QN ↑w bF 3 ((gA (n+1) (fS a.ed)).map (Value.int .i64))) (hE:qn L ↑w ve a.ed) (h9:a.ed.Pairwise λx y=>x.1<=y.1) (hs:s<n) (hn:n<=4096):
  SeqStopsK (fen none) m sV 285 #[sP U,sP V] (λx:{ e:Ed // e∈a.ed }=>#[sT (Qp x.1)]) (Lw ↑w L)
   (λys=>ys.map (·.1)=QK a.ed s) (λ_=>True) (a.ed.length+1) w:=by
 intro l J Jx W hA hJ hB hY h0;have hf:sW w W:=xd.of_below hA;have ab:∀{ys:List { e:Ed // e∈a.ed }} {W1 W2:O6},J ys W1->sW W1 W2->J ys W2:=λ{ys W1 W2} hj Y=>hJ ys W1 W2 none hj ⟨Y.os,Y.tape,Y.output,Y.size,λk hk _=>Y.block k hk oe⟩ (λr e=>by cases e);have hQ:=Ul (λe:Ed=>decide (e.1<(s:Int))) a.ed;have hR:=Ul (λe:Ed=>decide (e.1<((s+1:Nat):Int))) a.ed;obtain⟨lo,hq⟩:∃lo:Nat,fS a.ed s=(lo:Int):=⟨(fS a.ed s).toNat,by unfold fS;omega⟩;obtain⟨hi,hr⟩:∃hi:Nat,fS a.ed (s+1)=(hi:Int):=⟨(fS a.ed (s+1)).toNat,by unfold fS;omega⟩;obtain⟨hu,hC,hD⟩:=Qni h9 s lo hi hq hr;have hT:=hE.le;have hF:(QK a.ed s).length=hi - lo:=by rw[<-hu,LH,My];omega
 have hG:∀e∈QK a.ed s,e∈a.ed:=λe G=>(Zy G).1;have key:QT sV 285 [.func (.yield l) #[] #[],sP U,sP V] W (λ_ W'=>(∃ys,ys.map (·.1)=QK a.ed s/\J ys W')\/(∃pre,True/\Jx pre W')):=by
  refine QT.of_G m func285 Z ntmps285 results285 oe ?_;have hm:=h6.I hf;have hv:=h7.I hf;have hw:=h8.I hf;refine QQ<|Ut (sW W) [oB 0,oB 1,oB 2,oB 3,oB 4,oB 5,oB 6,oB 7,oB 8,oB 9,oB 10,oB 11,oB 12,oB 13,oB 14,oB 15,oB 16] mixed ol ol od (xd.Y _ _) ?_;refine p (QH Z)<|p (QH Z)<|pq (λ_ hc=>Qj (hm.I hc) Z Z)<|p (QH Z)<|pq (λ_ hc=>Qj (hm.I hc) Z Z)<|pq (λ_ hc=>Qj (hv.I hc) Z Z) <|
   p (λ_=>QE (i:=s) Z Z oa)<|pq (λ_ hc=>UI (i:=s) (hw.I hc) Z oa)<|p (QH Z)<|pq (λ_ hc=>Qj (hm.I hc) Z Z) <|
   pq (λ_ hc=>Qj (hv.I hc) Z Z)<|p (λ_=>Xy Z Z ⟨oa,oa⟩)<|p (λ_=>QE (i:=s+1) Z Z oa)<|pq (λ_ hc=>UI (i:=s+1) (hw.I hc) Z oa) <|
   Qty (lo:=lo) (hi:=hi) Z hE Z (O0 sS hq) (O0 sS hr) hD hC λhH hy=>p (λ_=>Y4 hy Z)<|p Qx<|pe ?_
  have hS:qn L ↑w hH (QK a.ed s):=by
   unfold qn;rw[hF,<-hu,<-QaU,<-QaV];exact hy
  have hz:sW W { W with drawn:=W.drawn+1 }:=xd.Y _ _
  refine ZL<|K3 (α:=Nat×List { e:Ed // e∈a.ed }) [(5,5),(22,30)] (λz=>[(22,sS z.1)]) (λz ds W'=>ds=[]/\z.1<=(QK a.ed s).length/\xd L w W'/\z.2.map (·.1)=(QK a.ed s).take z.1/\J z.2 W') (λz=>(QK a.ed s).length - z.1) ol (0,[]) Lb
   ⟨Z,Lp _,(hf.D hz).any,Z,ab h0 hz⟩ ?_
  rintro⟨k,ys⟩ g ds w1 ⟨rfl,hk,h3,ha,ho⟩;simp only[]at hk ha ho;refine QQ<|Qy ol ol<|ZT Z Z<|xe<|QQ<|qm Z (λhp=>?_) (λhp=>?_)
  ·refine JQ ?_;have hI:(QK a.ed s).length<=k:=by
    have hg:¬(k:Int)<((hi - lo:Nat):Int):=hp;omega
   rw[Ls hI]at ha;exact⟨λ_ h=>(by cases h),MB,[],λW' I=>⟨La,.inl ⟨ys,ha,ab ho I⟩⟩⟩
  refine Yd ?_;have O:k<(QK a.ed s).length:=by
   have hg:(k:Int)<((hi - lo:Nat):Int):=hp;omega
  have hU:=Yg a.ed s;have h4:(QK a.ed s).take (k+1)=(QK a.ed s).take k++[(QK a.ed s)[k]'O]:=Ln O;have hh:=hG _ (Lm O);have hV:ys.length=k:=by have:=O0 oY ha;rw[Lo,LH]at this;omega
  refine Zg ((QK a.ed s)[k]'O) λe G=>?_;rw[G]at h4 hh;refine QQ<|ZL<|QQ<|Qy ol ol<|xie (i:=k) (hS.st h3) Z Z O λhW hg=>?_;rw[G]at hg;refine x (QF hg Z Z)<|QV [sS 0,sS 0,sS 0] λb5 w2 hK hL hM=>Q6 (Qp e) hM oz λw3 hN hO=>xe ?_;have h5:sW w1 w3:=hK.O hN hL;refine QQ<|KM ol ?_;refine JD.pre2 ?_;refine Qa<|Q7 hO Z Z<|xe<|xy (l:=l) Z (hY ys ⟨e,hh⟩ w3 (ab ho h5) oa) λen W3 hP=>Or.elim hP (λh1=>⟨.bool true,h1.1,?_⟩) (λh1=>⟨.bool false,h1.1,?_⟩)
  ·refine JD.of_XL<|x (Zi Z)<|xe<|Kc Z<|Yd ?_;refine Qy ol ol<|QC Z Z<|Qa<|xe ?_;exact⟨(k+1,ys++[⟨e,hh⟩]),og,Lb,Z,O,(h3.D h5).lw h1.2.2,by rw[h4,Lv,ha];rfl,h1.2.1⟩
  refine JD.of_XL<|x (Zi Z)<|xe<|jU Z ?_;refine Ka ⟨λ_ h=>(by cases h),MB,[],λW' I=>⟨La,.inr ⟨ys++[⟨e,hh⟩],La,?_⟩⟩⟩;exact hB _ W3 W' none h1.2 ⟨I.os,I.tape,I.output,I.size,λk hk _=>I.block k hk oe⟩ (λr e=>by cases e)
 refine(callsIn_wide (n:=m)).2 ?_;have ea:(#[.func (.yield l) #[] #[]]++[sP U,sP V].toArray:Array O7)=#[.func (.yield l) #[] #[],sP U,sP V]:=oe
 rw[ea];unfold QT at key;refine Calls.mono key λe w' G=>?_;cases e with
 | returned v=>exact⟨⟨v,Z⟩,G⟩
 | panicked c=>exact G.elim
 | outgrown=>exact G.elim
def Par (n:Nat)(ed:List Ed):Prop:=∀j:Nat,0<j->j<n->∃e∈ed,e.2.2=(j:Int)/\e.1<(j:Int)
theorem Qm9 {t:LI}{s G:Sy}{v:Int}(h:Par s.tup.length s.ed)(hi:i<s.tup.length)(e:syE aa i t s v=some G):Par G.tup.length G.ed/\i<G.tup.length:=by
 unfold syE at e;cases O:QU v aa t with
 | none=>rw[O]at e;cases e;exact⟨h,hi⟩
 | some u =>
  rw[O]at e;simp only[]at e;by_cases U:u∈s.tup
  ·rw[OZ U]at e;cases e
   refine⟨λj I J=>?_,hi⟩;obtain⟨d,hd,h1⟩:=h j I J;exact⟨d,LG _ hd,h1⟩
  rw[OY U]at e;split at e
  ·cases e
  cases e
  refine⟨λj I J=>?_,by simp;omega⟩;simp only[oO,oL]at J;by_cases V:j=s.tup.length
  ·exact⟨((i:Int),v,(s.tup.length:Int)),oe,by rw[V],og⟩
  obtain⟨d,hd,h1⟩:=h j I oa;exact⟨d,LG _ hd,h1⟩
theorem QcN {aa:List Qz}{i:Nat}{t:LI}:∀(vs:LI) (s G:Sy),Par s.tup.length s.ed->i<s.tup.length->Vf aa i t vs s=some G->Par G.tup.length G.ed
 | [],s,G,h,_,e=>by cases e;exact h
 | v::vs,s,G,h,hi,e=>by
  rw[Vf]at e;obtain⟨I,h1,h2⟩:=L7.1 e;have:=Qm9 h hi h1;exact QcN vs I G this.1 this.2 h2
theorem Qf7 {aa:List Qz}:∀(f i:Nat) (s G:Sy),Par s.tup.length s.ed->syL aa f i s=some G->Par G.tup.length G.ed
 | 0,i,s,G,h,e=>by cases e;exact h
 | f+1,i,s,G,h,e=>by
  rw[syL]at e;split at e
  ·rename_i hi;obtain⟨I,h1,h2⟩:=L7.1 e;have ht:(ZP aa i (Jk s i) s).tup=s.tup:=by unfold ZP;split <;> rfl
   have J:(ZP aa i (Jk s i) s).ed=s.ed:=by unfold ZP;split <;> rfl
   refine Qf7 f (i+1) I G (QcN _ _ I (by rw[ht,J];exact h) (by rw[ht];exact hi) h1) h2
  cases e;exact h
theorem Qjc {Q:List (LI)}(h:xw aa=some (A,Q)):Par Q.length A.ed:=by
 unfold xw at h;split at h
 ·cases h;intro j _ G;simp at G
 obtain⟨s,h1,h2⟩:=LZ.1 h;cases h2
 exact Qf7 4096 0 (zt aa) s (λj I G=>by simp[zt]at G;omega) h1
def Uv (st:List Ed):LI:=st.map (·.1)
def gE (st:List Ed)(k:Nat):Ed:=st.getD k (0,-1,0)
theorem QgY {st:List Ed}{k:Nat}(h:k<st.length):st[k]'h=gE st k:=by simp[gE,oQ,h]
theorem QqR {st:List Ed}{k:Nat}(h:k<st.length):gE st k∈st:=by rw[<-QgY h];exact Lm h
def X0 (pm:Ed->Bool)(i:Nat)(st:List Ed)(e:Ed):List Ed:=if e.2.2∉Uv st/\pm e=true then st++[(e.2.2,(i:Int),e.2.1)]else st
def wrd (st:List Ed):Nat->Nat->LI
 | 0,_=>[]
 | f+1,k=>if 0<=(gE st k).2.1 then(gE st k).2.2::wrd st f (gE st k).2.1.toNat else[]
def yz (wt:Int->Bool)(pm:Ed->Bool)(es:List Ed):Nat->Nat->List Ed->LI×Bool
 | 0,_,_=>([],false)
 | f+1,i,st=>if i<st.length then(if wt (gE st i).1=true then((wrd st (i+1) i).reverse,true) else yz wt pm es f (i+1) ((QK es (gE st i).1).foldl (X0 pm i) st)) else([],false)
def pth (wt:Int->Bool)(pm:Ed->Bool)(es:List Ed)(n from0:Nat):LI×Bool:=yz wt pm es (n+1) 0 [((from0:Int),-1,-1)]
structure jO (n:Nat)(st:List Ed):Prop where
 nd:(Uv st).Nodup
 rg:∀x∈st,0<=x.1/\x.1<(n:Int)
 par:∀k,k<st.length->(gE st k).2.1=-1\/(0<=(gE st k).2.1/\(gE st k).2.1<(k:Int))
theorem jO.le {st:List Ed}(h:jO n st):st.length<=n:=by
 have:=xM n (Uv st) h.nd (λx hx=>by
  unfold Uv at hx;obtain⟨y,G,rfl⟩:=Lt.1 hx;exact h.rg y G)
 simpa[Uv]using this
theorem Qov {st:List Ed}{x:Ed}{k:Nat}(h:k<st.length):gE (st++[x]) k=gE st k:=by
 unfold gE;simp[oQ,Oa h]
theorem Qow (st:List Ed)(x:Ed):gE (st++[x]) st.length=x:=by
 unfold gE;simp[oQ]
theorem Qhv {st:List Ed}{e:Ed}(h:jO n st)(hi:i<st.length)(I:0<=e.2.2/\e.2.2<(n:Int)):jO n (X0 pm i st e)/\i<(X0 pm i st e).length:=by
 unfold X0;split
 ·rename_i hc;refine⟨⟨?_,λx hx=>?_,λk J=>?_⟩,by simp;omega⟩
  ·unfold Uv at hc ⊢;rw[Lv];exact Y6 h.nd hc.1
  ·simp only[oZ,oH]at hx;rcases hx with hx|rfl
   ·exact h.rg x hx
   exact I
  by_cases G:k<st.length
  ·rw[Qov G];exact h.par k G
  have:k=st.length:=by simp at J;omega
  subst this;rw[Qow];simp only[];omega
 exact⟨h,hi⟩
theorem QjT {from0:Nat}(h:from0<n):jO n [((from0:Int),-1,-1)]:=by
 refine⟨by simp[Uv],λx hx=>?_,λk G=>?_⟩
 ·simp at hx;subst hx;simp only[];omega
 simp at G;subst G;exact .inl Z
theorem QhY {wt:Int->Bool}{f:Nat}{st:List Ed}(h:¬i<st.length):yz wt pm es f i st=([],false):=by
 cases f with
 | zero=>rfl
 | succ f=>rw[yz,OY h]
theorem Qmp (pm:Ed->Bool)(i:Nat)(st:List Ed)(e:Ed):st <+: X0 pm i st e:=by
 unfold X0;split
 ·exact List.prefix_append _ _
 exact List.prefix_refl _
theorem q6 (pm:Ed->Bool)(i:Nat):∀(l:List Ed) (st:List Ed),st <+: l.foldl (X0 pm i) st
 | [],_=>List.prefix_refl _
 | e::l,st=>(Qmp pm i st e).trans (q6 pm i l _)
theorem Qef {n i:Nat}{pm:Ed->Bool}:∀(l:List Ed) (st:List Ed),jO n st->i<st.length->(∀e∈l,0<=e.2.2/\e.2.2<(n:Int))->jO n (l.foldl (X0 pm i) st)/\i<(l.foldl (X0 pm i) st).length
 | [],_,h,hi,_=>⟨h,hi⟩
 | e::l,st,h,hi,hl=>by
  have h1:=Qhv (pm:=pm) h hi (hl e Lj);exact Qef l _ h1.1 h1.2 (λd hd=>hl d (Lh _ hd))
theorem Qlc {st G:List Ed}(h:st <+: G){k:Nat}(I:k<st.length):gE G k=gE st k:=by
 obtain⟨r,rfl⟩:=h;unfold gE;simp[oQ,Oa I]
theorem Qbl {st G:List Ed}(h:st <+: G){x:Int}(hx:x∈Uv st):x∈Uv G:=by
 obtain⟨r,rfl⟩:=h;unfold Uv at *;rw[Lv];exact LG _ hx
theorem Qa7 {pm:Ed->Bool}{i:Nat}:∀(l:List Ed) (st:List Ed),(∀e∈l,pm e=true)->∀e∈l,e.2.2∈Uv (l.foldl (X0 pm i) st)
 | [],_,_,e,G=>by cases G
 | d::l,st,h,e,G=>by
  rcases Ll.1 G with rfl|G
  ·refine Qbl (q6 pm i l _) ?_;unfold X0;by_cases hc:e.2.2∈Uv st
   ·rw[OY (λh=>h.1 hc)];exact hc
   rw[OZ ⟨hc,h e Lj⟩];unfold Uv;rw[Lv];simp
  exact Qa7 l _ (λe G=>h e (Lh _ G)) e G
theorem QeS {wt:Int->Bool}(hg:Par n es)(Y:∀e∈es,0<=e.1/\0<=e.2.2/\e.2.2<(n:Int))(hh:∀e∈es,pm e=true){s:Nat}(hs:s<n)(hw:wt s=true):
  ∀(f i:Nat) (st:List Ed),jO n st->(0:Int)∈Uv st->n+1<=f+i->(∀k,k<i->k<st.length->wt (gE st k).1=false/\∀e∈es,e.1=(gE st k).1->e.2.2∈Uv st)->(yz wt pm es f i st).2=true:=by
 have fin:∀(i:Nat) (st:List Ed),jO n st->(0:Int)∈Uv st->¬i<st.length->(∀k,k<i->k<st.length->wt (gE st k).1=false/\∀e∈es,e.1=(gE st k).1->e.2.2∈Uv st)->False:=by
  intro i st hok J hi I;have idx:∀x∈Uv st,∃k,k<st.length/\(gE st k).1=x:=by
   intro x hx;unfold Uv at hx;obtain⟨y,hy,rfl⟩:=Lt.1 hx;obtain⟨k,O,rfl⟩:=LQ hy;exact⟨k,O,by rw[QgY O]⟩
  have all:∀(m j:Nat),j<m->j<n->(j:Int)∈Uv st:=by
   intro m;induction m with
   | zero=>intro j hj;omega
   | succ m ih =>
    intro j hj hm;by_cases hn:j=0
    ·subst hn;exact J
    obtain⟨e,G,h1,h2⟩:=hg j oa hm;have hq:=(Y e G).1;have h3:=ih e.1.toNat oa oa;have h4:((e.1.toNat:Nat):Int)=e.1:=oa
    rw[h4]at h3;obtain⟨k,O,V⟩:=idx _ h3;have h5:=(I k oa O).2 e G V.symm;rw[h1]at h5;exact h5
  obtain⟨k,O,V⟩:=idx _ (all (s+1) s oa hs);have:=(I k oa O).1;rw[V,hw]at this;cases this
 intro f;induction f with
 | zero =>
  intro i st hok J hf I;have:=hok.le;exact(fin i st hok J oa I).elim
 | succ f ih =>
  intro i st hok J hf I;by_cases hi:i<st.length
  ·rw[yz,OZ hi];split
   ·rfl
   rename_i hp;have ho:=λe (G:e∈QK es (gE st i).1)=>Zy G;have U:=q6 pm i (QK es (gE st i).1) st;have hl:st.length<=((QK es (gE st i).1).foldl (X0 pm i) st).length:=U.length_le;refine ih (i+1) _ (Qef (pm:=pm) (QK es (gE st i).1) st hok hi (λe G=>(Y e (ho e G).1).2)).1 (Qbl U J) oa (λk hr hu=>?_);by_cases e:k=i
   ·subst e;rw[Qlc U hi];refine⟨ox hp,λe G h1=>?_⟩;exact Qa7 _ st (λd hd=>hh d (ho d hd).1) e (by unfold QK;simp[G,h1])
   have ha:k<st.length:=oa
   rw[Qlc U ha];have:=I k oa ha;exact⟨this.1,λe G h1=>Qbl U (this.2 e G h1)⟩
  exact(fin i st hok J hi I).elim
theorem QhX {wt:Int->Bool}(G:Par n es)(I:∀e∈es,0<=e.1/\0<=e.2.2/\e.2.2<(n:Int))(J:∀e∈es,pm e=true){s:Nat}(O:s<n)(U:wt s=true):(pth wt pm es n 0).2=true :=
 QeS G I J O U (n+1) 0 _ (QjT oa) (by simp[Uv]) oa (λk V=>oa)
abbrev Lf:=List Bool
def lft (l:Lf)(s:Int):Bool:=l.getD s.toNat false
def cut (l:Lf)(s:Int):Lf:=l.set s.toNat false
def Js (ul:LI)(lf:Lf)(out:xD)(e:Ed):xD:=
 if lft lf e.1=false\/lft lf e.2.2=true\/e.2.1∉ul then out else if out.getLast?.map (·.1)=some e.1 then out else out++[(e.1,e.2.1)]
def lost (a:Qz)(ul:LI)(lf:Lf):xD:=a.ed.foldl (Js ul lf) []
def VZ (lf:Lf)(x:Int)(z:LI×LI)(y:Int):LI×LI:=if lft lf y=true/\xh z.1 y.toNat<0 then(z.1.set y.toNat (xh z.1 x.toNat+1),z.2++[y]) else z
def dsL (es:List Ed)(lf:Lf):Nat->Nat->LI×LI->LI×LI
 | 0,_,z=>z
 | f+1,i,z=>if i<z.2.length then dsL es lf f (i+1) ((YG es (xh z.2 i).toNat).foldl (VZ lf (xh z.2 i)) z) else z
def ds1 (lf:Lf)(z:LI×LI)(x:Int):LI×LI:=if lft lf x=true then(z.1.set x.toNat 0,z.2++[x]) else z
def ds0 (a:Qz)(lf:Lf):LI×LI:=a.mr.foldl (ds1 lf) (oI a.st.toNat (-1),[])
def dsts (a:Qz)(lf:Lf):LI:=(dsL a.ed lf a.st.toNat 0 (ds0 a lf)).1
def JN (lf:Lf):Nat->LI->LI
 | _,[]=>[]
 | i,d::l=>if lf.getD i false=true/\d<0 then(i:Int)::JN lf (i+1) l else JN lf (i+1) l
def nxs (a:Qz)(ul:LI)(lf:Lf):LI:=if(lost a ul lf).length≠0 then(lost a ul lf).map (·.1) else JN lf 0 (dsts a lf)
def Vj (a:Qz)(ul:LI):Nat->Lf->Lf
 | 0,lf=>lf
 | f+1,lf=>if(nxs a ul lf).length=0 then lf else Vj a ul f ((nxs a ul lf).foldl cut lf)
def lf0 (n:Nat)(fb:LI):Lf:=fb.foldl cut (oI n true)
def Xk (a:Qz)(fb ul:LI):Lf:=Vj a ul (a.st.toNat+1) (lf0 a.st.toNat fb)
def rstr (a:Qz)(lf:Lf):Qz:=⟨a.al,a.st,a.mr,a.ed.filter λe=>lft lf e.2.2⟩
def jZ (a:Qz)(lf:Lf):Qz:=if a.st=0\/lft lf 0=false then⟨a.al,0,[],[]⟩else YB (rstr a lf)
def Ud (a:Qz)(fb ul:LI):Qz:=jZ a (Xk a fb ul)
def fbs (s:Spc):LI:=s.fb.map (·.st)
def suE (c:ZO):Int:=YY c
def Xv (c:ZO):Qz:=Ud (spc c).a (fbs (spc c)) (unc c.ev)
def orB (b:Nat)(k:Nat):Nat:=b ||| (1 <<< k)
def rqB (x:Jz):Nat->Nat->List Jz->Nat
 | _,b,[]=>b
 | k,b,y::l=>rqB x (k+1) (if(y.a.al.any λe=>decide (e∈x.a.al))=true then orB b k else b) l
def prB (ls:xD):Nat:=ls.foldl (λb l=>orB b l.1.toNat) 0
def srR (c:ZO):LN:=c.rq.map λx=>rqB x 0 0 c.co
def srX (c:ZO):LN:=c.ex.map λx=>prB x.ls
def srC (c:ZO):LN:=c.cs.map λx=>prB x.ts
structure Mdl where
 kd:Int
 ix:Int
 co:LI
def QnV (k:Int):Nat->LN->List Mdl
 | _,[]=>[]
 | i,b::l=>⟨k,i,setK b 8⟩::QnV k (i+1) l
def xp (c:ZO):List Mdl:=QnV 1 0 (srR c)++(QnV 2 0 (srX c)++QnV 3 0 (srC c))
def sets (c:ZO):LN:=srR c++(srX c++srC c)
def Qts (c:ZO):Nat:=(sets c).foldl (λl b=>l &&& (65535 ^^^ b)) (2 ^ c.co.length - 1)
def rem (c:ZO):LI:=setK (Qts c) 8
structure Prt where
 co:LI
 rq:LI
 ex:LI
 cs:LI
def chs (l:List Jz)(ix:LI):List Jz:=ix.map λi=>l.getD i.toNat ⟨.empty,⟨[],0,[],[]⟩⟩
def ixP (co:LI)(ls:xD):xD:=ls.map λl=>((co.idxOf l.1:Int),l.2)
def Qto (c:ZO)(p:Prt):List Exc:=p.ex.map λi=>⟨(c.ex.getD i.toNat ⟨.empty,[]⟩).nm,ixP p.co (c.ex.getD i.toNat ⟨.empty,[]⟩).ls⟩
def Qtp (c:ZO)(p:Prt):List xQ:=p.cs.map λi=>⟨(c.cs.getD i.toNat ⟨.empty,[],0⟩).nm,ixP p.co (c.cs.getD i.toNat ⟨.empty,[],0⟩).ts,(c.cs.getD i.toNat ⟨.empty,[],0⟩).bd⟩
def Qtq (c:ZO)(p:Prt):ZO:=⟨c.ev,chs c.co p.co,chs c.rq p.rq,Qto c p,Qtp c p⟩
def prt (m:Mdl):Prt:=⟨m.co,if m.kd=1 then[m.ix]else[],if m.kd=2 then[m.ix]else[],if m.kd≠1/\m.kd≠2 then[m.ix]else[]⟩
def mcC (c:ZO)(m:Mdl):ZO:=Qtq c (prt m)
def msA (c:ZO)(m:Mdl):Qz:=Xv (mcC c m)
def Qtl (c:ZO):List Qz:=(xp c).map (msA c)++(rem c).map λi=>(c.co.getD i.toNat ⟨.empty,⟨[],0,[],[]⟩⟩).a
def KP (l:List Qz):Int:=if K9 l≠0 then K9 l else match xw l with|none=>3|some _=>0
def tgA (c:ZO):Qz:=Jf (Qtl c)
theorem Qq0 (lf:Lf)(x:Int)(z:LI×LI)(y:Int):VZ lf x z y=if lft lf y=true then bwE x z y else z:=by
 unfold VZ bwE;by_cases h:lft lf y=true <;> by_cases h2:xh z.1 y.toNat<0 <;> simp[h,h2]
structure DsI (n:Nat)(z:LI×LI):Prop where
 ok:QmI n z.1 z.2
 cnt:neg z.1+z.2.length=n
 s0:Qro z.1 z.2
theorem DsI.le {z:LI×LI}(h:DsI n z):z.2.length<=n:=by have:=h.cnt;omega
theorem QlK {lf:Lf}{x y:Int}{z:LI×LI}(h:DsI n z)(hx:0<=x/\x<(n:Int))(G:0<=xh z.1 x.toNat)(I:0<=y/\y<(n:Int)):
  DsI n (VZ lf x z y)/\0<=xh (VZ lf x z y).1 x.toNat:=by
 rw[Qq0];split
 ·obtain⟨h1,h2,J⟩:=Qrf h.ok hx G I;exact⟨⟨h1,oq h.cnt,Qmg h.ok G I h.s0⟩,J⟩
 exact⟨h,G⟩
theorem QoJ (lf:Lf)(x:Int)(z:LI×LI)(y:Int):∃r,(VZ lf x z y).2=z.2++r:=by
 unfold VZ;split
 ·exact⟨[y],Z⟩
 exact⟨[],oe⟩
theorem Qg9 {n:Nat}{lf:Lf}{x:Int}(hx:0<=x/\x<(n:Int)):∀(l:LI) (z:LI×LI),DsI n z->0<=xh z.1 x.toNat->(∀y∈l,0<=y/\y<(n:Int)) ->
  DsI n (l.foldl (VZ lf x) z)/\∃r,(l.foldl (VZ lf x) z).2=z.2++r
 | [],z,h,_,_=>⟨h,[],oe⟩
 | y::l,z,h,G,hl=>by
  obtain⟨h1,h2⟩:=QlK (lf:=lf) h hx G (hl y Lj);obtain⟨I,r2,J⟩:=Qg9 hx l _ h1 h2 (λy O=>hl y (Lh _ O));obtain⟨U,V⟩:=QoJ lf x z y;exact⟨I,U++r2,by rw[LP,J,V,LC]⟩
theorem QlI {lf:Lf}{f:Nat}{z:LI×LI}(h:¬i<z.2.length):dsL es lf f i z=z:=by
 cases f with
 | zero=>rfl
 | succ f=>rw[dsL,OY h]
theorem Qhr {l:LI}{x:Int}(G:0<=x):(zo n l).set x.toNat 0=zo n (l++[x]):=by
 apply L5
 ·simp[zo]
 intro i h2 I;rw[Nc];by_cases e:x.toNat=i
 ·have:(i:Int)=x:=oa
  rw[OZ e];simp[zo,this]
 have:(i:Int)≠x:=oa
 rw[OY e];simp[zo,this]
theorem QdO {lf:Lf}(I:∀x∈a.mr,0<=x)(k:Nat):(a.mr.take k).foldl (ds1 lf) (oI a.st.toNat (-1),[])=(zo a.st.toNat ((a.mr.take k).filter (lft lf)),(a.mr.take k).filter (lft lf)):=by
 induction k with
 | zero =>
  simp only[List.take_zero,List.foldl_nil,List.filter_nil];congr 1;apply L5
  ·simp[zo]
  intro i h1 h2;simp[zo]
 | succ k ih =>
  by_cases G:k<a.mr.length
  ·rw[Ln G,Mw,ih,LW];simp only[List.foldl_cons,List.foldl_nil,ds1];by_cases hl:lft lf (a.mr[k]'G)=true
   ·rw[OZ hl,Qhr (I _ (Lm G))];simp[hl]
   rw[OY hl];simp[hl]
  have e:a.mr.take (k+1)=a.mr.take k:=by rw[Ls oa,Ls oa]
  rw[e];exact ih
theorem jp {lf:Lf}(G:∀x∈a.mr,0<=x):ds0 a lf=(zo a.st.toNat (a.mr.filter (lft lf)),a.mr.filter (lft lf)):=by
 have:=QdO (lf:=lf) G a.mr.length;rw[ON]at this;exact this
theorem QnS (l:LI)(I:l.Nodup)(hb:∀x∈l,0<=x/\x<(n:Int)):neg (zo n l)+l.length=n:=by
 have key:∀k,k<=l.length->neg (zo n (l.take k))+k=n:=by
  intro k;induction k with
  | zero =>
   intro _;have e:zo n (l.take 0)=oI n (-1):=by
    apply L5
    ·simp[zo]
    intro i h1 h2;simp[zo]
   rw[e];unfold neg;simp
  | succ k ih =>
   intro Y;have h1:=ih oa;have hx:=hb _ (Lm (show k<l.length by omega));rw[Ln (show k<l.length by omega),<-Qhr hx.1];have J:(l[k]'oa).toNat<(zo n (l.take k)).length:=by rw[J6];omega
   have ha:=UR (zo n (l.take k)) (l[k]'oa).toNat 0 J (by
    have e:(((l[k]'oa).toNat:Nat):Int)=l[k]'oa:=oa
    have O:(l[k]'oa)∉l.take k:=λh=>by
     obtain⟨j,U,G⟩:=LQ h;rw[Ng]at G;have V:j<k:=by simp at U;omega
     have:=(Mn.1 I) j k oa oa V;exact this G
    simp[zo,e,O]) (Ms _)
   omega
 have:=key l.length (Lr _)
 rwa [ON]at this
theorem QlL {lf:Lf}(G:QL a)(I:a.st=(n:Int)):DsI n (ds0 a lf):=by
 have hb:∀x∈a.mr.filter (lft lf),0<=x/\x<(n:Int):=λx hx=>by rw[<-I];exact G.mr x (LB.1 hx).1
 have e:a.st.toNat=n:=oa
 rw[jp (λx hx=>(G.mr x hx).1),e];refine⟨Qrg hb,QnS _ ((G.mri.imp (λh=>oa)).filter _) hb,λx hx=>?_⟩;rw[Qo1 (hb x hx) hx];exact Ms _
def V0 (l:Lf):Nat:=l.countP (· == true)
theorem Qhj (l:Lf):V0 l<=l.length:=List.countP_le_length
theorem Qhf (l:Lf)(s:Int):(cut l s).length=l.length:=by simp[cut]
theorem qb:∀(xs:LI) (l:Lf),(xs.foldl cut l).length=l.length
 | [],_=>rfl
 | x::xs,l=>by rw[LP,qb xs,Qhf]
theorem Qhh:∀(l:Lf) (i:Nat),V0 (l.set i false)+(if l.getD i false=true then 1 else 0)=V0 l
 | [],i=>by simp[V0]
 | b::l,0=>by cases b <;> simp[V0]
 | b::l,i+1=>by
  have ih:=Qhh l i;unfold V0 at *;simp only[List.set_cons_succ,List.countP_cons,List.getD_cons_succ];omega
theorem Qhi (l:Lf)(s:Int):V0 (cut l s)+(if lft l s=true then 1 else 0)=V0 l:=Qhh l s.toNat
theorem QdW:∀(xs:LI) (l:Lf),V0 (xs.foldl cut l)<=V0 l
 | [],_=>Lr _
 | x::xs,l=>by
  have h1:=QdW xs (cut l x);have h2:=Qhi l x;rw[LP];omega
theorem QlU {xs:LI}{l:Lf}(h:0<xs.length)(G:∀x∈xs,lft l x=true):V0 (xs.foldl cut l)<V0 l:=by
 cases xs with
 | nil=>simp at h
 | cons x xs =>
  have h1:=QdW xs (cut l x);have h2:=Qhi l x;rw[OZ (G x Lj)]at h2;rw[LP];omega
def QmC (a:Qz)(lf:Lf)(out:xD):Prop:=∀p∈out,lft lf p.1=true/\∃e∈a.ed,e.1=p.1/\e.2.1=p.2
theorem Qn0 {lf:Lf}{out:xD}{e:Ed}(h:QmC a lf out)(I:e∈a.ed):QmC a lf (Js ul lf out e)/\(Js ul lf out e).length<=out.length+1:=by
 unfold Js;split
 ·exact⟨h,oa⟩
 rename_i hc;split
 ·exact⟨h,oa⟩
 refine⟨λp G=>?_,oe⟩;simp only[oZ,oH]at G;rcases G with G|rfl
 ·exact h p G
 exact⟨by cases hl:lft lf e.1 with|true=>rfl|false=>exact O1 (.inl hl) hc,e,I,rfl,rfl⟩
theorem yN {a:Qz}{ul:LI}{lf:Lf}:∀(l:List Ed) (out:xD),(∀e∈l,e∈a.ed)->QmC a lf out->QmC a lf (l.foldl (Js ul lf) out)/\(l.foldl (Js ul lf) out).length<=out.length+l.length
 | [],out,_,h=>⟨h,oe⟩
 | e::l,out,hl,h=>by
  obtain⟨h1,h2⟩:=Qn0 (ul:=ul) h (hl e Lj);obtain⟨G,J⟩:=yN l _ (λe I=>hl e (Lh _ I)) h1;exact⟨G,by rw[LP,LS];omega⟩
theorem QbO (a:Qz)(ul:LI)(lf:Lf):QmC a lf (lost a ul lf)/\(lost a ul lf).length<=a.ed.length:=by
 have:=yN (ul:=ul) (lf:=lf) a.ed [] (λ_ h=>h) (λp G=>by cases G);unfold lost;simpa using this
theorem qg (lf:Lf):∀(l:LI) (i:Nat),(∀x∈JN lf i l,lft lf x=true/\(i:Int)<=x/\x<(i:Int)+l.length)/\(JN lf i l).length<=l.length
 | [],i=>⟨λx hx=>(by cases hx),Lr _⟩
 | d::l,i=>by
  obtain⟨h1,h2⟩:=qg lf l (i+1);unfold JN;split
  ·rename_i hc;refine⟨λx hx=>?_,by simp;omega⟩;rcases Ll.1 hx with rfl|hx
   ·exact⟨by unfold lft;simpa using hc.1,Ms _,by simp;omega⟩
   have:=h1 x hx;exact⟨this.1,oa,by simp only[oS];omega⟩
  refine⟨λx hx=>?_,by simp;omega⟩;have:=h1 x hx;exact⟨this.1,oa,by simp only[oS];omega⟩
theorem Qkq {lf:Lf}(x:Int)(hx:x∈nxs a ul lf):lft lf x=true:=by
 unfold nxs at hx;split at hx
 ·obtain⟨p,G,rfl⟩:=Lt.1 hx;exact((QbO a ul lf).1 p G).1
 exact((qg lf (dsts a lf) 0).1 x hx).1
theorem QhT {f:Nat}{lf:Lf}(h:(nxs a ul lf).length=0):Vj a ul f lf=lf:=by
 cases f with
 | zero=>rfl
 | succ f=>rw[Vj,OZ h]
theorem Qav {f:Nat}{lf:Lf}(h:(nxs a ul lf).length≠0):Vj a ul (f+1) lf=Vj a ul f ((nxs a ul lf).foldl cut lf):=by rw[Vj,OY h]
theorem Qdk {lf:Lf}(h:(nxs a ul lf).length≠0):V0 ((nxs a ul lf).foldl cut lf)<V0 lf:=QlU oa (λx hx=>Qkq x hx)
theorem Kp (h:QL a)(lf:Lf):QL (rstr a lf):=
 ⟨h.al,h.ali,h.st0,h.st1,h.mr,h.mri,λe G=>h.ed e (LB.1 G).1,h.edi.filter _⟩
structure PI (w0:O6)(b4 b7 b10 b11 bS n:Nat)(gc:LV)(pf:O7)(bi i:Nat)(vs:O7)(st:List Ed)(W:O6):Prop where
 stp:sW w0 W
 B4:QN ↑W b4 304 gc
 B7:QN ↑W b7 275 [pf]
 B10:QN ↑W b10 356 [vs]
 B11:QN ↑W b11 301 [sL bS n n]
 BS:QN ↑W bS 4 ((flg n (Uv st)).map Value.bool)
 BI:QN ↑W bi 3 [sS i]
 R:Ye 355 ↑w0 W vs st
 ne:∀b∈ob vs,b≠b4/\b≠b7/\b≠b10/\b≠b11/\b≠bS/\b≠bi
theorem PI.I {I:O6}{J O b10 b11 bS n:Nat}{gc:LV}{pf:O7}{bi i:Nat}{vs:O7}{st:List Ed}{W W':O6}(h:PI I J O b10 b11 bS n gc pf bi i vs st W)(G:sW W W'):PI I J O b10 b11 bS n gc pf bi i vs st W' :=
 ⟨h.stp.D G,h.B4.I G,h.B7.I G,h.B10.I G,h.B11.I G,h.BS.I G,h.BI.I G,Qm h.R G,h.ne⟩
theorem PI.stb {I:O6}{J O b10 b11 bS:Nat}{gc:LV}{pf:O7}{bi:Nat}{st:List Ed}(U:↑I<=B):Yf B (λW=>PI I J O b10 b11 bS n gc pf bi i vs st W):=λW W' X h G hX =>
 ⟨Yf.J U W W' X h.stp G hX,Yf.blk W W' X h.B4 G hX,Yf.blk W W' X h.B7 G hX,Yf.blk W W' X h.B10 G hX,Yf.blk W W' X h.B11 G hX,Yf.blk W W' X h.BS G hX,Yf.blk W W' X h.BI G hX,Yf.row W W' X h.R G hX,h.ne⟩
def K5 (lo hi:Nat)(ds:LN)(W:O6):Prop:=ds.Nodup/\∀D∈ds,lo<=D/\D<hi/\W.heap[D]?=some (.deferred (some []))
theorem K5.J {lo hi:Nat}{W:O6}(h:K5 lo hi ds W)(J:xd X W W')(hX:∀b∈X,∃o:Obj,W.heap[b]?=some o/\o.isCells=true):K5 lo hi ds W':=by
 refine⟨h.1,λD hD=>⟨(h.2 D hD).1,(h.2 D hD).2.1,?_⟩⟩;have G:=(h.2 D hD).2.2;refine(J.block D (LM.1 G).1 (λhx=>?_)).D G;obtain⟨o,I,O⟩:=hX D hx;rw[G]at I;cases I;cases O
theorem K5.I {lo hi:Nat}{W:O6}(h:K5 lo hi ds W)(G:sW W W'):K5 lo hi ds W':=h.J G (λ_ hb=>by cases hb)
theorem K5.blk {lo hi:Nat}{W:O6}{b:Nat}(h:K5 lo hi ds W)(G:xd [b] W W')(hb:QN ↑W b T cs):K5 lo hi ds W' :=
 h.J G (λc hc=>by
  have e:c=b:=by simpa using hc
  subst e;exact hb.cells)
theorem K5.up {lo hi hi':Nat}{W:O6}(h:K5 lo hi ds W)(G:hi<=hi'):K5 lo hi' ds W:=⟨h.1,λD hD=>⟨(h.2 D hD).1,oq (h.2 D hD).2.1,(h.2 D hD).2.2⟩⟩
theorem K5.cons {lo hi:Nat}{W:O6}{D:Nat}(h:K5 lo hi ds W)(hl:lo<=hi)(hD:hi<=D)(hd:W.heap[D]?=some (.deferred (some []))):K5 lo ↑W (D::ds) W:=by
 have G:=(LM.1 hd).1;refine⟨List.nodup_cons.2 ⟨λI=>oq (h.2 D I).2.1,h.1⟩,λE hE=>?_⟩;rcases Ll.1 hE with rfl|hE
 ·exact⟨oa,G,hd⟩
 have:=h.2 E hE;exact⟨this.1,(LM.1 this.2.2).1,this.2.2⟩
theorem K5.stb {lo hi:Nat}(J:hi<=B):Yf B (λW=>K5 lo hi ds W):=λW W' X h I hX=>by
 refine⟨h.1,λD hD=>⟨(h.2 D hD).1,(h.2 D hD).2.1,?_⟩⟩;have G:=(h.2 D hD).2.2;refine(I.block D (LM.1 G).1 (λhx=>?_)).D G;have:=(hX D hx).1;have:=(h.2 D hD).2.1;omega
theorem K5.own {lo hi:Nat}{W:O6}{e:Nat}{v:O7}(h:K5 lo hi ds W)(G:W.ownsRow base e sz v n cs):∀b∈ob v,b∉ds:=λb hb hd=>by
 obtain⟨o,h1,h2⟩:=Go.Lg.Q8 G b hb;rw[(h.2 b hd).2.2]at h1;cases h1;cases h2
theorem K5.rst {lo hi:Nat}{W:O6}(h:K5 lo hi ds W)(G:X9 B L W W'):K5 lo hi ds W':=⟨h.1,λD hD=>⟨(h.2 D hD).1,(h.2 D hD).2.1,G.other D _ (h.2 D hD).2.2 Z⟩⟩
theorem PI.add {I:O6}{J O b10 b11 bS:Nat}{gc:LV}{pf:O7}{bi:Nat}{v:O7}{st:List Ed}{x:Ed}{W W1 W2 W3 W4:O6}{L0:LN}(h:PI I J O b10 b11 bS n gc pf bi i v st W)
  (hd:bS≠J/\bS≠O/\bS≠b10/\bS≠b11/\bS≠bi/\b10≠J/\b10≠O/\b10≠b11/\b10≠bi) (hB:B<=↑W) (ha:↑I<=bS) (he:↑I<=b10) (hk:J<↑W/\O<↑W/\b11<W.heap.size/\bi<↑W)
  (h1:xd [bS] W W1) (hS:QN ↑W1 bS 4 ((flg n (Uv (st++[x]))).map Value.bool)) (h2:sW W1 W2) (U:xd (ob v) W2 W3) (hR:Ye 355 ↑I W3 v' (st++[x])) (Y:∀b∈ob v',b∈ob v\/↑W2<=b)
  (V:xd [b10] W3 W4) (hf:QN ↑W4 b10 356 [v']) (hv:∀b∈ob v,b∈L0\/B<=b):
  PI I J O b10 b11 bS n gc pf bi i v' (st++[x]) W4/\X9 B (bS::b10::L0) W W4/\(∀b∈ob v',b∈L0\/B<=b):=by
 have ho:=h1.size;have hp:=h2.size;have hq:=U.size;have hr:=h.BS.lt;have hs:=h.B10.lt;have key:∀b T cs,QN ↑W b T cs->b≠bS->b∉ob v->b≠b10->QN ↑W4 b T cs:=λb T cs hb e1 e2 e3=>(((hb.J h1 (ox e1)).I h2).J U e2).J V (ox e3);have G:=h.ne;have nin:∀b,(∀c∈ob v,c≠b)->b∉ob v:=λb hb hm=>hb b hm Z;have hg:b10∉ob v:=nin _ λc hc=>(G c hc).2.2.1;have hh:bS∉ob v:=nin _ λc hc=>(G c hc).2.2.2.2.1;have hj:W2.ownsRow ↑I 355 3 v st.length (st.flatMap Qp):=Qm (Qg h.R h1 (λb hb=>by have:=(G b hb).2.2.2.2.1;simpa using this)) h2;have hge:∀b∈ob v',b≠J/\b≠O/\b≠b10/\b≠b11/\b≠bS/\b≠bi:=λb hb=>by
  rcases Y b hb with hb|hb
  ·exact G b hb
  omega
 refine⟨⟨?_,key _ _ _ h.B4 hd.1.symm (nin _ λc hc=>(G c hc).1) hd.2.2.2.2.2.1.symm,key _ _ _ h.B7 hd.2.1.symm (nin _ λc hc=>(G c hc).2.1) hd.2.2.2.2.2.2.1.symm,hf,
  key _ _ _ h.B11 hd.2.2.2.1.symm (nin _ λc hc=>(G c hc).2.2.2.1) hd.2.2.2.2.2.2.2.1.symm,((hS.I h2).J U hh).J V (by have:=hd.2.2.1;simpa using this),key _ _ _ h.BI hd.2.2.2.2.1.symm (nin _ λc hc=>(G c hc).2.2.2.2.2) hd.2.2.2.2.2.2.2.2.symm,
  Qg hR V (λb hb=>by have:=(hge b hb).2.2.1;simpa using this),hge⟩,?_,λb hb=>?_⟩
 ·exact(((h.stp.O h1 ha).D h2).Z U (λb hb=>.inr (Qi h.R b hb).1)).O V he
 ·have r1:X9 B (bS::b10::L0) W W1:=X9.blk h1 hB h.BS (.inl oe);have r2:X9 B (bS::b10::L0) W1 W2:=X9.I h2 oa;have r3:X9 B (bS::b10::L0) W2 W3:=X9.J U oa (λb hb=>⟨(hv b hb).imp (λh=>by simp[h]) id,Go.Lg.Q8 hj b hb⟩);have r4:X9 B (bS::b10::L0) W3 W4:=X9.blk V oa ((((h.B10.J h1 (by have:=hd.2.2.1;simpa using this.symm)).I h2).J U hg)) (.inl oe);exact((r1.D r2).D r3).D r4
 rcases Y b hb with hb|hb
 ·exact hv b hb
 exact .inr oa
theorem je {l:LI}{x:Int}(I:0<=x)(h1:x<(n:Int)):((flg n l).map Value.bool)[0+x.toNat*1]?=some (.bool (decide (x∈l))):=by
 have G:x.toNat<(flg n l).length:=by rw[U6];omega
 have e:((x.toNat:Nat):Int)=x:=oa
 simp only[Ob,OV,List.getElem?_map,oX G,OJ,Qb4,e]
theorem QnA {bF from0 gw:Nat}{fw fp:Func}[Fu sV gw fw][Fu sV gp fp]{cw cp:LV}{wt:Int->Bool}
  (hA:Zv [] ↑w va vm ve a) (hn:a.st=(n:Int)) (kr:n<=4096) (kt:∀e∈a.ed,0<=e.2.2/\e.2.2<(n:Int)) (ku:a.ed.Pairwise λx y=>x.1<=y.1) (kv:QN ↑w bF 3 ((gA (n+1) (fS a.ed)).map (Value.int .i64))) (hf:from0<n)
  (kw:∀(s:Int) (w':O6),0<=s->s<(n:Int)->sW w w'->QT sV gw (sS s::cw) w' λr hS=>r=.bool (wt s)/\sW w' hS)
  (kx:∀(e:Ed) (w':O6),e∈a.ed->sW w w'->QT sV gp (sT (Qp e)::cp) w' λr hS=>r=.bool (pm e)/\sW w' hS):
  QT sV 199 [.agg #[va,sS a.st,vm,ve,sL bF (n+1) (n+1)],sS from0,.func (.func gw) #[] cw.toArray,.func (.func gp) #[] cp.toArray] w λr w' =>
   sW w w'/\∃v,r=.tuple #[v,.bool (pth wt pm a.ed n from0).2]/\Qh 3 ↑w w' v (pth wt pm a.ed n from0).1:=by
 refine QT.of_G 3 func199 Z ntmps199 results199 oe ?_;refine QQ<|Qy ol ol<|Zd [va,sS a.st,vm,ve,sL bF (n+1) (n+1)] λb4 w1 kz z2 hT=>Zd [.func (.func gp) #[] cp.toArray] λb7 w2 k0 z3 gm=>x Qe<|Qb<|QQ<|Qy ol ol<|Qa<|x (QD ⟨Z,Z,Z,La⟩)<|Qo<|Q3 [[sS from0,sS (-1),sS (-1)]] λbL w3 gn z4 gq =>
  QV [nS] λb10 w4 hU z5 gr=>Qo<|Qv (u:=sL bL 1 1) gr Z Z oh Z λw5 hE hF=>xe ?_
 have hl4:=hT.lt;have hl7:=gm.lt;have hlL:=gq.lt;have hl10:=gr.lt;have hz5:=hE.size;have hV:sW w1 w5:=((k0.D gn).D hU).O hE oa;have k4:sW w2 w5:=(gn.D hU).O hE oa;have k5:sW w3 w5:=hU.O hE oa;refine QQ<|Qy ol ol<|Q9 Z<|Qs Z (hT.I hV) Z Z<|Qo<|Y5 (n:=n) (O0 sS hn) (O0 sS hn) oa λbS w6 k6 hbS gs=>QV [nS] λb11 w7 gt hb11 gu =>
  Qo<|Qv (u:=sL bS n n) gu Z Z oh Z λw8 hW gv=>xe ?_
 have hlS:=gs.lt;have hl11:=gu.lt;have hz8:=hW.size;have h6:sW w5 w8:=(k6.D gt).O hW oa;have k9:sW w6 w8:=gt.O hW oa;have ma:QN ↑w6 bS 4 ((flg n []).map Value.bool):=by
  have e:(oI n (Value.bool false).cells.toList).flatten=(flg n []).map Value.bool:=by
   simp only[flg,oJ,decide_false,List.map_map];apply L5
   ·simp[Value.cells]
   intro i h1 h2;simp[Value.cells]
  rw[<-e];exact gs
 refine QQ<|Qy ol ol<|ZD gv Z Z<|Qa<|x (QE (i:=from0) Z Z hf)<|Qo<|Qv (j:=0+from0*1) (u:=.bool true) (ma.I k9) Z Z (by rw[Lo,U6];omega) Z λw9 hq mc=>xe ?_;have hz9:=hq.size;have mf:QN ↑w9 bS 4 ((flg n [(from0:Int)]).map Value.bool):=by
  have e1:=z6 (n:=n) (l:=[]) (x:=(from0:Int)) oa;rw[MC]at e1;rw[<-e1,NI];simpa using mc
 refine QQ<|QQ<|Qy ol ol<|QV [sS 0] λgx w10 mg mh gy=>Qo<|Qv (u:=sS 0) gy Z Z oh Z λhG gz mj=>xe ?_;have hl12:=gy.lt;have hz11:=gz.size;have hr:sW w9 hG:=mg.O gz mh;have mo:sW w hG:=(((kz.D hV).D h6).O hq oa).D hr;have mq:PI w b4 b7 b10 b11 bS n [va,sS a.st,vm,ve,sL bF (n+1) (n+1)] (.func (.func gp) #[] cp.toArray) gx 0 (sL bL 1 1) [((from0:Int),-1,-1)] hG:=by
  refine⟨mo,(((hT.I hV).I h6).J hq (by simp;omega)).I hr,(((gm.I k4).I h6).J hq (by simp;omega)).I hr,((hF.I h6).J hq (by simp;omega)).I hr,
   (gv.J hq (by simp;omega)).I hr,mf.I hr,mj,?_,λb hb=>?_⟩
  ·have ms:=(((gq.I k5).I h6).J hq (by simp;omega)).I hr;exact ms.own (n:=1) (sz:=3) Z oa oa
  have e:b=bL:=by simpa[ob]using hb
  subst e;omega
 refine ZL<|K3 (α:=Nat×Nat×Nat×O7×List Ed) [(8,9),(12,15),(26,68),(70,94)] (λz=>[(12,.pointer (some ⟨z.2.1,0,none⟩))])
  (λz ds W=>PI w b4 b7 b10 b11 bS n [va,sS a.st,vm,ve,sL bF (n+1) (n+1)] (.func (.func gp) #[] cp.toArray) z.2.1 z.1 z.2.2.2.1 z.2.2.2.2 W/\jO n z.2.2.2.2/\K5 ↑w ↑W ds W/\hG.heap.size<=↑W /\
   (z.2.1≠b4/\z.2.1≠b7/\z.2.1≠b10/\z.2.1≠b11/\z.2.1≠bS)/\↑w<=z.2.1/\z.1<=z.2.2.2.2.length/\n+1<=z.2.2.1+z.1/\yz wt pm a.ed z.2.2.1 z.1 z.2.2.2.2=pth wt pm a.ed n from0)
  (λz=>n+1 - z.1) ol (0,gx,n+1,sL bL 1 1,[((from0:Int),-1,-1)]) Lb
  ⟨mq,QjT hf,⟨MB,λ_ h=>by cases h⟩,Lr _,og,og,oe,oe,rfl⟩ ?_
 rintro⟨i,bi,fu,vs,st⟩ g ds hH ⟨hP,hok,h7,hz12,mt,mu,mv,mw,U⟩;simp only[]at hP hok h7 mt mu mv mw U;have hstl:=hok.le;refine QQ<|QQ<|Qy ol ol<|ZD hP.BI Z Z<|ZD hP.B10 Z Z<|QG (QO (L:=[]) hP.R oa oe) rfl<|ZT rfl rfl<|xe<|qm rfl (λhX=>?_) (λhX=>?_)
 ·refine JQ ?_;have my:¬i<st.length:=by have mz:¬(i:Int)<(st.length:Int):=hX;omega
  rw[QhY my]at U;refine QQ<|Qy ol ol<|x Qe<|Qb<|Ka ⟨λD hD=>(h7.2 D hD).2.2,h7.1,[nS,.bool false],λw' hI=>⟨oy,hP.stp.Z hI (λD hD=>.inr (h7.2 D hD).1),_,by rw[<-U];rfl,?_⟩⟩;rw[<-U];exact QM _ _ _ _
 have hu:i<st.length:=by have mz:(i:Int)<(st.length:Int):=hX;omega
 refine Exists.elim (Nu (show fu≠0 by omega)) λm0 hY=>?_;subst hY;rw[yz,OZ hu]at U;have hZ:=hok.rg _ (QqR hu);have hge:=QgY hu;refine Zg (gE st i) λs0 hs0=>?_;rw[hs0]at U hZ hge;refine Yd<|QQ<|ZL<|QQ<|QQ<|Qy ol ol<|Qa<|ZD hP.B10 Z Z<|ZD hP.BI Z Z<|xie (i:=i) (QO (L:=[]) hP.R oa oe) rfl rfl hu λa35 g0=>?_;rw[hge]at g0;refine x (ZB Z)<|x (Qq (g0.fld 0 (sS s0.1) Z) Z)<|Qo<|xc (first:=[]) (capt:=cw) Z<|(kw s0.1 _ hZ.1 hZ.2 hP.stp).S ?_;rintro r13 hk ⟨rfl,ga⟩;have hz13:=ga.size;have ho:=hP.I ga;have g2:=h7.I ga;refine xe<|K4 rfl (λgb=>?_) (λgb=>?_)
 ·rw[OZ gb]at U;have m1:K5 ↑w ↑hH ds hk:=g2;refine QQ<|Qy ol ol<|Qb<|QQ<|QQ<|Qy ol ol<|ZD ho.BI Z Z<|Qb<|ZL<|K3 (α:=Nat×Nat×O7×LI) [(13,14),(40,58)] (λz=>[(13,z.2.2.1),(14,sS z.2.1)])
   (λz g3 W=>g3=ds/\sW hk W/\K5 ↑w ↑hH ds W/\z.2.1<z.1/\z.2.1<st.length/\Qh 3 ↑hk W z.2.2.1 z.2.2.2/\z.2.2.2.length+z.1<=i+1/\z.2.2.2++wrd st z.1 z.2.1=wrd st (i+1) i)
   (λz=>z.1) ol (i+1,i,nS,[]) oy ⟨Z,xd.C _ _,m1,oe,hu,QM _ _ _ _,oe,rfl⟩ ?_
  rintro⟨f,k,v,acc⟩ g g3 hh ⟨rfl,h8,hJ,m2,h0,hv,m3,hw⟩;simp only[]at m2 h0 hv m3 hw;refine Exists.elim (Nu (show f≠0 by omega)) λf' hY=>?_;subst hY;rw[wrd]at hw;have hK:=QgY h0;have m4:=hok.par k h0;refine Zg (gE st k) λs1 m5=>?_;rw[m5]at hw hK m4;have O:=ho.I h8;have m6:=h8.size;refine QQ<|QQ<|Qy ol ol<|ZD O.B10 Z Z<|Qa<|xie (i:=k) (QO (L:=[]) O.R oa oe) rfl rfl h0 λa42 g4=>?_;rw[hK]at g4;refine x (ZB Z)<|x (Qq (g4.fld 1 (sS s1.2.1) Z) Z)<|x (Yn Z Z)<|xe<|qm Z (λgc=>?_) (λgc=>?_)
  ·refine JQ ?_;rw[OY gc,LK]at hw;refine QQ<|Qy ol ol<|Qa<|Vc<|(jN hv oa).S ?_;rintro r15 g5 ⟨g6,ha⟩;have hL:=hJ.J ha (Go.Lg.Q8 hv);refine xe<|QQ<|Qy ol ol<|Qa<|x Qe<|Qb<|Ka ⟨λD hD=>(hL.2 D hD).2.2,hL.1,[v,.bool true],λw' hI=>⟨oy,?_,v,by rw[<-U];rfl,?_⟩⟩
   ·exact((O.stp).Z ha (λb hb=>.inr (oq (Qi hv b hb).1))).Z hI (λD hD=>.inr (hL.2 D hD).1)
   rw[<-U,<-hw];exact Za (Qg g6 hI (hL.own g6)) oa
  rw[OZ gc]at hw;refine Yd<|QQ<|ZL<|Qy ol ol<|Qa<|ZD O.B10 Z Z<|Qa<|xie (i:=k) (QO (L:=[]) O.R oa oe) rfl rfl h0 λa54 g7=>?_;rw[hK]at g7;refine x (ZB Z)<|x (Qq (g7.fld 2 (sS s1.2.2) Z) Z)<|Qo<|Q3 [[sS s1.2.2]] λb57 h9 J hb57 m7=>Qo<|Q0 (m:=1) (news:=[sS s1.2.2]) (Qm hv J) Z Z Z (m7.at (L:=[]) oe) oo oa (oq J.size) λm8 g8 m9 hy hn17 =>
   Qb ?_
  have g9:sW hk g8:=(h8.D J).Z hy (λb hb=>.inr (Qi hv b hb).1);have ka:=ho.I g9;have pc:=(hJ.I J).J hy (Go.Lg.Q8 (Qm hv J));refine Qy ol ol<|ZD ka.B10 Z Z<|Qa<|xie (i:=k) (QO (L:=[]) ka.R oa oe) rfl rfl h0 λa48 kb=>?_;rw[hK]at kb;refine x (ZB Z)<|x (Qq (kb.fld 1 (sS s1.2.1) Z) Z)<|Qb ?_;have pd:s1.2.1=(s1.2.1.toNat:Int):=oa
  refine⟨(f',s1.2.1.toNat,m8,acc++[s1.2.2]),og,⟨Z,O0 sS pd,La⟩,Z,g9,pc,og,og,Qh.snoc m9,?_,?_⟩
  ·simp only[oO,oL];omega
  rw[LC];exact hw
 rw[OY (by rw[gb];decide)]at U;have kc:s0.1=(s0.1.toNat:Int):=oa
 refine Yd ?_;have pf:sW hk { hk with drawn:=hk.drawn+1 }:=xd.Y _ _
 refine QQ<|Ut (sW hk) [oB 0,oB 1,oB 2,oB 3,oB 4,oB 5,oC 6] mixed ol ol od (xd.Y _ _) ?_;refine pq (λ_ hc=>Zj (ho.B4.I hc) Z Z)<|pq (λ_ hc=>Qj (ho.B10.I hc) Z Z)<|pq (λ_ hc=>Qj (ho.BI.I hc) Z Z) <|
  pie (i:=i) Z (QO (L:=[]) ho.R oa oe) rfl rfl hu λa65 ke=>?_
 rw[hge]at ke;refine p (λ_=>ZB Z)<|pq (λ_ hc=>Qq ((ke.fld 0 (sS s0.1) Z).I hc) Z)<|pk<|xf<|(QlE (va:=va) (vm:=vm) (ve:=ve) (vf:=sL bF (n+1) (n+1)) (st:=a.st) (s:=s0.1)).S ?_;rintro r18 hh ⟨h8,b1,b2,rfl,hb1,hb2,pg,kf⟩;have hM:=pf.D h8;refine⟨hM,pe ?_⟩;have O:=ho.I hM;have hJ:K5 ↑w ↑hH ds hh:=g2.I hM;have m6:=hM.size;have ph:qn (bS::b10::ob vs) ↑hh ve a.ed:=by
  refine(hA.ed.up (L':=bS::b10::ob vs) (λb hb=>.inr ?_)).J O.stp (λ_ hb=>by cases hb);rcases Ll.1 hb with rfl|hb
  ·omega
  rcases Ll.1 hb with rfl|hb
  ·omega
  exact(Qi O.R b hb).1
 rw[kc]at kf;have pn:w.heap.size<=hh.heap.size:=O.stp.size;have ge:bS≠b4/\bS≠b7/\bS≠b10/\bS≠b11/\bS≠bi/\b10≠b4/\b10≠b7/\b10≠b11/\b10≠bi:=oa
 have hqS:=O.BS.lt;have hqi:=O.BI.lt;refine ZL<|QhF (α:={ e:Ed // e∈a.ed }) (bS::b10::ob vs) oa (capt:=[sP b1,sP b2]) Z (enc:=λx=>sT (Qp x.1)) oh
  (Qfr pg kf (kv.I O.stp) ph ku oa kr)
  (λpre W=>∃v,PI w b4 b7 b10 b11 bS n [va,sS a.st,vm,ve,sL bF (n+1) (n+1)] (.func (.func gp) #[] cp.toArray) bi i v ((pre.map (·.1)).foldl (X0 pm i) st) W/\jO n ((pre.map (·.1)).foldl (X0 pm i) st)/\i<((pre.map (·.1)).foldl (X0 pm i) st).length /\
   (∀b∈ob v,b∈ob vs\/↑hh<=b)/\K5 ↑w ↑hH ds W/\hh.heap.size<=↑W)
  (λpre=>Yf.ex λv=>(PI.stb pn).and ((Yf.pure _).and ((Yf.pure _).and ((Yf.pure _).and ((K5.stb oa).and (λW W' X h hs _=>LA h hs.size))))))
  ⟨vs,O,hok,hu,λb hb=>.inl hb,hJ,Lr _⟩
  (λf x f' W=>∃b,f'=upd (upd f 69 (sT (Qp x.1))) 15 (sP b)/\↑hh<=b/\QN ↑W b 179 (Qp x.1))
  (λx f'=>Yf.ex λb=>(Yf.pure _).and ((Yf.pure _).and Yf.blk)) ?_ ?_ ?_
 ·rintro l pre ⟨e,he⟩ W ⟨v,G,V,hg,h3,hz,h4⟩;refine Qy ol ol<|QV [sS 0,sS 0,sS 0] λb15 g5 ha kg h5=>Q6 (Qp e) h5 oz λh9 J po=>xe ?_;have hN:sW W h9:=ha.O J kg;have pp:=hN.size;exact⟨Z,X9.I hN h4,⟨v,G.I hN,V,hg,h3,hz.I hN,oa⟩,b15,Z,oa,po⟩
 ·rintro l pre ⟨e,he⟩ f' W ⟨v,G,V,hg,h3,hz,h4⟩ ⟨b15,rfl,kg,h5⟩ _;have hB:((pre++[(⟨e,he⟩:{ e:Ed // e∈a.ed })]).map (·.1)).foldl (X0 pm i) st=X0 pm i ((pre.map (·.1)).foldl (X0 pm i) st) e:=by rw[Lv,Mw];rfl
  refine Zg ((pre.map (·.1)).foldl (X0 pm i) st) λI gg=>?_;rw[gg]at G V hg hB;have hO:=kt e he;have gh:e.2.2=(e.2.2.toNat:Int):=oa
  have gi:=Qhv (pm:=pm) V hg hO;have hQ:=je (l:=Uv I) hO.1 hO.2;have pt:=V.le;have pp:=G.stp.size;refine ZL<|QQ<|Qy ol ol ?_;by_cases hR:e.2.2∈Uv I
  ·rw[O2 hR]at hQ;have hC:X0 pm i I e=I:=by unfold X0;rw[OY (λh=>h.1 hR)]
   refine ZD G.B11 Z Z<|Qs Z h5 Z Z<|x (QE (i:=e.2.2.toNat) Z (O0 sS gh) oa)<|ZD G.BS Z hQ<|x (Zi Z)<|x Vk <|
    Zs<|QB rfl<|xe ?_
   refine Kc Z<|Yd ?_;refine⟨X9.refl _ _ _,v,?_⟩;rw[hB,hC];exact⟨G,V,hg,h3,hz,h4⟩
  rw[O4 hR]at hQ;refine ZD G.B11 Z Z<|Qs Z h5 Z Z<|x (QE (i:=e.2.2.toNat) Z (O0 sS gh) oa)<|ZD G.BS Z hQ<|x (Zi Z)<|x Vk <|
   ZD G.B7 Z Z<|Q7 h5 Z Z<|Qo<|xc (first:=[]) (capt:=cp) Z<|(kx e _ he G.stp).S ?_
  rintro r19 g5 ⟨rfl,ha⟩;refine QB Z<|xe ?_;have hj:=G.I ha;have hz15:=ha.size;refine K4 Z (λhp=>?_) (λhp=>?_)
  ·have hC:X0 pm i I e=I++[(e.2.2,(i:Int),e.2.1)]:=by unfold X0;rw[OZ ⟨hR,hp⟩]
   rw[hC]at hB gi;have kh:=h5.I ha;refine QQ<|Qy ol ol<|ZD hj.B11 Z Z<|Qs Z kh Z Z<|x (QE (i:=e.2.2.toNat) Z (O0 sS gh) oa)<|Qo<|Qv (j:=0+e.2.2.toNat*1) (u:=.bool true) hj.BS Z Z (by rw[Lo,U6];omega) Z λh9 J pu=>xe ?_;have pw:QN ↑h9 bS 4 ((flg n (Uv (I++[(e.2.2,(i:Int),e.2.1)]))).map Value.bool):=by
    have e1:=z6 (n:=n) (l:=Uv I) hO.1;have e2:Uv (I++[(e.2.2,(i:Int),e.2.1)])=Uv I++[e.2.2]:=by unfold Uv;rw[Lv];rfl
    rw[e2,<-e1,NI];simpa using pu
   have hz16:=J.size;have hF:=hj.B10.J J (by have:=ge.2.2.1;simpa using this.symm);have pz:=hj.BI.J J (by have:=ge.2.2.2.2.1;simpa using this.symm);have p0:Ye 355 ↑w h9 v I:=Qg hj.R J (λb hb=>by have:=(hj.ne b hb).2.2.2.2.1;simpa using this);have ki:=kh.J J (by simp;omega);refine Qy ol ol<|ZD hF Z Z<|Qs Z ki Z Z<|ZD pz Z Z<|Qs Z ki Z Z<|x (QD ⟨Z,Z,Z,La⟩) <|
    Qo<|Q3 [[sS e.2.2,sS i,sS e.2.1]] λb92 g8 hy hb92 p4 =>
    Qo<|Q0 (m:=1) (news:=[sS e.2.2,sS i,sS e.2.1]) (Qm p0 hy) Z Z Z (p4.at (L:=[]) oe) oo oa (oq hy.size) λkj w18 kk kn p5=>?_
   have p6:b10∉ob v:=λhm=>(hj.ne b10 hm).2.2.1 Z;refine Qo<|Qv (u:=kj) ((hF.I hy).J kn p6) Z Z oe (QO (L:=[]) kk oa oe).one λp7 p8 p9=>xe ?_;have gj:=hj.add (B:=↑hh) (L0:=ob vs) ge oa oa oa ⟨oa,oa,oa,oa⟩ J pw hy kn (Ye.snoc kk) p5 p8 p9 h3;have gk:X9 ↑hh (bS::b10::ob vs) W p7:=(X9.I ha h4).D gj.2.1;have hzf:=gk.lw.size;refine⟨gk,kj,?_⟩;rw[hB];exact⟨gj.1,gi.1,gi.2,gj.2.2,hz.rst gk,oa⟩
  have hC:X0 pm i I e=I:=by unfold X0;rw[OY (λh=>by rw[hp]at h;exact O1 h.2 oh)]
  refine Yd<|⟨X9.I ha h4,v,?_⟩;rw[hB,hC];exact⟨hj,V,hg,h3,hz.I ha,oa⟩
 rintro D xs W hD qf ⟨v,G,V,hg,h3,hz,h4⟩ qj;rw[qf,<-kc]at G V hg;refine Zg ((QK a.ed s0.1).foldl (X0 pm i) st) λI gg=>?_;rw[gg]at G V hg U;have pt:=V.le;have ql:=hz.cons oa oa qj;refine QQ<|QQ<|Qy ol ol<|ZD G.BI Z Z<|xe<|Qy ol ol<|QV [sS 0] λbj w20 q4 ko q5=>Qo<|Qv (u:=sS i) q5 Z Z oe rfl λw21 j1 kq=>xe ?_;refine Qy ol ol<|ZD kq Z Z<|QC Z Z<|Qo<|Qv (u:=sS ((i:Int)+1)) kq Z Z oe rfl λj2 j3 j4=>xe ?_;have gl:sW W j2:=(q4.O j1 ko).O j3 ko;have za:=gl.size;have Y:=G.I gl;have z0:=(ql.I gl).up za;have z1:∀b∈ob v,b≠bj:=λb hb e=>oq (QW G.R b hb)
 refine⟨(i+1,bj,m0,v,I),og,Lb,⟨Y.stp,Y.B4,Y.B7,Y.B10,Y.B11,Y.BS,j4,Y.R,λb hb=>⟨(Y.ne b hb).1,(Y.ne b hb).2.1,(Y.ne b hb).2.2.1,(Y.ne b hb).2.2.2.1,(Y.ne b hb).2.2.2.2.1,z1 b hb⟩⟩,V,z0,oa,?_,og,hg,og,U⟩;have t4:=G.B4.lt;have t7:=G.B7.lt;have t10:=G.B10.lt;have t11:=G.B11.lt;have tS:=G.BS.lt;simp only[];omega
open Go.RowKit
def sl (d:xJ)(f:Fr):O7:=match d with|some d=>f d|none=>undef
def ow:O7->LN
 | .slice (some a) _ _=>[a.block]
 | .pointer (some a)=>[a.block]
 | .map (some b)=>[b]
 | _=>[]
def Fa (p:Nat->Prop):LN->Prop
 | []=>True
 | i::l=>p i/\Fa p l
theorem Fa.all {p:Nat->Prop}:∀{l:LN},Fa p l->∀i∈l,p i
 | [],_,_,hi=>by cases hi
 | j::l,h,i,hi=>by
  rcases Ll.1 hi with rfl|hi
  ·exact h.1
  exact Fa.all h.2 i hi
theorem Fa.of {p:Nat->Prop}:∀{l:LN},(∀i∈l,p i)->Fa p l
 | [],_=>trivial
 | i::_,h=>⟨h i Lj,Fa.of λj G=>h j (Lh _ G)⟩
def undup:List (Array Bool)->List (Array Bool)->List (Array Bool)
 | [],acc=>acc
 | x::l,acc=>if acc.contains x then undup l acc else undup l (x::acc)
theorem qt {x:Array Bool}:∀{l acc:List (Array Bool)},(x∈l\/x∈acc)->x∈undup l acc
 | [],acc,h=>h.elim (λh=>by cases h) id
 | y::l,acc,h=>by
  unfold undup;split
  ·rename_i hc;refine qt ?_;rcases h with h|h
   ·rcases Ll.1 h with e|h
    ·exact .inr (e ▸ List.contains_iff_mem.1 hc)
    exact .inl h
   exact .inr h
  refine qt ?_;rcases h with h|h
  ·rcases Ll.1 h with e|h
   ·exact .inr (e ▸ Lj)
   exact .inl h
  exact .inr (Lh _ h)
def alv (tk:Nat->LN)(opn:LN)(ls:Array Bool)(j:Nat):Bool:=ls.getD j false && opn.all λk=>!(ls.getD k false && (tk k).contains j)
def yS (all:Array Oper)(dp tk:Nat->LN)(opn fn nb:LN)(rest:xA):Nat->List (Array Bool)->Bool
 | 0,L=>L.all λls=>Xp all rest ls && fn.all λi=>opn.contains i && alv tk opn ls i
 | k+1,L=>(L.all λls=>!(Region.ready .any all ls).isEmpty && (Region.ready .any all ls).all λi=>opn.contains i && ((dp i).all λj=>opn.contains j && alv tk opn ls j) && ((tk i).all λj=>(dp i).contains j) && ((tk i).isEmpty || nb.all λj=>!ls.getD j false)) &&
  yS all dp tk opn fn nb rest k (undup (L.flatMap λls=>(Region.ready .any all ls).map λi=>ls.setIfInBounds i true) [])
def Qdg (all:xI)(D:xC):LN->Bool
 | []=>true
 | i::l=>(QR all i).guard.isNone && (match (QR all i).dst with|some d=>Kg D d && l.all (λj=>!((QR all j).dst == some d))|none=>false) && !l.contains i && Qdg all D l
theorem KT {all:xI}{D:xC}:∀{l:LN},Qdg all D l=true->(∀i∈l,(QR all i).guard=none/\∃d,(QR all i).dst=some d/\Kg D d=true)/\∀i∈l,∀j∈l,i≠j->(QR all i).dst≠(QR all j).dst
 | [],_=>⟨λ_ h=>(by cases h),λ_ h=>(by cases h)⟩
 | i::l,h=>by
  simp only[Qdg,oK,Option.isNone_iff_eq_none]at h;obtain⟨⟨⟨Y,hd⟩,hc⟩,hl⟩:=h;have ih:=KT hl;cases I:(QR all i).dst with
  | none=>rw[I]at hd;cases hd
  | some d =>
   rw[I]at hd;simp only[oK,Ou,Ol,beq_eq_false_iff_ne,ne_eq]at hd;have O:∀j∈l,(QR all j).dst≠some d:=λj G=>hd.2 j G;refine⟨λj G=>?_,λj G k U V=>?_⟩
   ·rcases Ll.1 G with rfl|G
    ·exact⟨Y,d,I,hd.1⟩
    exact ih.1 j G
   rcases Ll.1 G with hj1|hj1
   ·rcases Ll.1 U with hk1|hk1
    ·exact O1 (hj1.D hk1.symm) V
    rw[hj1,I];exact λe=>O k hk1 e.symm
   rcases Ll.1 U with hk1|hk1
   ·rw[hk1,I];exact O j hj1
   exact ih.2 j hj1 k hk1 V
def Qha (all:xI)(dp tk:Nat->LN)(pre:xA)(opn fn nb:LN)(rest:xA)(D:xC):Bool :=
 Region.noSelect all.toArray && (pre.length+(opn.length+rest.length) == all.length) && Jq all.toArray pre (oR all.length false) && Qdg all D opn && yS all.toArray dp tk opn fn nb rest opn.length [ZU pre (oR all.length false)]
  && opn.all λi=>!((ZU pre (oR all.length false)).getD i false)
theorem J7 {tk:Nat->LN}{opn:LN}{ls:Array Bool}(hi:i∈opn)(G:i<ls.size)(U:j≠i)(h:alv tk opn (ls.setIfInBounds i true) j=true):alv tk opn ls j=true/\j∉tk i:=by
 unfold alv at *;simp only[oK,Ou,Ol,Bool.and_eq_false_iff]at *;refine⟨⟨by rw[getD_set_ne false (Ne.symm U)]at h;exact h.1,λk I=>?_⟩,λV=>?_⟩
 ·by_cases O:k=i
  ·subst O;refine .inr ((h.2 k I).resolve_left λe=>?_);simp[Array.getD_eq_getD_getElem?,G]at e
  have:=h.2 k I;rw[getD_set_ne false (Ne.symm O)]at this;exact this
 rcases h.2 i hi with e|e
 ·simp[Array.getD_eq_getD_getElem?,G]at e
 rw[List.contains_iff_mem.2 V]at e;cases e
section
variable {all:xI}{C J:xF}
theorem jc {o:Oper}(h:o.guard=none):Yb all f o=true:=by unfold Yb;rw[h]
abbrev tkn (all:xI)(tk:Nat->LN)(i:Nat)(g:Fr):LN:=(tk i).flatMap λj=>ow (sl (QR all j).dst g)
theorem Qeh {α:Type}{N:Nat}{D:xC}{dp tk:Nat->LN}{opn fn nb:LN}{rest:xA}{Φ:Nat->O7->O6->Prop}{S:α->List (Nat×O7)}{I:α->O6->Prop}{f1:Fr}(hs:Region.noSelect all.toArray=true)(hop:Qdg all D opn=true)
  (h5:∀w,J w->C w) (h8:∀i∈opn,∀own w w',J w->xd own w w'->(∀b∈own,N<=b)->(tk i=[]->own=[])->J w') (hN:∀w,J w->N<=↑w) (stab:∀i∈opn,∀v own w w',Φ i v w->xd own w w'->(∀b∈ow v,b∉own)->(i∈nb->own=[])->Φ i v w')
  (h9:∀(g:Fr) w,Fa (λi=>Φ i (sl (QR all i).dst g) w) fn->(∀i∈fn,∀j∈fn,i≠j->∀b∈ow (sl (QR all i).dst g),b∉ow (sl (QR all j).dst g))->(∀i∈fn,∀b∈ow (sl (QR all i).dst g),N<=b)->∃z,Xd g (S z)/\I z w)
  (spec:Fa (λi=>∀g w,J w->Fa (λj=>Φ j (sl (QR all j).dst (mix D f1 g)) w) (dp i)->(∀j∈dp i,∀b∈ow (sl (QR all j).dst (mix D f1 g)),N<=b/\b<↑w)->XO P (QR all i) (mix D f1 g) w (λf' w'=>xd (tkn all tk i (mix D f1 g)) w w'/\Φ i (sl (QR all i).dst f') w'/\∀b∈ow (sl (QR all i).dst f'),(↑w<=b\/b∈tkn all tk i (mix D f1 g))/\b<↑w')) opn)
  (fin:∀z g w,J w->I z w->XP P all C K rest (Uc (S z) (mix D f1 g)) w):
  ∀(k:Nat) {L:List (Array Bool)} (_:yS all.toArray dp tk opn fn nb rest k L=true) (ls:Array Bool) (f:Fr) (w:O6),ls∈L->ls.size=all.length->J w->(∀t,Kg D t=false->f t=f1 t)->(∀i∈opn,alv tk opn ls i=true->Φ i (sl (QR all i).dst f) w) ->
   (∀i∈opn,alv tk opn ls i=true->(∀b∈ow (sl (QR all i).dst f),N<=b/\b<↑w)/\∀j∈opn,alv tk opn ls j=true->i≠j->∀b∈ow (sl (QR all i).dst f),b∉ow (sl (QR all j).dst f))->XA P all C K (k+rest.length) ls f w
 | 0,L,U,ls,f,w,hv,hw,hC,hf,hy,Y=>by
  simp only[yS,oK,Ou,List.contains_iff_mem]at U;have U:=U ls hv;obtain⟨z,h1,h2⟩:=h9 f w (Fa.of λi hi=>hy i (U.2 i hi).1 (U.2 i hi).2) (λi hi j G O=>(Y i (U.2 i hi).1 (U.2 i hi).2).2 j (U.2 j G).1 (U.2 j G).2 O) (λi hi b hb=>((Y i (U.2 i hi).1 (U.2 i hi).2).1 b hb).1);have h3:=fin z f w hC h2;rw[Vp hf,XQ h1]at h3;rw[LY];exact Yt hs rest ls f w hw (.inl (h5 _ hC)) U.1 h3
 | k+1,L,U,ls,f,w,hv,hw,hC,hf,hy,Y=>by
  simp only[yS,oK,Ou,List.contains_iff_mem,Bool.or_eq_true,Ol]at U;obtain⟨U,hgo⟩:=U;obtain⟨h4,U⟩:=U ls hv;rw[Nat.add_right_comm];refine J8 (λh0=>(by rw[h0]at h4;cases h4)) ?_;intro i hi o ho;obtain⟨⟨⟨V,ha⟩,hr⟩,hE⟩:=U i hi;obtain⟨hg,d,hd,hF⟩:=(KT hop).1 i V;have hsp:=Fa.all spec i V f w hC;rw[Vp hf]at hsp;have hsp:=hsp (Fa.of λj G=>hy j (ha j G).1 (ha j G).2) (λj G=>(Y j (ha j G).1 (ha j G).2).1);have hu:=ZF ho;have hh:i<ls.size:=by rw[hw];exact(Mm.1 (ox ho)).1
  rw[hu]at hg hd hsp;rw[jc hg,cond_true];refine hsp.S λv w' hx=>?_;have hT:∀b∈tkn all tk i f,∃j,j∈tk i/\b∈ow (sl (QR all j).dst f):=λb hb=>by
   obtain⟨j,G,hb⟩:=Mh.1 hb;exact⟨j,G,hb⟩
  have hA:=h8 i V _ w w' hC hx.1 (λb hb=>by
   obtain⟨j,G,hb⟩:=hT b hb;exact((Y j (ha j (hr j G)).1 (ha j (hr j G)).2).1 b hb).1) λe=>by rw[tkn,e];rfl
  have hz:=hx.1.size;have old:∀j∈opn,j≠i->sl (QR all j).dst (QP f o.dst v)=sl (QR all j).dst f:=λj G O=>by
   obtain⟨_,dj,hB,_⟩:=(KT hop).1 j G;have h4:o.dst≠some dj:=λe=>((KT hop).2) j G i V O (by rw[hB,hu];exact e.symm);rw[hB];exact Xe h4 v
  have apt:∀j∈opn,j≠i->alv tk opn (ls.setIfInBounds i true) j=true->∀b∈ow (sl (QR all j).dst f),b∉tkn all tk i f:=λj G O he b hb hm=>by
   obtain⟨h1,h2⟩:=J7 V hh O he;obtain⟨t,ht,h6⟩:=hT b hm;exact(Y j G h1).2 t (ha t (hr t ht)).1 (ha t (hr t ht)).2 (λe=>h2 (e ▸ ht)) b hb h6
  refine⟨.inr (.inr (h5 _ hA)),Qeh hs hop h5 h8 hN stab h9 spec fin k hgo _ _ _ (qt (.inl (Mh.2 ⟨ls,hv,Lt.2 ⟨i,hi,Z⟩⟩))) (ox hw) hA (λt ht=>?_) (λj G he=>?_) (λj G he=>⟨λb hb=>?_,λk hk h7 hD b hb hn=>?_⟩)⟩
  ·rw[Xe (by rw[hd];intro e;cases e;rw[hF]at ht;cases ht)];exact hf t ht
  ·by_cases O:j=i
   ·subst O;have h2:=hx.2.1;rw[hu];exact h2
   rw[old j G O];refine stab j G _ _ _ _ (hy j G (J7 V hh O he).1) hx.1 (apt j G O he) λhG=>?_;rcases hE with e|e
   ·rw[List.isEmpty_iff]at e;show(tk i).flatMap _=[];rw[e];rfl
   have h1:=(J7 V hh O he).1;unfold alv at h1;rw[e j hG]at h1;cases h1
  ·by_cases O:j=i
   ·subst O;rw[hu]at hb;refine⟨(hx.2.2 b hb).1.elim (λh=>LA (hN w hC) h) λh=>?_,(hx.2.2 b hb).2⟩;obtain⟨t,ht,h6⟩:=hT b h;exact((Y t (ha t (hr t ht)).1 (ha t (hr t ht)).2).1 b h6).1
   rw[old j G O]at hb;have:=(Y j G (J7 V hh O he).1).1 b hb;exact⟨this.1,oa⟩
  by_cases O:j=i
  ·subst O;have hq:k≠j:=Ne.symm hD;rw[old k hk hq]at hn;rw[hu]at hb;have h1:=((Y k hk (J7 V hh hq h7).1).1 b hn).2;rcases(hx.2.2 b hb).1 with h2|h2
   ·omega
   exact apt k hk hq h7 b hn h2
  rw[old j G O]at hb;have h1:=((Y j G (J7 V hh O he).1).1 b hb).2;by_cases hq:k=i
  ·subst hq;rw[hu]at hn;rcases(hx.2.2 b hn).1 with h2|h2
   ·omega
   exact apt j G O he b hb h2
  rw[old k hk hq]at hn;exact(Y j G (J7 V hh O he).1).2 k hk (J7 V hh hq h7).1 hD b hb hn
theorem jJ {Q:Exit->Fr->O6->Prop}(C J:xF)(N:Nat)(pre:xA)(dp tk:Nat->LN)(opn fn nb:LN)(rest:xA)(D:xC)(Φ:Nat->O7->O6->Prop)(S:α->List (Nat×O7))(I:α->O6->Prop)
  (hm:P.follows .mixedOrders=true) (hn:XG n all=true) (G:Qha all dp tk pre opn fn nb rest D=true) (hC:J { w with drawn:=w.drawn+1 }) (O:∀w,J w->C w) (ha:∀i∈opn,∀own w w',J w->xd own w w'->(∀b∈own,N<=b)->(tk i=[]->own=[])->J w') (hN:∀w,J w->N<=↑w) (stab:∀i∈opn,∀v own w w',Φ i v w->xd own w w'->(∀b∈ow v,b∉own)->(i∈nb->own=[])->Φ i v w')
  (he:∀(g:Fr) w,Fa (λi=>Φ i (sl (QR all i).dst g) w) fn->(∀i∈fn,∀j∈fn,i≠j->∀b∈ow (sl (QR all i).dst g),b∉ow (sl (QR all j).dst g))->(∀i∈fn,∀b∈ow (sl (QR all i).dst g),N<=b)->∃z,Xd g (S z)/\I z w)
  (h:XP P all C (λf1 _=>(Fa (λi=>∀g w,J w->Fa (λj=>Φ j (sl (QR all j).dst (mix D f1 g)) w) (dp i)->(∀j∈dp i,∀b∈ow (sl (QR all j).dst (mix D f1 g)),N<=b/\b<↑w)->XO P (QR all i) (mix D f1 g) w (λU w'=>xd (tkn all tk i (mix D f1 g)) w w'/\Φ i (sl (QR all i).dst U) w'/\∀b∈ow (sl (QR all i).dst U),(↑w<=b\/b∈tkn all tk i (mix D f1 g))/\b<↑w')) opn) /\
   ∀z g w,J w->I z w->XP P all C (λf w=>Q .normal f w) rest (Uc (S z) (mix D f1 g)) w) pre f { w with drawn:=w.drawn+1 }):W P n (.region id all.toArray true) Q f w:=by
 simp only[Qha,oK,beq_iff_eq,Ou,Ol]at G;obtain⟨⟨⟨⟨⟨V,hl⟩,hq⟩,hop⟩,hgo⟩,hf⟩:=G;refine JO C hm hn ?_;rw[<-hl];have hg:(oR all.length false).size=all.length:=oe
 have Y:∀i∈opn,alv tk opn (ZU pre (oR all.length false)) i=true->False:=λi hi ht=>by
  unfold alv at ht;rw[hf i hi]at ht;cases ht
 have h1:=YM (K:=λf w=>Q .normal f w) (m:=opn.length+rest.length) V pre (oR all.length false) f _ (O _ hC) hq (λf1 hB=>Qeh (P:=P) (C:=C) V hop O ha hN stab he hB.1 hB.2 opn.length hgo (ZU pre (oR all.length false)) f1 _ Lj (by rw[YR];exact hg) hC (λ_ _=>Z) (λi hi ht=>(Y i hi ht).elim) (λi hi ht=>(Y i hi ht).elim)) h;rw[hl]at h1 ⊢;exact h1
theorem XP.keeps_mono {K':xE}:∀(l:xA) (f:Fr) (w:O6),XP P all C K l f w->(∀f w,K f w->K' f w)->XP P all C K' l f w
 | [],f,w,h,G=>by simp only[XP]at h ⊢;exact G _ _ h
 | (j,q)::l,f,w,h,G=>by
  simp only[XP]at h ⊢;cases I:Yb all f (QR all j) with
  | false=>rw[I]at h;exact XP.keeps_mono l _ _ h G
  | true =>
   rw[I]at h;cases q with
   | true=>obtain⟨v,O,hx⟩:=h;exact⟨v,O,XP.keeps_mono l _ _ hx G⟩
   | false=>exact XO.S (λv w' hx=>⟨hx.1,XP.keeps_mono l _ _ hx.2 G⟩) h
theorem Qej {Q:Exit->Fr->O6->Prop}(C J:xF)(pre:xA)(dp:Nat->LN)(opn:LN)(rest:xA)(D:xC)(Φ:Nat->O7->O6->Prop)(S:α->List (Nat×O7))(I:α->O6->Prop)
  (U:P.follows .mixedOrders=true) (V:XG n all=true) (Y:Qha all dp (λ_=>[]) pre opn opn opn rest D=true) (hC:J { w with drawn:=w.drawn+1 }) (ha:∀w,J w->C w) (he:∀w w',J w->sW w w'->J w') (stab:∀i v w w',Φ i v w->sW w w'->Φ i v w')
  (hf:∀(g:Fr) w,Fa (λi=>Φ i (sl (QR all i).dst g) w) opn->(∀i∈opn,∀j∈opn,i≠j->∀b∈ow (sl (QR all i).dst g),b∉ow (sl (QR all j).dst g))->∃z,Xd g (S z)/\I z w)
  (h:XP P all C (λf1 _=>Fa (λi=>∀g w,J w->Fa (λj=>Φ j (sl (QR all j).dst (mix D f1 g)) w) (dp i)->XO P (QR all i) (mix D f1 g) w (λO w'=>sW w w'/\Φ i (sl (QR all i).dst O) w'/\∀b∈ow (sl (QR all i).dst O),↑w<=b/\b<↑w')) opn /\
   ∀z g w,J w->I z w->XP P all C (λf w=>Q .normal f w) rest (Uc (S z) (mix D f1 g)) w) pre f { w with drawn:=w.drawn+1 }):W P n (.region id all.toArray true) Q f w:=by
 refine jJ C J 0 pre dp (λ_=>[]) opn opn opn rest D Φ S I U V Y hC ha (λ_ _ _ w w' h G _ e=>?_) (λ_ _=>Lp _) (λi hi v _ w w' h G _ e=>?_) (λg w h1 h2 _=>hf g w h1 h2) (XP.keeps_mono _ _ _ h λf1 w1 hx=>⟨Fa.of λi hi g w hJ hd _=>(Fa.all hx.1 i hi g w hJ hd).S λ_ _ h=>⟨h.1,h.2.1,λb hb=>⟨.inl (h.2.2 b hb).1,(h.2.2 b hb).2⟩⟩,hx.2⟩)
 ·rw[e rfl]at G;exact he w w' h G
 rw[e hi]at G;exact stab i v w w' h G
theorem VC {Q:Exit->Fr->O6->Prop}(C:xF)(pre:xA)(dp:Nat->LN)(opn:LN)(rest:xA)(D:xC)(Φ:Nat->O7->O6->Prop)(S:α->List (Nat×O7))(I:α->O6->Prop)
  (O:P.follows .mixedOrders=true) (U:XG n all=true) (V:Qha all dp (λ_=>[]) pre opn opn opn rest D=true) (hC:C { w with drawn:=w.drawn+1 }) (Y:∀w w',C w->sW w w'->C w') (stab:∀i v w w',Φ i v w->sW w w'->Φ i v w')
  (ha:∀(g:Fr) w,Fa (λi=>Φ i (sl (QR all i).dst g) w) opn->(∀i∈opn,∀j∈opn,i≠j->∀b∈ow (sl (QR all i).dst g),b∉ow (sl (QR all j).dst g))->∃z,Xd g (S z)/\I z w)
  (h:XP P all C (λf1 _=>Fa (λi=>∀g w,C w->Fa (λj=>Φ j (sl (QR all j).dst (mix D f1 g)) w) (dp i)->XO P (QR all i) (mix D f1 g) w (λG w'=>sW w w'/\Φ i (sl (QR all i).dst G) w'/\∀b∈ow (sl (QR all i).dst G),↑w<=b/\b<↑w')) opn /\
   ∀z g w,C w->I z w->XP P all C (λf w=>Q .normal f w) rest (Uc (S z) (mix D f1 g)) w) pre f { w with drawn:=w.drawn+1 }):W P n (.region id all.toArray true) Q f w :=
 Qej C C pre dp opn rest D Φ S I O U V hC (λ_ h=>h) Y stab ha h
end
theorem flA [Ze P t z]{G:O6}{e:Nat}(us:LV)(hC:sW G w)(V:z.cells=us.toArray:=by rfl):XO P ⟨some e,.alloc t,ty,pS,af,gd⟩ f w λI w'=>sW w w'/\sW G w'/\(∃b,I e=sP b/\↑G<=b/\QN ↑w' b t us)/\∀b∈ow (I e),↑w<=b/\b<w'.heap.size:=Y0 V λb w' O hb U=>by
 have e1:QP f (some e) (sP b) e=sP b:=by simp[QP,upd]
 show sW w w'/\sW G w'/\(∃b',QP f (some e) (sP b) e=sP b'/\↑G<=b'/\QN ↑w' b' t us)/\∀b'∈ow (QP f (some e) (sP b) e),↑w<=b'/\b'<↑w';rw[e1];exact⟨O,hC.D O,⟨b,Z,LA hC.size hb,U⟩,λx hx=>by rw[show x=b by simpa using(show x∈[b] from hx)];exact⟨hb,U.lt⟩⟩
theorem Qc8 {x:O8}{e:Nat}[h:Ay P t m e 1][h1:X2 P e]{k:IntKind}{u:O7}(hx:ev f x=sT cs)(G:ev f y=.int k i)(hi:i<m)(I:cs[i]?=some u):
  (execOp (ev f) ⟨d,.index t x y,ty,pS,af,gd⟩).run P w=.ok (.value u) w:=by
 have J:=yn (P:=P) (w:=w) (t:=e);have O:=QaP (P:=P) (w:=w) (t:=e);simp[execOp,hx,G,Instr.index,asIntOf,run_underlying h.u,J,part,O,I];intro h2;omega
theorem Qmz {b:Nat}{l:LI}(I:QN ↑w b 301 [sL G n n])(hS:QN ↑w G 4 ((flg n l).map Value.bool))(J:0<=s)(h1:s<(n:Int)):
  QT sV 200 [sS s,sP b] w λr w'=>r=.bool (decide (s∈l))/\sW w w':=by
 refine Zn func200 ?_;have O:s=(s.toNat:Int):=oa
 refine Qc<|Qb<|Qc<|ZD I Z Z<|Qa<|x (QE (i:=s.toNat) Z (O0 sS O) oa)<|ZD hS Z (je J h1)<|Qb<|Qk ⟨[_],Lb,Z,xd.C _ _⟩
theorem Qmy {b I:Nat}{l:LI}{e:Ed}(J:QN ↑w b 301 [sL I n n])(hS:QN ↑w I 4 ((flg n l).map Value.bool))(O:0<=e.2.2)(h1:e.2.2<(n:Int)):
  QT sV 201 [sT (Qp e),sP b] w λr w'=>r=.bool (decide (e.2.2∈l))/\sW w w':=by
 refine Zn func201 ?_;have U:e.2.2=(e.2.2.toNat:Int):=oa
 refine Qc<|Zd (Qp e) λY w1 G ha V=>Qb<|Qc<|ZD (J.I G) Z Z<|Qs Z V Z Z<|x (QE (i:=e.2.2.toNat) Z (O0 sS U) oa)<|ZD (hS.I G) Z (je O h1)<|Qb<|Qk ⟨[_],Lb,Z,G⟩
instance ayJk1:Ay sV 300 2 47 1:=⟨od,od⟩
def ptR (a:Qz)(n from0:Nat)(tg wi:LI):LI×Bool:=pth (λs=>decide (s∈tg)) (λe=>decide (e.2.2∈wi)) a.ed n from0
theorem QfY (st:List Ed):∀(f k:Nat),(wrd st f k).length<=f
 | 0,_=>by simp[wrd]
 | f+1,k=>by
  rw[wrd];split
  ·have:=QfY st f (gE st k).2.1.toNat;simp only[oS];omega
  simp
theorem Qc9 (wt:Int->Bool)(pm:Ed->Bool)(es:List Ed):∀(f i:Nat) (st:List Ed),(yz wt pm es f i st).1.length<=f+i
 | 0,_,_=>by simp[yz]
 | f+1,i,st=>by
  rw[yz];split
  ·split
   ·have:=QfY st (i+1) i;simp only[List.length_reverse];omega
   have:=Qc9 wt pm es f (i+1) ((QK es (gE st i).1).foldl (X0 pm i) st);omega
  simp
theorem Qnr (a:Qz)(n:Nat)(tg wi:LI):(ptR a n 0 tg wi).1.length<=n+1:=Qc9 _ _ _ (n+1) 0 _
def phP (N n:Nat)(tg wi:LI)(i:Nat)(v:O7)(w:O6):Prop :=
 if i=2 then ∃b,v=sL b n n/\N<=b/\QN ↑w b 4 ((flg n wi).map Value.bool)
 else if i=5 then ∃b,v=sL b n n/\N<=b/\QN ↑w b 4 ((flg n tg).map Value.bool)
 else ∃b,v=sP b/\N<=b/\QN ↑w b 301 [nS]
theorem Qnx {tg wi:LI}(i:Nat)(v:O7)(w w':O6)(h:phP N n tg wi i v w)(I:sW w w'):phP N n tg wi i v w':=by
 unfold phP at *;split
 ·rename_i e;rw[OZ e]at h;obtain⟨b,h1,h2,G⟩:=h;exact⟨b,h1,h2,G.I I⟩
 rename_i e;rw[OY e]at h;split
 ·rename_i e2;rw[OZ e2]at h;obtain⟨b,h1,h2,G⟩:=h;exact⟨b,h1,h2,G.I I⟩
 rename_i e2;rw[OY e2]at h;obtain⟨b,h1,h2,G⟩:=h;exact⟨b,h1,h2,G.I I⟩
structure PhZ where
 bi:Nat
 bt:Nat
 b15:Nat
 b16:Nat
theorem Qpd {vi:O7}{from0:Nat}{tg wi:LI}(h:Zv [] ↑w va vm ve a)(hck:Jj a=0)(hn:a.st=(n:Int))(hf:from0<n)(ht:Qu [] ↑w vt tg)(hi:Qu [] ↑w vi wi)
  (h7:Ki a.st none tg=0) (h8:Ki a.st none wi=0) (hN:(from0:Int)∈wi):
  QT sV 127 [.agg #[va,sS a.st,vm,ve],sS from0,vt,vi] w λr w'=>sW w w'/\∃v,r=.tuple #[v,.bool (ptR a n from0 tg wi).2,sS 0]/\Qh 3 ↑w w' v (ptR a n from0 tg wi).1:=by
 have J:=(ZA a).1 hck;have h3:=J.st1;refine Zn func127 ?_;refine Qc<|Zd [va,sS a.st,vm,ve] λb4 w1 h9 ga hA=>x Qe<|x Qe<|Qb<|Qd<|Qc<|Q7 hA Z Z<|Qw<|(Xb (h.I h9)).S ?_;rintro r2 w2 ⟨rfl,hC⟩;refine Qb<|Ql<|ZS Z Z<|xe<|Zh rfl (λhD=>O1 hck hD) (λhD=>?_);refine Qf ?_;have hE:=h9.D hC;have h4:=hA.I hC;have hO:¬(from0:Int)≥a.st:=oa
 refine Qd<|Ql<|xb (YF Z Z) (λhF=>O1 hF oa) (λhF=>?_);refine Qa<|Qa<|Qs Z h4 Z Z<|x (Yn Z Z)<|QB Z<|xe<|Zh rfl (λhG=>O1 hG hO) (λhG=>?_);refine Qf<|Qd<|Ql<|Qa<|x (QD ⟨ht.cells,hi.cells,La⟩)<|Qa<|xe<|QY (α:=Nat) [(8,10),(13,14),(33,42)] (λz=>[(33,sS z)]) (λz w'=>z<=2/\sW w2 w') (λz=>2 - z) 0 Lb ⟨oa,xd.C _ _⟩ ?_;rintro k g w4 ⟨hk,hg⟩;refine Zk rfl Z (λhH=>?_) (λhH=>?_)
 ·refine Qt ?_;have hh:=hE.D hg;have hI:=h.I hh;have gb:=hh.size;have h5:=h4.I hg;have hP:=((Xl a.st tg none).1 h7).1;have hQ:=((Xl a.st wi none).1 h8).1;refine Qd<|VC (α:=PhZ) (sW w4) [oB 0,oB 1,oB 3,oB 4] (λ_=>[]) [2,5,6,7] [oC 8,oC 9] [(15,16),(45,45),(48,48)] (phP ↑w4 n tg wi)
   (λz=>[(45,.slice (some ⟨z.bi,0,none⟩) n n),(48,.slice (some ⟨z.bt,0,none⟩) n n),(15,.pointer (some ⟨z.b15,0,none⟩)),(16,.pointer (some ⟨z.b16,0,none⟩))])
   (λz w'=>QN ↑w' z.bi 4 ((flg n wi).map Value.bool)/\QN ↑w' z.bt 4 ((flg n tg).map Value.bool)/\QN ↑w' z.b15 301 [nS]/\QN ↑w' z.b16 301 [nS]/\(z.b15≠z.b16/\z.bi≠z.b15/\z.bi≠z.b16/\z.bt≠z.b15/\z.bt≠z.b16)/\↑w4<=z.b15/\↑w4<=z.b16)
   mixed ol od (xd.Y _ _) (λ_ _ h1 h2=>h1.D h2) Qnx ?_ ?_
  ·rintro g w' ⟨⟨bi,e1,_,hr⟩,⟨bt,e2,_,hs⟩,⟨b15,e3,V,hw⟩,⟨b16,e4,hj,hy⟩,_⟩ hm;refine⟨⟨bi,bt,b15,b16⟩,⟨e1,e2,e3,e4,La⟩,hr,hs,hw,hy,?_,V,hj⟩;have d1:=hm 6 oe 7 oe oh;have d2:=hm 2 oe 6 oe oh;have d3:=hm 2 oe 7 oe oh;have d4:=hm 5 oe 6 oe oh;have d5:=hm 5 oe 7 oe oh;rw[e3,e4]at d1;rw[e1,e3]at d2;rw[e1,e4]at d3;rw[e2,e3]at d4;rw[e2,e4]at d5;simp only[ow,oH,forall_eq]at d1 d2 d3 d4 d5;exact⟨d1,d2,d3,d4,d5⟩
  refine pq (λ_ hc=>Zj (h5.I hc) Z Z)<|p Qx<|pq (λ_ hc=>Zj (h5.I hc) Z Z)<|p Qx<|pe ⟨⟨?_,?_,?_,?_,La⟩,?_⟩
  ·intro g w' hc _;refine xg<|(QdC ((hi.I hh).I hc) hn h3 hQ).S ?_;rintro r5 w5 ⟨I,b,rfl,hb,G⟩;exact⟨I,⟨b,Z,LA hc.size hb,G⟩,λc O=>by rw[Lc.1 (show c∈[b] from O)];exact⟨hb,G.lt⟩⟩
  ·intro g w' hc _;refine xg<|(QdC ((ht.I hh).I hc) hn h3 hP).S ?_;rintro r5 w5 ⟨I,b,rfl,hb,G⟩;exact⟨I,⟨b,Z,LA hc.size hb,G⟩,λc O=>by rw[Lc.1 (show c∈[b] from O)];exact⟨hb,G.lt⟩⟩
  ·intro g w' hc _;exact Y0 (us:=[nS]) Z λb w5 I hb G=>⟨I,⟨b,Z,LA hc.size hb,G⟩,λc O=>by rw[Lc.1 (show c∈[b] from O)];exact⟨hb,G.lt⟩⟩
  ·intro g w' hc _;exact Y0 (us:=[nS]) Z λb w5 I hb G=>⟨I,⟨b,Z,LA hc.size hb,G⟩,λc O=>by rw[Lc.1 (show c∈[b] from O)];exact⟨hb,G.lt⟩⟩
  rintro⟨bi,bt,b15,b16⟩ g w5 h6 ⟨hr,hs,hw,hy,hR,V,hj⟩;simp only[]at hr hs hw hy hR V hj;refine pk<|Qv (u:=sL bi n n) hw Z Z oe rfl λw6 Y hS=>⟨h6.O Y V,?_⟩;refine pk<|Qv (u:=sL bt n n) (hy.J Y (by simp;omega)) Z Z oe rfl λw7 hp hT=>⟨(h6.O Y V).O hp hj,pe ?_⟩;have hz:sW w4 w7:=(h6.O Y V).O hp hj;have hJ:=hS.J hp (by simp;omega);have hK:=(hr.J Y (by simp;omega)).J hp (by simp;omega);have hU:=(hs.J Y (by simp;omega)).J hp (by simp;omega);have gc:=hz.size;have hV:((flg n wi).map Value.bool)[0+from0*1]?=some (.bool true):=by
   have e1:=je (n:=n) (l:=wi) (x:=(from0:Int)) oa oa;rw[O2 hN]at e1;exact e1
  refine Qd<|Qc<|ZD hJ Z Z<|Qa<|x (QE (i:=from0) Z Z hf)<|ZD hK Z hV<|x (Zi Z)<|xe<|ZC Z<|Qf<|Qc<|Q7 (h5.I hz) Z Z<|Qw<|(Qdl (hI.I hz) hn h3 (λe U=>⟨(J.ed e U).1,(J.ed e U).2.1⟩)).S ?_;rintro r8 w8 ⟨ha,bF,rfl,ge,hW⟩;have hL:=hz.D ha;have gg:=ha.size;refine Qa<|x (Zl (l:=[]) (l':=[_]))<|x (Zl (l:=[]) (l':=[_]))<|Qo<|xg <|
   (QnA (wt:=λs=>decide (s∈tg)) (pm:=λe=>decide (e.2.2∈wi)) (cw:=[sP b16]) (cp:=[sP b15]) (gw:=200) (gp:=201) (hI.I hL) hn oa (λe U=>oq (J.ed e U).2.2.2) J.eds hW hf
    (λs w' h0 h1 hq=>Qmz ((hT.I ha).I hq) ((hU.I ha).I hq) h0 h1) (λe w' U hq=>Qmy ((hJ.I ha).I hq) ((hK.I ha).I hq) (oq (J.ed e U).2.2.2) (oq (J.ed e U).2.2.2))).S ?_
  rintro r9 w9 ⟨hX,v,rfl,hv⟩;refine Qa<|QS Z Z<|QS Z Z<|x Qe<|Qb<|Ql<|Qa<|x Qe<|x Qe<|Qb<|Qk ⟨[_,_,_],oz,hh.D (hL.D hX),v,Z,Za hv oa⟩
 refine Qf ?_;have hY:k<2:=by have gh:(k:Int)<2:=hH;omega
 have hZ:∃u l,[vt,vi][k]?=some u/\Qu [] ↑w u l/\Ki a.st none l=0:=by
  rcases k with _|k
  ·exact⟨vt,tg,Z,ht,h7⟩
  have:k=0:=oa
  subst this;exact⟨vi,wi,Z,hi,h8⟩
 refine Exists.elim hZ λu hu=>Exists.elim hu λl hl=>?_;refine Qd<|Qn<|Qc<|x (Qc8 (i:=k) (cs:=[vt,vi]) Z Z hY hl.1)<|Qb<|Qc<|Q7 (h4.I hg) Z Z<|Qa<|Qw<|(jC (va:=va) (vm:=vm) (ve:=ve) (a:=a) ((hl.2.1.I hE).I hg)).S ?_;rintro r5 w5 ⟨rfl,I⟩;refine Qb<|Ql<|ZS Z Z<|xe<|Zh rfl (λhM=>O1 hl.2.2 hM) (λhM=>?_);refine Qf<|Qr<|QC Z Z<|Qa<|xe ?_;exact⟨k+1,oa,Lb,oa,hg.D I⟩
theorem Qnp [hm:Mp P t kt et (sS 0)][hk:Key P kt Ys]{x:O8}{b:Nat}{s:Qz}{q v:Int}(h:ZV Ys ↑w b (K8 [] s.ed))
  (G:s.ed.Pairwise λx y=>x.1<y.1\/(x.1=y.1/\x.2.1<y.2.1)) (hx:ev f x=.map (some b)) (I:ev f y=Ys (q,v)):
  (execOp (ev f) ⟨d,.lookup t x y true,ty,pS,af,gd⟩).run P w=.ok (.value (.tuple #[sS ((xu s.ed q v).getD 0),.bool (decide ((xu s.ed q v).isSome=true))])) w:=by
 rw[Vl h hx I,qU s.ed [] q v G];cases xu s.ed q v <;> rfl
def Yw (k:Nat):LI:=(oM k).map λi:Nat=>(i:Int)
theorem JL (k:Nat):(Yw k).length=k:=by simp[Yw]
theorem qM (k:Nat):Yw (k+1)=Yw k++[(k:Int)]:=by unfold Yw;rw[Nn,Lv];rfl
theorem Kx (k:Nat)(x:Int):x∈Yw k↔0<=x/\x<(k:Int):=by
 unfold Yw;simp only[Oj,List.mem_range];constructor
 ·rintro⟨i,hi,rfl⟩;omega
 intro h;exact⟨x.toNat,oa,oa⟩
theorem Qkw (k:Nat):YD (Yw k):=by
 induction k with
 | zero=>exact List.Pairwise.nil
 | succ k ih =>
  rw[qM];refine Mu.2 ⟨ih,MN _ _,λx hx y G=>?_⟩;have:=(Kx k x).1 hx;simp at G;omega
theorem Qck {n:Int}{l:LI}(h1:∀x∈l,0<=x/\x<n)(h2:YD l):Ki n none l=0:=(Xl n l none).2 ⟨h1,h2,λy G=>by cases G⟩
structure Vs where
 x:Int
 y:Int
 b:Int
 v:Int
def Vs.ky (p:Vs):Int×Int:=(p.x,p.y)
def jX (a b:Qz)(i:Nat)(p:Vs)(v:Int):Vs:=⟨nxt a.ed p.x v,nxt b.ed p.y v,(i:Int),v⟩
def UV (a:Qz)(kd x:Int):Bool:=decide (0<=x) && (decide (kd=1) || decide (x∈a.mr))
def lgC (a b:Qz)(kd:Int)(p:Vs):Bool:=!(UV a kd p.x == UV b kd p.y)
def lgA (a b:Qz)(i:Nat)(p:Vs)(V:List Vs)(v:Int):List Vs:=if(jX a b i p v).ky≠(-1,-1)/\(jX a b i p v).ky∉V.map Vs.ky then V++[jX a b i p v]else V
def vs0:Vs:=⟨-1,-1,-1,0⟩
def gV (V:List Vs)(k:Nat):Vs:=V.getD k vs0
def lgW (V:List Vs):Nat->Nat->LI
 | 0,_=>[]
 | f+1,k=>if 0<=(gV V k).b then(gV V k).v::lgW V f (gV V k).b.toNat else[]
def lgL (a b:Qz)(kd:Int)(al:LI):Nat->Nat->List Vs->Option (LI)
 | 0,_,_=>none
 | f+1,i,V=>if i<V.length then(if lgC a b kd (gV V i)=true then some (lgW V (i+1) i).reverse else lgL a b kd al f (i+1) (al.foldl (lgA a b i (gV V i)) V)) else none
def fst (a:Qz):Int:=if a.st=0 then -1 else 0
def lgq (a b:Qz)(kd:Int):Option (LI):=lgL a b kd (mrg (· || ·) a.al b.al) ((a.st.toNat+1)*(b.st.toNat+1)+1) 0 [⟨fst a,fst b,-1,0⟩]
def lgE (a b:Qz)(kd:Int):Int:=if Jj a≠0 then Jj a else if Jj b≠0 then Jj b else if kd≠1/\kd≠2 then 11 else 0
def cdA (c:ZO):Qz:=Ud (tgA c) [] (unc c.ev)
def ccA (c:ZO):Qz:=Jf [tgA c,cdA c]
def own (c:ZO)(k:Bool):Qz:=if k=true then ccA c else tgA c
abbrev Zf (p:Int×Int):LV:=[sS p.1,sS p.2]
theorem Jg (p:Int×Int):(Zf p).length=2:=rfl
abbrev P2s (L:LN)(H:xG)(v:O7)(l:xD):Prop:=Zw L H v l.length 2 (l.flatMap Zf)
abbrev Zz (e:VU):LV:=[.string e.nm,.bool e.co,.bool e.ob,.bool e.fo,sS e.fl]
theorem Qb8 (e:VU):(Zz e).length=5:=rfl
abbrev jW (s:ByteArray):Prop:=s.size<=9223372036854775807
structure zd (L:LN)(H:xG)(v:O7)(l:List VU):Prop where
 arr:Zw L H v l.length 5 (l.flatMap Zz)
 nm:∀e∈l,jW e.nm
theorem zd.I {L:LN}{w w':O6}{v:O7}{l:List VU}(h:zd L ↑w v l)(G:sW w w'):zd L ↑w' v l:=⟨h.arr.I G,h.nm⟩
theorem zd.st {L:LN}{w w':O6}{v:O7}{l:List VU}(h:zd L ↑w v l)(G:xd L w w'):zd L ↑w' v l:=⟨h.arr.st G,h.nm⟩
theorem zd.up {L L':LN}{H:xG}{v:O7}{l:List VU}(h:zd L H v l)(G:∀b∈L',b∈L\/H.size<=b):zd L' H v l:=⟨h.arr.up G,h.nm⟩
structure IV where
 nm:ByteArray
 p:AV
def IV.it (q:IV):Jz:=⟨q.nm,q.p.a⟩
abbrev Zm (q:IV):LV:=[.string q.nm,q.p.va,sS q.p.a.st,q.p.vm,q.p.ve]
theorem qO (q:IV):(Zm q).length=5:=rfl
structure VF (L:LN)(H:xG)(v:O7)(qs:List IV):Prop where
 arr:Zw L H v qs.length 5 (qs.flatMap Zm)
 each:∀q∈qs,Zv L H q.p.va q.p.vm q.p.ve q.p.a
 nm:∀q∈qs,jW q.nm
structure XV where
 nm:ByteArray
 v:O7
 ls:xD
def XV.x (q:XV):Exc:=⟨q.nm,q.ls⟩
abbrev Z4 (q:XV):LV:=[.string q.nm,q.v]
theorem ye (q:XV):(Z4 q).length=2:=rfl
structure Xcs (L:LN)(H:xG)(v:O7)(qs:List XV):Prop where
 arr:Zw L H v qs.length 2 (qs.flatMap Z4)
 each:∀q∈qs,P2s L H q.v q.ls
 nm:∀q∈qs,jW q.nm
structure KV where
 nm:ByteArray
 v:O7
 ts:xD
 bd:Int
def KV.k (q:KV):xQ:=⟨q.nm,q.ts,q.bd⟩
abbrev Yl (q:KV):LV:=[.string q.nm,q.v,sS q.bd]
theorem yT (q:KV):(Yl q).length=3:=rfl
structure jT (L:LN)(H:xG)(v:O7)(qs:List KV):Prop where
 arr:Zw L H v qs.length 3 (qs.flatMap Yl)
 each:∀q∈qs,P2s L H q.v q.ts
 nm:∀q∈qs,jW q.nm
theorem VF.I {L:LN}{w w':O6}{v:O7}{qs:List IV}(h:VF L ↑w v qs)(G:sW w w'):VF L ↑w' v qs:=⟨h.arr.I G,λq I=>(h.each q I).I G,h.nm⟩
theorem VF.st {L:LN}{w w':O6}{v:O7}{qs:List IV}(h:VF L ↑w v qs)(G:xd L w w'):VF L ↑w' v qs:=⟨h.arr.st G,λq I=>(h.each q I).st G,h.nm⟩
theorem VF.up {L L':LN}{H:xG}{v:O7}{qs:List IV}(h:VF L H v qs)(G:∀b∈L',b∈L\/H.size<=b):VF L' H v qs:=⟨h.arr.up G,λq I=>(h.each q I).up G,h.nm⟩
theorem Xcs.I {L:LN}{w w':O6}{v:O7}{qs:List XV}(h:Xcs L ↑w v qs)(G:sW w w'):Xcs L ↑w' v qs:=⟨h.arr.I G,λq I=>(h.each q I).I G,h.nm⟩
theorem Xcs.st {L:LN}{w w':O6}{v:O7}{qs:List XV}(h:Xcs L ↑w v qs)(G:xd L w w'):Xcs L ↑w' v qs:=⟨h.arr.st G,λq I=>(h.each q I).st G,h.nm⟩
theorem Xcs.up {L L':LN}{H:xG}{v:O7}{qs:List XV}(h:Xcs L H v qs)(G:∀b∈L',b∈L\/H.size<=b):Xcs L' H v qs:=⟨h.arr.up G,λq I=>(h.each q I).up G,h.nm⟩
theorem jT.I {L:LN}{w w':O6}{v:O7}{qs:List KV}(h:jT L ↑w v qs)(G:sW w w'):jT L ↑w' v qs:=⟨h.arr.I G,λq I=>(h.each q I).I G,h.nm⟩
theorem jT.st {L:LN}{w w':O6}{v:O7}{qs:List KV}(h:jT L ↑w v qs)(G:xd L w w'):jT L ↑w' v qs:=⟨h.arr.st G,λq I=>(h.each q I).st G,h.nm⟩
theorem jT.up {L L':LN}{H:xG}{v:O7}{qs:List KV}(h:jT L H v qs)(G:∀b∈L',b∈L\/H.size<=b):jT L' H v qs:=⟨h.arr.up G,λq I=>(h.each q I).up G,h.nm⟩
structure CL where
 ve:O7
 vc:O7
 vr:O7
 vx:O7
 vk:O7
 ev:List VU
 co:List IV
 rq:List IV
 ex:List XV
 cs:List KV
def CL.V (c:CL):ZO:=⟨c.ev,c.co.map (·.it),c.rq.map (·.it),c.ex.map (·.x),c.cs.map (·.k)⟩
abbrev CL.cells (c:CL):LV:=[c.ve,c.vc,c.vr,c.vx,c.vk]
abbrev CL.val (c:CL):O7:=.agg #[c.ve,c.vc,c.vr,c.vx,c.vk]
structure Z9 (L:LN)(H:xG)(c:CL):Prop where
 ev:zd L H c.ve c.ev
 co:VF L H c.vc c.co
 rq:VF L H c.vr c.rq
 ex:Xcs L H c.vx c.ex
 cs:jT L H c.vk c.cs
theorem Z9.I {L:LN}{w w':O6}{c:CL}(h:Z9 L ↑w c)(G:sW w w'):Z9 L ↑w' c:=⟨h.ev.I G,h.co.I G,h.rq.I G,h.ex.I G,h.cs.I G⟩
theorem Z9.st {L:LN}{w w':O6}{c:CL}(h:Z9 L ↑w c)(G:xd L w w'):Z9 L ↑w' c:=⟨h.ev.st G,h.co.st G,h.rq.st G,h.ex.st G,h.cs.st G⟩
theorem Z9.up {L L':LN}{H:xG}{c:CL}(h:Z9 L H c)(G:∀b∈L',b∈L\/H.size<=b):Z9 L' H c:=⟨h.ev.up G,h.co.up G,h.rq.up G,h.ex.up G,h.cs.up G⟩
theorem Z9.ones {H:xG}{c:CL}(h:Z9 L H c):ZN c.cells:=⟨h.ev.arr.one,h.co.arr.one,h.rq.arr.one,h.ex.arr.one,h.cs.arr.one,La⟩
def Qpj (N:Nat)(H:xG)(v:O7)(k:ZO):Prop:=∃c:CL,v=c.val/\c.V=k/\∀L:LN,(∀b∈L,b<N)->Z9 L H c
theorem zb (s:ByteArray)(he:jW s)(w:O6):QT sV 172 [.string s] w λr w'=>r=.bool (Xq s)/\w'=w:=by
 unfold jW at he;refine Zn func172 ?_;refine Qc<|Qb<|Qd<|Ql<|x (QeQ Z)<|Qa<|xe<|QY (α:=Nat) [(2,5),(8,46)] (λz=>[(8,sS z)]) (λz w'=>w'=w/\z<=s.size/\(oP z (s.size - z)).all (nmQ s)=(oP 0 s.size).all (nmQ s)) (λz=>s.size - z) 0 Lb ⟨Z,Lp _,by rw[OS]⟩ ?_;rintro k g w1 ⟨rfl,hk,G⟩;refine Zk rfl Z (λI=>?_) (λI=>?_)
 ·refine Qt ?_;have hf:s.size<=k:=by have hg:¬(k:Int)<(s.size:Int):=I;omega
  rw[Qnl hf]at G;have J:Xq s=decide (0<s.size/\s.size<=32):=by unfold Xq;rw[<-G];simp
  rw[J];refine QX (α:=Bool) [(2,2),(47,54)] (λz=>[(2,.bool z)]) (λz w'=>w'=w1/\z=decide (0<s.size/\s.size<=32)) ol ?_ ?_
  ·refine Qr<|Qa<|x (QeQ Z)<|xb (Ya Z Z) (λhh=>?_) (λhh=>?_)
   ·refine Qa<|Qa<|x (QeQ Z)<|x (Jl Z Z)<|QB Z<|Qb<|⟨_,Lb,Z,by first|exact bT oa|exact bF oa|exact bD oa⟩
   refine Qa<|Zs<|QB Z<|Qb<|⟨_,Lb,Z,by first|exact bT oa|exact bF oa|exact bD oa⟩
  rintro z g w2 ⟨rfl,rfl⟩;exact Qk ⟨[_],Lb,Z,Z⟩
 have O:k<s.size:=by have hg:(k:Int)<(s.size:Int):=I;omega
 rw[QjD O,MQ]at G;refine Qf<|Qd<|Qn<|Ql<|Qb<|Ql<|Qa<|x (QjP (i:=k) Z Z O)<|Qb ?_;have U:nmQ s k=decide (nmP k (chr s k)):=rfl;refine Zg (chr s k) λc hc=>?_;rw[hc]at U;refine QX (α:=Bool) [(5,5),(14,31)] (λz=>[(5,.bool z)]) (λz w'=>w'=w1/\z=decide ((97<=c/\c<=122)\/(65<=c/\c<=90)\/c=95)) ol ?_ ?_
 ·rw[<-hc];refine Qr<|Qa<|xb (Yn Z Z) (λhj=>?_) (λhj=>?_)
  ·refine Qa<|Qa<|xb (Jl Z Z) (λhm=>?_) (λhm=>?_)
   ·refine QB Z<|Qa<|Zs<|Zs<|QB Z<|Qa<|YN<|x (Uf Z) <|
     Qb<|⟨_,Lb,Z,by first|exact bT oa|exact bF oa|exact bD oa⟩
   refine QB Z<|Qa<|Qa<|xb (Yn Z Z) (λV=>?_) (λV=>?_)
   ·refine Qa<|Qa<|xb (Jl Z Z) (λY=>?_) (λY=>?_)
    ·refine QB Z<|QB Z<|Qa<|YN<|QB Z<|Qb<|⟨_,Lb,Z,by first|exact bT oa|exact bF oa|exact bD oa⟩
    refine QB Z<|QB Z<|Qa<|Qa<|x (Zc Z Z)<|QB Z<|Qb<|⟨_,Lb,Z,by first|exact bT oa|exact bF oa|exact bD oa⟩
   refine Qa<|YN<|QB Z<|QB Z<|Qa<|Qa<|x (Zc Z Z)<|QB Z<|x Qe <|
    xe ?_
   exact⟨_,Lb,Z,by first|exact bT oa|exact bF oa|exact bD oa⟩
  refine Qa<|YN<|QB Z<|Qa<|Qa<|xb (Yn Z Z) (λV=>?_) (λV=>?_)
  ·refine Qa<|Qa<|xb (Jl Z Z) (λY=>?_) (λY=>?_)
   ·refine QB Z<|QB Z<|Qa<|YN<|QB Z<|Qb<|⟨_,Lb,Z,by first|exact bT oa|exact bF oa|exact bD oa⟩
   refine QB Z<|QB Z<|Qa<|Qa<|x (Zc Z Z)<|QB Z<|Qb<|⟨_,Lb,Z,by first|exact bT oa|exact bF oa|exact bD oa⟩
  refine Qa<|YN<|QB Z<|QB Z<|Qa<|Qa<|x (Zc Z Z)<|QB Z<|x Qe <|
   xe ?_
  exact⟨_,Lb,Z,by first|exact bT oa|exact bF oa|exact bD oa⟩
 rintro z g w4 ⟨rfl,rfl⟩;refine QX (α:=Bool) [(32,45)] (λz=>[(45,.bool z)]) (λz w'=>w'=w4/\z=decide (¬nmP k c)) ol ?_ ?_
 ·unfold nmP;rw[<-hc];refine Qr<|Qa<|xb (yy Z) (λhn=>?_) (λhn=>?_)
  ·refine Qa<|Qa<|xb (Zc Z Z) (λho=>?_) (λho=>?_)
   ·refine Qa<|YN<|QB Z<|Qa<|YN<|QB Z<|QB Z<|xe ?_;exact⟨_,Lb,Z,by first|exact bT oa|exact bF oa|exact bD oa⟩
   refine Qa<|Qa<|xb (YF Z Z) (λhp=>?_) (λhp=>?_)
   ·refine QB Z<|Qa<|YN<|QB Z<|QB Z<|xe ?_;exact⟨_,Lb,Z,by first|exact bT oa|exact bF oa|exact bD oa⟩
   refine QB Z<|Qa<|Qa<|x (Ya Z Z)<|QB Z<|QB Z<|xe ?_;exact⟨_,Lb,Z,by first|exact bT oa|exact bF oa|exact bD oa⟩
  refine Qa<|Zs<|Zs<|Zs<|Kd<|QB Z<|xe ?_;exact⟨_,Lb,Z,by first|exact bT oa|exact bF oa|exact bD oa⟩
 rintro z g w5 ⟨rfl,rfl⟩;refine Zh rfl (λha=>?_) (λha=>?_)
 ·refine Qc<|Qb ?_;have J:Xq s=false:=by
   unfold Xq;rw[<-G,U,O4 ha];rfl
  exact Qk ⟨[_],Lb,by rw[J];rfl,Z⟩
 refine Qf ?_;have hs:nmP k c:=Ly.1 ha;refine Qr<|QC Z Z<|Qa<|xe ?_;rw[U,O2 hs,OP]at G;exact⟨k+1,oa,Lb,Z,O,G⟩
def nmM (l:List ByteArray):List (ByteArray×O7):=l.map λs=>(s,.bool true)
theorem QnR (l:List ByteArray)(s:ByteArray):xq (nmM l) s=if s∈l then some (.bool true) else none:=by
 induction l with
 | nil=>rfl
 | cons a l ih =>
  show(if a=s then some (Value.bool true) else xq (nmM l) s)=_
  rw[ih];by_cases h:a=s
  ·subst h;simp
  have:s≠a:=λe=>h e.symm;simp[h,this]
theorem QgI {l:List ByteArray}{s:ByteArray}(h:s∉l):xt (nmM l) s (.bool true)=nmM (l++[s]):=by
 induction l with
 | nil=>rfl
 | cons a l ih =>
  have h1:a≠s:=λe=>h (by subst e;exact Lj);show(if a=s then(a,Value.bool true)::nmM l else(a,Value.bool true)::xt (nmM l) s (.bool true))=_
  rw[OY h1,ih (λG=>h (Lh _ G))];rfl
theorem Qc7 [hm:Mp P t kt et (.bool false)][hk:Key P kt XJ]{x:O8}{b:Nat}{l:List ByteArray}{s:ByteArray}(h:ZV XJ ↑w b (nmM l))(hx:ev f x=.map (some b))(G:ev f y=.string s):
  (execOp (ev f) ⟨d,.lookup t x y false,ty,pS,af,gd⟩).run P w=.ok (.value (.bool (decide (s∈l)))) w:=by
 rw[JA h hx G,QnR];by_cases I:s∈l <;> simp[I]
theorem Qfy {s:List ByteArray}{l:List VU}{k:Nat}(h:k<l.length):zl s (l.drop k)=if Jm s (l[k]'h)≠0 then Jm s (l[k]'h) else zl (s++[(l[k]'h).nm]) (l.drop (k+1)):=by
 rw[QZ h];rfl
theorem jl {v:O7}{l:List VU}(h:zd L ↑w v l):QT sV 110 [v] w λr w'=>r=sS (XZ l)/\sW w w':=by
 have hA:=h.arr.le;refine Zn func110 ?_;refine Qc<|Qb<|Qd<|Ql<|QG h.arr Z<|x (Ya Z Z)<|xe<|Zh rfl (λh8=>?_) (λh8=>?_)
 ·refine Qc<|Qb<|Qk ⟨[_],Lb,by unfold XZ;rw[OZ (by have h9:(32:Int)<(l.length:Int):=h8;omega)];rfl,xd.C _ _⟩
 have hck:XZ l=zl [] l:=by unfold XZ;rw[OY (by have h9:¬(32:Int)<(l.length:Int):=h8;omega)]
 rw[hck];refine Qf<|Qc<|Qo<|Z1 XJ λb9 w1 ho hs hu=>Qb<|Qd<|Ql<|QG (h.arr.I ho) Z<|Qa<|xe<|QY (α:=Nat×List ByteArray) [(2,2),(5,5),(12,50)] (λz=>[(12,sS z.1)]) (λz w'=>z.1<=l.length/\sW w w'/\ZV XJ ↑w' b9 (nmM z.2)/\zl z.2 (l.drop z.1)=zl [] l) (λz=>l.length - z.1) (0,[]) Lb
  ⟨Lp _,ho,hu,Z⟩ ?_
 rintro⟨k,sn⟩ g w2 ⟨hk,J,hv,G⟩;refine Zk rfl Z (λhg=>?_) (λhg=>?_)
 ·refine Qt ?_;have hw:l.length<=k:=by have hy:¬(k:Int)<(l.length:Int):=hg;omega
  rw[Lx hw]at G;refine Qc<|Qb<|Qk ⟨[_],Lb,by rw[<-G];rfl,J⟩
 have Y:k<l.length:=by have hy:(k:Int)<(l.length:Int):=hg;omega
 rw[Qfy Y]at G;have hp:=h.nm _ (Lm Y);refine Qf<|Qd<|Qn<|Qc<|xo Qb8 (h.arr.I J) Z Z Y λhB hq=>?_;refine Zg (l[k]'Y) λe he=>?_;rw[he]at hq G hp;refine x (QF hq Z Z)<|QV [.string .empty,.bool false,.bool false,.bool false,sS 0] λb5 w3 hz h0 I=>Q6 (Zz e) I ⟨Z,Z,Z,Z,Z,La⟩ λw4 h3 I =>
  xe ?_
 have O:sW w2 w4:=hz.O h3 h0;have hr:=hv.I O;refine Qd<|Qn<|Qc<|Qs Z I Z Z<|Qw<|(zb e.nm hp _).S ?_;rintro r5 w5 ⟨rfl,rfl⟩;refine x (Zi Z)<|Qb<|Q5 Z (λhh=>?_) (λhh=>?_)
 ·have U:Xq e.nm=false:=by simpa using hh
  have h1:Jm sn e=7:=by unfold Jm;rw[OZ U]
  refine Qc<|Qb<|Qk ⟨[_],Lb,by rw[<-G,h1];rfl,J.D O⟩
 have U:¬Xq e.nm=false:=by simpa using hh
 refine Ql<|Qs Z I Z Z<|x (Qc7 hr Z Z)<|Qb<|Zh Z (λV=>?_) (λV=>?_)
 ·have h1:Jm sn e=8:=by unfold Jm;rw[OY U,OZ V]
  refine Qc<|Qb<|Qk ⟨[_],Lb,by rw[<-G,h1];rfl,J.D O⟩
 refine QX (α:=Bool) [(26,34)] (λz=>[(26,.bool z)]) (λz w'=>w'=w5/\z=decide (e.fl<0\/4<e.fl)) ol ?_ ?_
 ·refine Qr<|Qs Z I Z Z<|xb (YF Z Z) (λh4=>?_) (λh4=>?_)
  ·refine Qa<|Zs<|QB Z<|Qb<|⟨_,Lb,Z,by first|exact bT oa|exact bF oa|exact bD oa⟩
  refine Qa<|Qs Z I Z Z<|x (Ya Z Z)<|QB Z<|Qb<|⟨_,Lb,Z,by first|exact bT oa|exact bF oa|exact bD oa⟩
 rintro z g w6 ⟨rfl,rfl⟩;refine Zh rfl (λha=>?_) (λha=>?_)
 ·have h1:Jm sn e=2:=by unfold Jm;rw[OY U,OY V,OZ ha]
  refine Qc<|Qb<|Qk ⟨[_],Lb,by rw[<-G,h1];rfl,J.D O⟩
 refine QX (α:=Bool) [(35,46)] (λz=>[(35,.bool z)]) (λz w'=>w'=w6/\z=decide (e.fl≠0/\(e.co || e.ob)=true)) ol ?_ ?_
 ·refine Qr<|Qs Z I Z Z<|xb (J0 Z Z) (λhf=>?_) (λhf=>?_)
  ·refine Qa<|Q9 Z<|xB (Qj I Z Z) (λhj=>?_) (λhj=>?_)
   ·refine Qa<|YN<|QB Z<|QB Z<|Qb<|⟨_,Lb,Z,by rw[hj,O2 ⟨hf,oe⟩]⟩
   refine Qa<|Qs Z I Z Z<|QB Z<|QB Z<|Qb<|⟨_,Lb,Z,?_⟩;show e.ob=_;rw[hj];cases e.ob <;> simp[show ¬e.fl=0 from hf]
  refine Qa<|Zs<|Zs<|QB Z<|Qb<|⟨_,Lb,Z,bF (λh1=>hf h1.1)⟩
 rintro z g w7 ⟨rfl,rfl⟩;refine Zh rfl (λhm=>?_) (λhm=>?_)
 ·have h1:Jm sn e=13:=by unfold Jm;rw[OY U,OY V,OY ha,OZ hm]
  refine Qc<|Qb<|Qk ⟨[_],Lb,by rw[<-G,h1];rfl,J.D O⟩
 have h1:Jm sn e=0:=by unfold Jm;rw[OY U,OY V,OY ha,OY hm]
 rw[h1,OY (λh=>h rfl)]at G;refine Qf<|Qr<|Qa<|Qs Z I Z Z<|Qo<|YV (k:=e.nm) hr Z Z λw8 h5 h6=>xe ?_;refine Qr<|QC Z Z<|Qa<|xe ?_;have h7:ZV XJ ↑w8 b9 (nmM (sn++[e.nm])):=by rw[<-QgI V];exact h6
 exact⟨(k+1,sn++[e.nm]),og,Lb,Y,(J.D O).O h5 hs,h7,G⟩
theorem Qdv {α:Type}(q:α->Bool)(x:α):∀(l:List α) (i:Nat),ixs q i (l++[x])=ixs q i l++if q x=true then[((i+l.length:Nat):Int)]else[]
 | [],i=>by simp[ixs]
 | a::l,i=>by
  simp only[Og,ixs,(Qdv q x l (i+1)),oS];rw[show i+1+l.length=i+(l.length+1) by omega];split <;> simp
theorem QbT {α:Type}(q:α->Bool):∀(l:List α) (i:Nat),(ixs q i l).length<=l.length
 | [],i=>by simp[ixs]
 | a::l,i=>by
  have ih:=QbT q l (i+1);unfold ixs;split <;> simp <;> omega
theorem QkY (q:α->Bool){l:List α}{k:Nat}(h:k<l.length):ixs q 0 (l.take (k+1))=ixs q 0 (l.take k)++if q (l[k]'h)=true then[(k:Int)]else[]:=by
 rw[Ln h,Qdv];simp[Nat.min_eq_left (Nat.le_of_lt h)]
theorem Qiv [Fu sV g fn]{q:VU->Bool}(hq:∀(e:VU) (w:O6),QT sV g [sT (Zz e)] w λr w'=>r=.bool (q e)/\sW w w'){v:O7}{l:List VU}(h:zd L ↑w v l):
  QT sV 195 [v,.func (.func g) #[] #[]] w λr w'=>sW w w'/\Qh 3 ↑w w' r (ixs q 0 l):=by
 have hz:=h.arr.le;refine Zn func195 ?_;refine Qc<|Qb<|Qc<|Qb<|Qd<|Ql<|QG h.arr Z<|Qa<|xe<|QY (α:=Nat×O7) [(5,7),(10,22)] (λz=>[(5,z.2),(10,sS z.1)]) (λz w'=>z.1<=l.length/\sW w w'/\Qh 3 ↑w w' z.2 (ixs q 0 (l.take z.1))) (λz=>l.length - z.1) (0,nS) oy
  ⟨Lp _,xd.C _ _,QM _ _ _ _⟩ ?_
 rintro⟨k,vo⟩ g w1 ⟨hk,G,O⟩;simp only[]at hk O;refine Zk rfl Z (λV=>?_) (λV=>?_)
 ·refine Qt ?_;have hj:l.length<=k:=by have hm:¬(k:Int)<(l.length:Int):=V;omega
  rw[Ls hj]at O;refine Ql<|Qb<|Qk ⟨[_],Lb,G,O⟩
 have I:k<l.length:=by have hm:(k:Int)<(l.length:Int):=V;omega
 have J:=QkY q I;have h0:=QbT q (l.take k) 0;have h3:(l.take k).length=k:=by simp;omega
 refine Qf<|Qd<|Qn<|Ql<|xo Qb8 (h.arr.I G) Z Z I λh4 hh=>?_;refine Zg (l[k]'I) λe he=>?_;rw[he]at hh J;refine x (QF hh Z Z)<|QV [.string .empty,.bool false,.bool false,.bool false,sS 0] λb7 w2 hn ho Y=>x Qe <|
  Q6 (Zz e) Y ⟨Z,Z,Z,Z,Z,La⟩ λw3 hp Y=>xe ?_
 have hr:sW w1 w3:=hn.O hp ho;refine Ql<|Q7 Y Z Z<|Qo<|xc (first:=[]) (capt:=[]) Z<|(hq e w3).S ?_;rintro r4 w4 ⟨rfl,hs⟩;have U:=hr.D hs;have ha:=Qm O U;have h5:=(G.D U).size;refine xe<|Q5 rfl (λhf=>?_) (λhf=>?_)
 ·rw[OZ hf]at J;refine Qr<|Qa<|Qa<|Qo<|Q3 [[sS k]] λh6 w5 hg h7 hu=>?_;have hv:=Qm ha hg;have h8:=hg.size;refine Qo<|Q0 (news:=[sS k]) (L:=[]) hv Z Z Z (hu.at oe) oo oa oa λv6 w6 hw hy h9 =>
   Qb<|Qr<|QC Z Z<|Qa<|xe ?_
  refine⟨(k+1,v6),og,oy,I,((G.D U).D hg).Z hy (λb hb=>.inr ((Qi ha) b hb).1),?_⟩;simp only[];rw[J];exact Qh.snoc hw
 rw[OY (by rw[hf];decide),LK]at J;refine Qf<|Qr<|QC Z Z<|Qa<|xe ?_;exact⟨(k+1,vo),og,oy,I,G.D U,by simp only[];rw[J];exact ha⟩
theorem QfK (e:VU)(w:O6):QT sV 190 [sT (Zz e)] w λr w'=>r=.bool (!e.co)/\sW w w':=by
 refine Zn func190 ?_;refine Qc<|Zd (Zz e) λJ O G U I=>Qb<|Qc<|Qs Z I Z Z<|x (Zi Z)<|Qb<|Qk ⟨[_],Lb,Z,G⟩
theorem Qbb {v:O7}{l:List VU}(h:zd L ↑w v l):QT sV 123 [v,sS 2] w λr w'=>sW w w' /\
  ∃vo,r=.tuple #[vo,sS (XZ l)]/\Qh 3 ↑w w' vo (if XZ l=0 then unc l else[]):=by
 refine Zn func123 ?_;refine Qc<|x Qe<|Qb<|Qd<|Ql<|Qw<|(jl h).S ?_;rintro r1 V ⟨rfl,O⟩;refine Qb<|Ql<|ZS Z Z<|xe<|Zh rfl (λI=>?_) (λI=>?_)
 ·refine Ql<|x Qe<|Qb<|Qk ⟨[_,_],oy,O,_,Z,by rw[OY I];exact QM _ _ _ _⟩
 have U:XZ l=0:=Ly.1 I;refine Qf<|Qc<|Qo<|Z1 XS λb15 w2 Y G ha=>Qo<|Yy (k:=1) ha Z Z λw3 he hf=>Qo<|Yy (k:=2) hf Z Z λw4 hg hh =>
  Qo<|Yy (k:=3) hh Z Z λw5 hj hk=>Qo<|Yy (k:=4) hk Z Z λw6 hm hn=>Qo<|Yy (k:=5) hn Z Z λw7 ho hp=>Qo<|Yy (k:=6) hp Z Z λw8 hq hr =>
  Qa<|Qb ?_
 have hs:sW V w8:=(((((Y.O he G).O hg G).O hj G).O hm G).O ho G).O hq G;refine Ql<|Qa<|x (qD (k:=(2:Int)) hr Z Z Z)<|Qa<|QS Z Z<|QS Z Z<|x Qe<|Qb<|Qd<|Ql<|x (Zi Z)<|xe<|ZC rfl<|Qf ?_;have J:=O.D hs;refine Ql<|Qa<|Qw<|(Qiv QfK (h.I J)).S ?_;rintro r9 w9 ⟨hu,hv⟩;refine x Qe<|Qb<|Qk ⟨[_,_],oy,J.D hu,_,by rw[U];rfl,?_⟩;rw[OZ U];exact Za hv J.size
theorem Qdx (n:Int)(w:O6):QT sV 242 [sS n] w λr w'=>r=.bool (grt n)/\w'=w:=by
 refine Zn func242 ?_;refine Qc<|Qb<|QX (α:=Bool) [(2,8)] (λz=>[(2,.bool z)]) (λz w'=>w'=w/\z=grt n) ol ?_ ?_
 ·refine Qr<|Qa<|xb (YF Z Z) (λG=>?_) (λG=>?_)
  ·refine Qa<|YN<|QB Z<|Qb<|⟨_,Lb,Z,by unfold grt;rw[O2 G];rfl⟩
  refine Qa<|Qa<|x (Ya Z Z)<|QB Z<|Qb<|⟨_,Lb,Z,by unfold grt;rw[O4 G];rfl⟩
 rintro z g I ⟨rfl,rfl⟩;exact Qk ⟨[_],Lb,Z,Z⟩
theorem Qfx {sz:LI}{ls:xD}{k:Nat}(h:k<ls.length):XM sz (pv (ls.map (·.1)) k) (ls.drop k)=if(ls[k]'h).1<0\/(sz.length:Int)<=(ls[k]'h).1 then 2 else if yR (pv (ls.map (·.1)) k) (ls[k]'h).1=true then 5 else if(ls[k]'h).2<0\/xh sz (ls[k]'h).1.toNat<=(ls[k]'h).2 then 2 else XM sz (pv (ls.map (·.1)) (k+1)) (ls.drop (k+1)):=by
 rw[QZ h,KS (ox h),MM];rfl
theorem qd {vl:O7}{sz:LI}{ls:xD}{nm:ByteArray}(hS:Qu [] ↑w vs sz)(hl:P2s [] ↑w vl ls):
  QT sV 177 [.agg #[vs,vx,vk],.agg #[.string nm,vl]] w λr w'=>r=sS (J5 sz ls)/\sW w w':=by
 have hL:=hl.le;refine Zn func177 ?_;refine Qc<|Zd [vs,vx,vk] λb2 w1 h4 hM Y=>Zd [.string nm,vl] λb3 w2 hs hN ha=>Qb ?_;have G:=h4.D hs
 replace Y:=Y.I hs;refine Qd<|Qc<|Qs Z ha Z Z<|QG (hl.I G) Z<|x (Zc Z Z)<|xe<|Zh rfl (λhf=>?_) (λhf=>?_)
 ·refine Qc<|Qb<|Qk ⟨[_],Lb,by unfold J5;rw[OZ (by have h5:(ls.length:Int)=0:=hf;omega)];rfl,G⟩
 have h6:ls.length≠0:=by have h5:¬(ls.length:Int)=0:=hf;omega
 have h7:J5 sz ls=XM sz none ls:=by unfold J5;rw[OY h6]
 rw[h7];refine Qf<|Qd<|Qc<|Qs Z ha Z Z<|QG (hl.I G) Z<|Qa<|xe<|QY (α:=Nat) [(4,6),(14,61)] (λz=>[(14,sS z)]) (λz w'=>z<=ls.length/\sW w2 w'/\XM sz (pv (ls.map (·.1)) z) (ls.drop z)=XM sz none ls) (λz=>ls.length - z) 0 Lb
  ⟨Lp _,xd.C _ _,Z⟩ ?_
 rintro k g w3 ⟨hk,O,hck⟩;have hg:=G.D O;have hu:=Y.I O;have hv:=hl.I hg;have hw:=hS.I hg;refine Zk rfl Z (λhh=>?_) (λhh=>?_)
 ·refine Qt ?_;have h8:ls.length<=k:=by have h9:¬(k:Int)<(ls.length:Int):=hh;omega
  rw[Lx h8]at hck;refine Qc<|Qb<|Qk ⟨[_],Lb,by rw[<-hck];rfl,hg⟩
 have U:k<ls.length:=by have h9:(k:Int)<(ls.length:Int):=hh;omega
 rw[Qfx U]at hck;refine Qf<|Qd<|Qn<|Ql<|xo Jg hv Z Z U λhO hy=>?_;refine Zg (ls[k]'U) λe he=>?_;rw[he]at hy hck;refine x (QF hy Z Z)<|QV [sS 0,sS 0] λb6 w4 hA hB J=>x Qe<|Q6 (Zf e) J oy λw5 hC J=>xe ?_;have I:sW w3 w5:=hA.O hC hB;have hz:=O.D I;refine Qn<|QX (α:=Bool) [(19,30)] (λz=>[(19,.bool z)]) (λz w'=>w'=w5/\z=decide (e.1<0\/(sz.length:Int)<=e.1)) ol ?_ ?_
 ·refine Qr<|Qs Z J Z Z<|xb (YF Z Z) (λhD=>?_) (λhD=>?_)
  ·refine Qa<|Zs<|Zs<|QB Z<|Qb<|⟨_,Lb,Z,by first|exact bT oa|exact bF oa|exact bD oa⟩
  refine Qa<|Qs Z J Z Z<|Qs Z (hu.I I) Z Z<|QG (hw.I I) Z<|x (Yn Z Z) <|
   QB rfl<|Qb<|⟨_,Lb,Z,by first|exact bT oa|exact bF oa|exact bD oa⟩
 rintro z g w6 ⟨rfl,rfl⟩;refine Zh rfl (λhj=>?_) (λhj=>?_)
 ·rw[OZ hj]at hck;refine Qc<|Qb<|Qk ⟨[_],Lb,by rw[<-hck];rfl,G.D hz⟩
 rw[OY hj]at hck;have hE:e.1=((e.1.toNat:Nat):Int):=oa
 have hF:e.1.toNat<sz.length:=oa
 refine QX (α:=Bool) [(31,45)] (λz=>[(31,.bool z)]) (λz w'=>sW w6 w'/\z=yR (pv (ls.map (·.1)) k) e.1) ol ?_ ?_
 ·refine ZK [] (Xj 0 15 [])<|p Qx<|pb (λ_=>Ya Z Z) (λhm=>?_) (λhm=>?_)
  ·have hn:k≠0:=by have hG:(0:Int)<(k:Int):=hm;omega
   have hk1:((k:Int) - 1)=((k - 1:Nat):Int):=oa
   have ho:k - 1<ls.length:=oa
   refine p Qx<|p (QH Z)<|pq (λ_ hc=>Qj (J.I hc) Z Z)<|p (QH Z)<|pq (λ_ hc=>Qj (((ha.I O).I I).I hc) Z Z) <|
    p Qx<|p (λ_=>JH Z Z ⟨oa,oa⟩)<|Lg.pig (g:=Zf) (i:=k - 1) Z Jg (hv.I I) Z (O0 sS hk1) ho λhP hH=>p (λ_=>ZB Z) <|
    pq (λ_ hc=>Qq ((hH.fld 0 _ Z).I hc) Z)<|p (λ_=>Jl Z Z)<|p (YS Z)<|p ZH<|pe ?_
   refine⟨_,Lb,xd.Y _ _,?_⟩;have:pv (ls.map (·.1)) k=some (ls[k - 1]'ho).1:=by simp[pv,hn,ho]
   rw[this];rfl
  have hn:k=0:=by have hG:¬(0:Int)<(k:Int):=hm;omega
  refine p Qx<|ps<|ps<|ps<|ps<|ps<|ps<|ps<|ps<|ps<|ps<|p (YS Z)<|p ZH<|pe ?_;exact⟨false,Lb,xd.Y _ _,by simp[pv,hn,yR]⟩
 rintro z g w7 ⟨V,rfl⟩;have h0:=hz.D V;refine Q5 rfl (λhp=>?_) (λhp=>?_)
 ·rw[OZ hp]at hck;refine Qc<|Qb<|Qk ⟨[_],Lb,by rw[<-hck];rfl,G.D h0⟩
 rw[OY (by simp[hp])]at hck;have hq:=J.I V;refine QX (α:=Bool) [(46,60)] (λz=>[(46,.bool z)]) (λz w'=>sW w7 w'/\z=decide (e.2<0\/xh sz e.1.toNat<=e.2)) ol ?_ ?_
 ·refine ZK [] (Xj 0 15 [])<|p (QH Z)<|pq (λ_ hc=>Qj (hq.I hc) Z Z)<|pb (λ_=>YF Z Z) (λhI=>?_) (λhI=>?_)
  ·refine p Qx<|ps<|ps<|ps<|ps<|ps<|ps<|ps<|ps<|ps<|p (YS Z)<|p ZH<|pe ?_;exact⟨_,Lb,xd.Y _ _,by first|exact bT oa|exact bF oa|exact bD oa⟩
  refine p Qx<|p (QH Z)<|pq (λ_ hc=>Qj (hq.I hc) Z Z)<|p (QH Z)<|pq (λ_ hc=>Qj (((hu.I I).I V).I hc) Z Z) <|
   p (QH rfl)<|pq (λ_ hc=>Qj (hq.I hc) Z Z)<|pic (i:=e.1.toNat) Z ((hw.I I).I V) Z (O0 sS hE) hF λhQ hJ=>pq (λ_ hc=>Qq (hJ.I hc) Z) <|
   p (λ_=>Yn Z Z)<|p (YS Z)<|p ZH<|pe ?_
  exact⟨_,Lb,xd.Y _ _,by first|exact bT oa|exact bF oa|exact bD oa⟩
 rintro z g w8 ⟨hK,rfl⟩;have h3:=h0.D hK;refine Zh rfl (λhr=>?_) (λhr=>?_)
 ·rw[OZ hr]at hck;refine Qc<|Qb<|Qk ⟨[_],Lb,by rw[<-hck];rfl,G.D h3⟩
 rw[OY hr]at hck;refine Qf<|Qr<|QC Z Z<|Qa<|xe ?_;exact⟨k+1,oa,Lb,U,h3,hck⟩
theorem Qfw {sz:LI}{ls:xD}{k:Nat}(h:k<ls.length):J4 sz (pv (ls.map (·.1)) k) (ls.drop k)=if(ls[k]'h).1<0\/(sz.length:Int)<=(ls[k]'h).1 then 2 else if yR (pv (ls.map (·.1)) k) (ls[k]'h).1=true then 5 else if(ls[k]'h).2=0\/grt (ls[k]'h).2=true then 2 else J4 sz (pv (ls.map (·.1)) (k+1)) (ls.drop (k+1)):=by
 rw[QZ h,KS (ox h),MM];rfl
theorem Un {vl:O7}{sz:LI}{ls:xD}{nm:ByteArray}{bd:Int}(hS:Qu [] ↑w vs sz)(hl:P2s [] ↑w vl ls):
  QT sV 179 [.agg #[vs,vx,vk],.agg #[.string nm,vl,sS bd]] w λr w'=>r=sS (XN sz ⟨nm,ls,bd⟩)/\sW w w':=by
 have hK:=hl.le;refine Zn func179 ?_;refine Qc<|Zd [vs,vx,vk] λb2 w1 h6 hL Y=>Zd [.string nm,vl,sS bd] λb3 w2 hu hM ha=>Qb ?_;have G:=h6.D hu
 replace Y:=Y.I hu;refine Qd<|Qc<|Qs Z ha Z Z<|QG (hl.I G) Z<|x (Zc Z Z)<|xe<|Zh rfl (λhf=>?_) (λhf=>?_)
 ·refine Qc<|Qb<|Qk ⟨[_],Lb,by unfold XN;rw[OZ (by have h7:(ls.length:Int)=0:=hf;show ls.length=0;omega)];rfl,G⟩
 have h8:ls.length≠0:=by have h7:¬(ls.length:Int)=0:=hf;omega
 have h9:XN sz ⟨nm,ls,bd⟩=if J4 sz none ls≠0 then J4 sz none ls else if grt bd=true then 2 else 0:=by unfold XN;rw[OY h8]
 rw[h9];refine Qf<|Qd<|Qc<|Qs Z ha Z Z<|QG (hl.I G) Z<|Qa<|xe<|QY (α:=Nat) [(4,6),(14,55)] (λz=>[(14,sS z)]) (λz w'=>z<=ls.length/\sW w2 w'/\J4 sz (pv (ls.map (·.1)) z) (ls.drop z)=J4 sz none ls) (λz=>ls.length - z) 0 Lb
  ⟨Lp _,xd.C _ _,Z⟩ ?_
 rintro k g w3 ⟨hk,O,hck⟩;have U:=G.D O;have hv:=ha.I O;have hw:=hl.I U;refine Zk rfl Z (λhh=>?_) (λhh=>?_)
 ·refine Qt ?_;have hA:ls.length<=k:=by have hB:¬(k:Int)<(ls.length:Int):=hh;omega
  rw[Lx hA]at hck;have hC:J4 sz none ls=0:=hck.symm;rw[hC,OY (λh=>h rfl)];refine Qd<|Qc<|Qs Z hv Z Z<|Qw<|(Qdx bd _).S ?_;rintro r4 w4 ⟨rfl,rfl⟩;refine xe<|Q5 Z (λhj=>?_) (λhj=>?_)
  ·rw[OZ hj];refine Qc<|Qb<|Qk ⟨[_],Lb,Z,U⟩
  rw[OY (by simp[hj])];refine Qf<|Qc<|Qb<|Qk ⟨[_],Lb,Z,U⟩
 have V:k<ls.length:=by have hB:(k:Int)<(ls.length:Int):=hh;omega
 rw[Qfw V]at hck;refine Qf<|Qd<|Qn<|Ql<|xo Jg hw Z Z V λhN hy=>?_;refine Zg (ls[k]'V) λe he=>?_;rw[he]at hy hck;refine x (QF hy Z Z)<|QV [sS 0,sS 0] λb6 w4 hD hE I=>x Qe<|Q6 (Zf e) I oy λw5 hF I=>xe ?_;have J:sW w3 w5:=hD.O hF hE;have hz:=O.D J;refine Qn<|QX (α:=Bool) [(19,30)] (λz=>[(19,.bool z)]) (λz w'=>w'=w5/\z=decide (e.1<0\/(sz.length:Int)<=e.1)) ol ?_ ?_
 ·refine Qr<|Qs Z I Z Z<|xb (YF Z Z) (λhG=>?_) (λhG=>?_)
  ·refine Qa<|Zs<|Zs<|QB Z<|Qb<|⟨_,Lb,Z,by first|exact bT oa|exact bF oa|exact bD oa⟩
  refine Qa<|Qs Z I Z Z<|Qs Z ((Y.I O).I J) Z Z<|QG ((hS.I U).I J) Z<|x (Yn Z Z) <|
   QB rfl<|Qb<|⟨_,Lb,Z,by first|exact bT oa|exact bF oa|exact bD oa⟩
 rintro z g w6 ⟨rfl,rfl⟩;refine Zh rfl (λhm=>?_) (λhm=>?_)
 ·rw[OZ hm]at hck;refine Qc<|Qb<|Qk ⟨[_],Lb,by rw[<-hck,OZ oh];rfl,G.D hz⟩
 rw[OY hm]at hck;refine QX (α:=Bool) [(31,45)] (λz=>[(31,.bool z)]) (λz w'=>sW w6 w'/\z=yR (pv (ls.map (·.1)) k) e.1) ol ?_ ?_
 ·refine ZK [] (Xj 0 15 [])<|p Qx<|pb (λ_=>Ya Z Z) (λhn=>?_) (λhn=>?_)
  ·have ho:k≠0:=by have hH:(0:Int)<(k:Int):=hn;omega
   have hk1:((k:Int) - 1)=((k - 1:Nat):Int):=oa
   have hp:k - 1<ls.length:=oa
   refine p Qx<|p (QH Z)<|pq (λ_ hc=>Qj (I.I hc) Z Z)<|p (QH Z)<|pq (λ_ hc=>Qj ((hv.I J).I hc) Z Z) <|
    p Qx<|p (λ_=>JH Z Z ⟨oa,oa⟩)<|Lg.pig (g:=Zf) (i:=k - 1) Z Jg (hw.I J) Z (O0 sS hk1) hp λhO hI=>p (λ_=>ZB Z) <|
    pq (λ_ hc=>Qq ((hI.fld 0 _ Z).I hc) Z)<|p (λ_=>Jl Z Z)<|p (YS Z)<|p ZH<|pe ?_
   refine⟨_,Lb,xd.Y _ _,?_⟩;have:pv (ls.map (·.1)) k=some (ls[k - 1]'hp).1:=by simp[pv,ho,hp]
   rw[this];rfl
  have ho:k=0:=by have hH:¬(0:Int)<(k:Int):=hn;omega
  refine p Qx<|ps<|ps<|ps<|ps<|ps<|ps<|ps<|ps<|ps<|ps<|p (YS Z)<|p ZH<|pe ?_;exact⟨false,Lb,xd.Y _ _,by simp[pv,ho,yR]⟩
 rintro z g w7 ⟨h0,rfl⟩;have h3:=hz.D h0;refine Q5 rfl (λhq=>?_) (λhq=>?_)
 ·rw[OZ hq]at hck;refine Qc<|Qb<|Qk ⟨[_],Lb,by rw[<-hck,OZ oh];rfl,G.D h3⟩
 rw[OY (by simp[hq])]at hck;have h4:=I.I h0;refine QX (α:=Bool) [(46,54)] (λz=>[(46,.bool z)]) (λz w'=>sW w7 w'/\z=decide (e.2=0\/grt e.2=true)) ol ?_ ?_
 ·refine Qr<|Qs Z h4 Z Z<|xb (Zc Z Z) (λhr=>?_) (λhr=>?_)
  ·refine Qa<|Zs<|QB Z<|Qb<|⟨_,Lb,xd.C _ _,bT (.inl hr)⟩
  refine Qa<|Qs Z h4 Z Z<|Qw<|(Qdx e.2 _).S ?_;rintro r9 w9 ⟨rfl,rfl⟩;refine QB Z<|Qb<|⟨grt e.2,Lb,xd.C _ _,?_⟩;cases hg:grt e.2 with
  | true=>exact bT (.inr Z)
  | false=>exact bF (λh=>by rcases h with h|h;exact hr h;cases h)
 rintro z g w8 ⟨hJ,rfl⟩;have h5:=h3.D hJ;refine Zh rfl (λhs=>?_) (λhs=>?_)
 ·rw[OZ hs]at hck;refine Qc<|Qb<|Qk ⟨[_],Lb,by rw[<-hck,OZ oh];rfl,G.D h5⟩
 rw[OY hs]at hck;refine Qf<|Qr<|QC Z Z<|Qa<|xe ?_;exact⟨k+1,oa,Lb,V,h5,hck⟩
open Go.RowKit
def QeC:Fr->LN->LV->Fr
 | f,p::ps,v::vs=>QeC (upd f p v) ps vs
 | f,_,_=>f
theorem qB {n:Nat}{ds:LN}:∀(ps:LN) (vs:LV) (a:Act) (f:Fr),Xi n ds a f->(∀p∈ps,p<n) ->
  Xi n ds { tmps:=(ps.zip vs).foldl (λt (x:Nat×O7)=>t.setIfInBounds x.1 x.2) a.tmps,defers:=a.defers } (QeC f ps vs)
 | [],_,a,f,h,_=>by cases h;exact⟨by assumption,by assumption,by assumption⟩
 | p::ps,[],a,f,h,_=>by cases h;exact⟨by assumption,by assumption,by assumption⟩
 | p::ps,v::vs,a,f,h,G=>by
  exact qB ps vs _ _ (h.put (dst:=some p) (λd e=>by cases e;exact G p Lj) v) (λq I=>G q (Lh _ I))
def rdE {α:Type}(B:Nat)(L:LN)(I:List α->O6->Prop)(X:Exit->List α->O6->Prop)(xs:List α)(W:O6):Exit->LN->Fr->O6->Prop
 | .normal,_,_,W'=>X9 B L W W'/\I xs W'
 | .ret,_,_,W'=>X9 B L W W'/\X .ret xs W'
 | .exit i,_,_,W'=>X9 B L W W'/\X (.exit i) xs W'
 | _,_,_,_=>False
theorem QmF {Q:Exit->LN->Fr->O6->Prop}{g:O8}{ps:LN}{assign body:Code}(L:LN)(h1:1<=m)
  {gf:Nat}  [hF:Fu P gf fn]  (hg:ev f g=.func (.func gf) #[] capt.toArray) {encs:α->LV} {S Sp:List α->Prop}  (hp:∀p∈ps,p<n) (hm:∀x,(encs x).length=ps.length)
  (hn:SeqStopsK (fen none) (m - 1) P gf capt.toArray (λx=>(encs x).toArray) (Lw ↑w L) S Sp N w)
  (I:List α->O6->Prop) (hI:∀s,Yf ↑w (I s)) (X:Exit->List α->O6->Prop) (hX:∀e s,Yf ↑w (X e s)) (h0:I [] w) (A:Fr->α->Fr->O6->Prop) (hA:∀x G,Yf ↑w (A f x G))
  (he:∀l pre x W,I pre W->WG (some l) (m - 1 - 1) P n assign (QeF (λY G W'=>Y=[]/\X9 ↑w L W W'/\I pre W'/\A f x G W') (λ_ _ _ _=>False)) [] (QeC f ps (encs x)) W)
  (hf:∀l pre x G W,I pre W->A f x G W->pre.length<N->WG (some l) (m - 1 - 1) P n body (rdE ↑w L I X (pre++[x]) W) [] G W)
  (hq:∀D xs W,↑w<=D->S xs->I xs W->W.heap[D]?=some (.deferred (some []))->Q .normal (D::ds) f W)
  (hh:∀D e pre W,↑w<=D->Sp pre->X e pre W->W.heap[D]?=some (.deferred (some []))->(e=.ret\/∃i,e=.exit i)->Q e (D::ds) f W):
  WG none m P n (.rangeFunc g ps.toArray assign body) Q ds f w:=by
 unfold WG at he hf ⊢;intro a U;have eg:∀args w,(callFunc gf args).run P w=.ok (.enter gf args) w:=by
  intro args w;have h1:¬fn.name = "runtime.NumGoroutine" := by simpa using hF.nm
  have h2:¬fn.body=none:=by have:=hF.b;intro e;rw[e]at this;cases this
  simp[callFunc,hF.f,h1,h2]
 have keep:∀{W W':O6},X9 ↑w L W W'->KeepsFrom ↑w W W':=λh=>⟨h.lw.size,λk o _ hk ho=>h.other k o hk ho⟩;refine wpIn_rangeFunc_ownH (F:=fen none) Z h1 (gf:=gf) (lb:=capt.toArray) (by rw[U.eval];exact hg) La eg hn (λh k=>h.D k)
  (λW l o o' hl ho _ _=>⟨Z,Z,Z,oe,λk hk _=>World.putObj_heap_other oa⟩) (Below.refl _ _) (λx=>by simp[hm x]) I
  (λc pre W=>match c with| .ret=>X .ret pre W| .exit i=>X (.exit i) pre W|_=>False) (Yf.own hI) (λc=>Yf.own λs=>?_) h0
  (λx V W=>∃G,Xi n [] V G/\A f x G W) (λx V=>Yf.own λ_=>Yf.ex λG=>Yf.and (Yf.pure _) (hA x G)) ?_ ?_ ?_ ?_
 ·cases c <;> first|exact hX _ s|exact Yf.pure _
 ·intro l pre x W K hi hK;have hr:Xi n [] { tmps:=(ps.toArray.zip (encs x).toArray).foldl (λt (p,v)=>t.setIfInBounds p v) a.tmps,defers:=[] } (QeC f ps (encs x)):=by
   have h2:Xi n [] { a with defers:=[] } f:=⟨U.size,Z,U.get⟩
   have O:=qB ps (encs x) _ _ h2 hp;have e:(ps.toArray.zip (encs x).toArray).foldl (λt (p,v)=>t.setIfInBounds p v) a.tmps=(ps.zip (encs x)).foldl (λt (x:Nat×O7)=>t.setIfInBounds x.1 x.2) a.tmps:=oe
   rw[e];exact O
  refine wpIn_mono (he l pre x W hi _ hr) ?_;rintro e V W' ⟨Y,G,h2,_,O⟩;cases e with
  | normal=>obtain⟨rfl,h4,J,h6⟩:=O;exact hK V W' (keep h4) h4.lw J ⟨G,h2,h6⟩
  | exit id=>exact O.elim
  | goto l=>exact O.elim
  | ret=>exact O.elim
  | panic ch=>exact O.elim
  | outgrown=>exact O.elim
 ·rintro l pre x V W _ _ hi ⟨G,h2,O⟩ hs;refine wpIn_mono (hf l pre x G W hi O hs V h2) ?_;rintro e hu W' ⟨Y,hv,h4,_,J⟩;cases e with
  | normal=>exact⟨keep J.1,J.1.lw,J.2⟩
  | exit id=>exact⟨keep J.1,J.2⟩
  | goto l=>exact J.elim
  | ret=>exact⟨keep J.1,J.2⟩
  | panic ch=>exact J.elim
  | outgrown=>exact J.elim
 ·intro D xs W hD hS hi hd;exact⟨D::ds,f,⟨U.size,by rw[show coll (D::ds)={ target:=.collected D,args:=#[] }::coll ds from rfl,U.defers],U.get⟩,λ_ _=>rfl,hq D xs W hD hS hi hd⟩
 intro D c pre W hD hS hx hd;have hj:Xi n (D::ds) { a with defers:={ target:=.collected D,args:=#[] }::a.defers } f:=⟨U.size,by rw[show coll (D::ds)={ target:=.collected D,args:=#[] }::coll ds from rfl,U.defers],U.get⟩
 cases c with
 | ret=>exact wpIn_ret ⟨_,f,hj,λ_ _=>Z,hh D .ret pre W hD hS hx hd (.inl Z)⟩
 | exit i=>exact wpIn_exit ⟨_,f,hj,λ_ _=>Z,hh D (.exit i) pre W hD hS hx hd (.inr ⟨i,Z⟩)⟩
 | _=>exact hx.elim
theorem Qlh {α:Type}(g:α->LV)(sz:Nat)(G:∀x,(g x).length=sz):∀(l:List α) (k:Nat),(l.flatMap g).take (k*sz)=(l.take k).flatMap g
 | [],k=>oe
 | e::l,0=>oe
 | e::l,k+1=>by
  simp only[oV,List.take_succ_cons,Oz,OQ];rw[M4,NM,G,show sz+k*sz - sz=k*sz by omega,Qlh g sz G l k,Ls (by rw[G];omega)]
theorem QgK {gf:Nat}[Fu sV gf fn]{nms:List ByteArray}{s:ByteArray}(hp:jW s)
  (hq:∀(w':O6) (L:LN),sW w w'->(∀b∈L,↑w<=b)->SeqStopsK (fen none) 9 sV gf capt.toArray (λx:{ x:ByteArray // x∈nms }=>[Value.string x.1].toArray) (Lw ↑w' L) (λys=>ys.map (·.1)=nms) (λ_=>True) N w'):
  QT sV 176 [.string s,.func (.func gf) #[] capt.toArray] w λr w'=>r=sS (VA nms s)/\sW w w':=by
 refine QT.of_G 10 func176 Z ntmps176 results176 oe ?_;refine QQ<|Qy ol ol<|Zd [.string s] λb2 w1 hs hw hj=>QV [sS 0] λI w2 hk hz hg=>xe ?_;have Y:=hs.D hk;have h0:=hg.lt;have ho:=hj.I hk;have h5:=hj.lt;refine QQ<|QQ<|Qy ol ol<|ZD ho Z Z<|Vc<|(zb s hp _).S ?_;rintro r3 w3 ⟨rfl,rfl⟩;refine x (Zi Z)<|xe<|K4 rfl (λh8=>?_) (λh8=>?_)
 ·have hn:Xq s=false:=by simpa using h8
  have hr:VA nms s=7:=by unfold VA;rw[OZ hn]
  refine QQ<|Qy ol ol<|Qo<|Qv (j:=0) (u:=sS 7) hg Z Z oh Z λw4 U ha=>xe ?_;refine Ka ⟨λ_ h=>(by cases h),MB,[sS 7],λW' J=>⟨⟨⟨_,rfl,Xn (At.one ((ha.I J).at (L:=[]) oe))⟩,La⟩,by rw[hr];rfl,(Y.O U oa).D J⟩⟩
 have hn:¬Xq s=false:=by simpa using h8
 refine Yd<|QQ<|QQ<|Qy ol ol<|Qa<|xe<|ZL<|QmF (α:={ x:ByteArray // x∈nms }) (ps:=[10]) [I] oa (capt:=capt) Z (encs:=λx=>[.string x.1]) oe (λ_=>rfl)
  (hq w3 [I] Y (λb hb=>by simp at hb;omega))
  (λpre W=>xd [I] w3 W/\QN ↑W b2 9 [.string s]/\QN ↑W I 55 [sS 0]/\∀x∈pre,x.1≠s)
  (λpre=>(Yf.J (Lr _)).and (Yf.blk.and (Yf.blk.and (Yf.pure _))))
  (λe pre W=>e=.ret/\xd [I] w3 W/\QN ↑W I 55 [sS 8]/\s∈nms)
  (λe pre=>(Yf.pure _).and ((Yf.J (Lr _)).and (Yf.blk.and (Yf.pure _))))
  ⟨xd.C _ _,ho,hg,λx hx=>by cases hx⟩
  (λf x f' W=>f'=upd (QeC f [10] [.string x.1]) 5 (.string x.1)) (λx f'=>Yf.pure _) ?_ ?_ ?_ ?_
 ·rintro l pre x W ⟨h1,h2,G,V⟩;refine Qy ol ol<|Lg.Qb<|⟨Z,X9.refl _ _ _,⟨h1,h2,G,V⟩,Z⟩
 ·rintro l pre x f' W ⟨h1,h2,G,V⟩ rfl _;refine ZL<|QQ<|Qy ol ol<|Lg.Qa<|Lg.x (Qj h2 Z Z)<|Lg.x (Qbv Z Z)<|xe<|Qpg Z (λhh=>?_) (λhh=>?_)
  ·refine QQ<|Qy ol ol<|Qo<|Qv (j:=0) (u:=sS 8) G Z Z oh Z λw4 U ha=>xe ?_;refine Ka ?_;exact⟨X9.blk U h1.size G (.inl oe),rfl,h1.Q U,ha,by rw[<-hh];exact x.2⟩
  refine Yd<|⟨X9.refl _ _ _,h1,h2,G,λy O=>?_⟩;rcases Lk.1 O with O|O
  ·exact V y O
  simp only[oH]at O;subst O;exact hh
 ·rintro D xs W hD hu ⟨h1,h2,G,V⟩ he;have hr:VA nms s=0:=by
   unfold VA;rw[OY hn,OY];intro hm;rw[<-hu]at hm;obtain⟨y,O,e⟩:=Lt.1 hm;exact V y O e
  refine QQ<|Qy ol ol<|Qo<|Qv (j:=0) (u:=sS 0) G Z Z oh Z λw4 U ha=>xe ?_;have hf:D≠I:=oa
  have hv:w4.heap[D]?=some (.deferred (some [])):=by rw[U.block D (LM.1 he).1 (ox hf)];exact he
  refine Ka ⟨λE hE=>by simp only[oH]at hE;subst hE;exact hv,oe,[sS 0],λW' J=>?_⟩;refine⟨⟨⟨_,Z,Xn (At.one ((ha.J J (ox hf.symm)).at (L:=[]) oe))⟩,La⟩,by rw[hr];rfl,?_⟩;exact((Y.Z h1 (λb hb=>.inr (by simp at hb;omega))).O U oa).Z J (λb hb=>.inr (by simp at hb;have:=Y.size;omega))
 rintro D e pre W hD _ ⟨rfl,h1,G,V⟩ he _;have hr:VA nms s=8:=by unfold VA;rw[OY hn,OZ V]
 have hf:D≠I:=oa
 refine⟨λE hE=>by simp only[oH]at hE;subst hE;exact he,oe,[sS 8],λW' J=>?_⟩;refine⟨⟨⟨_,Z,Xn (At.one ((G.J J (ox hf.symm)).at (L:=[]) oe))⟩,La⟩,by rw[hr];rfl,?_⟩;exact(Y.Z h1 (λb hb=>.inr (by simp at hb;omega))).Z J (λb hb=>.inr (by simp at hb;have:=Y.size;omega))
theorem JD.pre3 {o1 o2 o3:Oper}{l2:xI}(h:XL P ops (λf w=>JD P m ops K l2 f w) [o1,o2,o3] f w):JD P m ops K (o1::o2::o3::l2) f w:=JD.pre [o1,o2,o3] f w h
theorem Qlu {I O:Nat}{qs:List XV}{nms:List ByteArray}(hw:QN ↑w I 163 [vs,vx,vk])(hy:QN ↑w O 3 [sS i])(hX:Xcs L ↑w vx qs)(hi:i<=qs.length)(hn:nms=(qs.take i).map (·.nm)):
  SeqStopsK (fen none) m sV 175 #[sP I,sP O] (λx:{ x:ByteArray // x∈nms }=>[Value.string x.1].toArray) (Lw ↑w L)
   (λys=>ys.map (·.1)=nms) (λ_=>True) (nms.length+1) w:=by
 intro l J Jx W hz hJ h3 hY h0;have hh:sW w W:=xd.of_below hz;have ab:∀{ys:List { x:ByteArray // x∈nms }} {W1 W2:O6},J ys W1->sW W1 W2->J ys W2:=λ{ys W1 W2} hj U=>hJ ys W1 W2 none hj ⟨U.os,U.tape,U.output,U.size,λk V _=>U.block k V oe⟩ (λr e=>by cases e);have hD:=hX.arr.le;have hE:nms.length=i:=by rw[hn];simp;omega
 have key:QT sV 175 [.func (.yield l) #[] #[],sP I,sP O] W (λ_ W'=>(∃ys,ys.map (·.1)=nms/\J ys W')\/(∃pre,True/\Jx pre W')):=by
  refine QT.of_G m func175 Z ntmps175 results175 oe ?_;refine QQ<|Qy ol ol<|Qs Z (hw.I hh) Z Z<|ZD (hy.I hh) Z Z<|QpM hX.arr Z Z hi λv9 hr=>QG hr Z<|Qa<|xe ?_;have h4:(qs.take i).length=i:=by simp;omega
  have hS:Zw L ↑w v9 (qs.take i).length 2 ((qs.take i).flatMap Z4):=by
   rw[h4,<-Qlh Z4 2 ye];exact hr
  refine ZL<|K3 (α:=Nat×List { x:ByteArray // x∈nms }) [(5,5),(11,20)] (λz=>[(11,sS z.1)]) (λz ds W'=>ds=[]/\z.1<=i/\xd L w W'/\z.2.map (·.1)=nms.take z.1/\J z.2 W') (λz=>i - z.1) ol (0,[]) Lb
   ⟨Z,Lp _,hh.any,Z,h0⟩ ?_
  rintro⟨k,ys⟩ g ds w1 ⟨rfl,V,hs,Y,hm⟩;simp only[]at V Y hm;refine QQ<|Qy ol ol<|ZT Z Z<|xe<|QQ<|qm Z (λhu=>?_) (λhu=>?_)
  ·refine JQ ?_;rw[Ls oa]at Y;exact⟨λ_ h=>(by cases h),MB,[],λW' G=>⟨La,.inl ⟨ys,Y,ab hm G⟩⟩⟩
  refine Yd ?_;have h5:k<i:=by have ho:(k:Int)<(i:Int):=hu;omega
  have hf:k<(qs.take i).length:=oa
  have hg:k<nms.length:=oa
  have hp:nms.take (k+1)=nms.take k++[nms[k]'hg]:=Ln hg;have hF:ys.length=k:=by have:=O0 oY Y;rw[Lo,LH]at this;omega
  have h6:nms[k]'hg=((qs.take i)[k]'hf).nm:=by subst hn;simp
  have ha:=Lm hg;rw[h6]at hp ha;refine QQ<|ZL<|QQ<|Qy ol ol<|xo ye (i:=k) (hS.st hs) Z Z hf λhG ho=>?_;refine Zg ((qs.take i)[k]'hf) λq hq=>?_;rw[hq]at ho hp ha;refine x (QF ho Z Z)<|QV [.string .empty,nS] λb5 w2 h7 h8 h9=>Q6 (Z4 q) h9 ⟨Z,((hX.each q (Ma (by rw[<-hq];exact Lm hf))).one),La⟩ λw3 hA hB=>xe ?_;have hv:sW w1 w3:=h7.O hA h8;refine QQ<|KM ol ?_;refine JD.pre3 ?_;refine Qa<|Qs Z hB Z Z<|xe<|xy (l:=l) Z (hY ys ⟨q.nm,ha⟩ w3 (ab hm hv) oa) λen W3 hC=>Or.elim hC (λh1=>⟨.bool true,h1.1,?_⟩) (λh1=>⟨.bool false,h1.1,?_⟩)
  ·refine JD.of_XL<|x (Zi Z)<|xe<|Kc Z<|Yd ?_;refine Qy ol ol<|QC Z Z<|Qa<|xe ?_;exact⟨(k+1,ys++[⟨q.nm,ha⟩]),og,Lb,Z,h5,(hs.D hv).lw h1.2.2,by rw[hp,Lv,Y];rfl,h1.2.1⟩
  refine JD.of_XL<|x (Zi Z)<|xe<|jU Z ?_;refine Ka ⟨λ_ h=>(by cases h),MB,[],λW' G=>⟨La,.inr ⟨ys++[⟨q.nm,ha⟩],La,?_⟩⟩⟩;exact h3 _ W3 W' none h1.2 ⟨G.os,G.tape,G.output,G.size,λk V _=>G.block k V oe⟩ (λr e=>by cases e)
 refine(callsIn_wide (n:=m)).2 ?_;have ea:(#[.func (.yield l) #[] #[]]++[sP I,sP O].toArray:Array O7)=#[.func (.yield l) #[] #[],sP I,sP O]:=oe
 rw[ea];unfold QT at key;refine Calls.mono key λe w' he=>?_;cases e with
 | returned v=>exact⟨⟨v,Z⟩,he⟩
 | panicked c=>exact he.elim
 | outgrown=>exact he.elim
theorem QlT {I O:Nat}{qs:List KV}{nms:List ByteArray}(hw:QN ↑w I 163 [vs,vx,vk])(hy:QN ↑w O 3 [sS i])(hX:jT L ↑w vk qs)(hi:i<=qs.length)(hn:nms=(qs.take i).map (·.nm)):
  SeqStopsK (fen none) m sV 178 #[sP I,sP O] (λx:{ x:ByteArray // x∈nms }=>[Value.string x.1].toArray) (Lw ↑w L)
   (λys=>ys.map (·.1)=nms) (λ_=>True) (nms.length+1) w:=by
 intro l J Jx W hz hJ h3 hY h0;have hh:sW w W:=xd.of_below hz;have ab:∀{ys:List { x:ByteArray // x∈nms }} {W1 W2:O6},J ys W1->sW W1 W2->J ys W2:=λ{ys W1 W2} hj U=>hJ ys W1 W2 none hj ⟨U.os,U.tape,U.output,U.size,λk V _=>U.block k V oe⟩ (λr e=>by cases e);have hD:=hX.arr.le;have hE:nms.length=i:=by rw[hn];simp;omega
 have key:QT sV 178 [.func (.yield l) #[] #[],sP I,sP O] W (λ_ W'=>(∃ys,ys.map (·.1)=nms/\J ys W')\/(∃pre,True/\Jx pre W')):=by
  refine QT.of_G m func178 Z ntmps178 results178 oe ?_;refine QQ<|Qy ol ol<|Qs Z (hw.I hh) Z Z<|ZD (hy.I hh) Z Z<|QpM hX.arr Z Z hi λv9 hr=>QG hr Z<|Qa<|xe ?_;have h4:(qs.take i).length=i:=by simp;omega
  have hS:Zw L ↑w v9 (qs.take i).length 3 ((qs.take i).flatMap Yl):=by
   rw[h4,<-Qlh Yl 3 yT];exact hr
  refine ZL<|K3 (α:=Nat×List { x:ByteArray // x∈nms }) [(5,5),(11,20)] (λz=>[(11,sS z.1)]) (λz ds W'=>ds=[]/\z.1<=i/\xd L w W'/\z.2.map (·.1)=nms.take z.1/\J z.2 W') (λz=>i - z.1) ol (0,[]) Lb
   ⟨Z,Lp _,hh.any,Z,h0⟩ ?_
  rintro⟨k,ys⟩ g ds w1 ⟨rfl,V,hs,Y,hm⟩;simp only[]at V Y hm;refine QQ<|Qy ol ol<|ZT Z Z<|xe<|QQ<|qm Z (λhu=>?_) (λhu=>?_)
  ·refine JQ ?_;rw[Ls oa]at Y;exact⟨λ_ h=>(by cases h),MB,[],λW' G=>⟨La,.inl ⟨ys,Y,ab hm G⟩⟩⟩
  refine Yd ?_;have h5:k<i:=by have ho:(k:Int)<(i:Int):=hu;omega
  have hf:k<(qs.take i).length:=oa
  have hg:k<nms.length:=oa
  have hp:nms.take (k+1)=nms.take k++[nms[k]'hg]:=Ln hg;have hF:ys.length=k:=by have:=O0 oY Y;rw[Lo,LH]at this;omega
  have h6:nms[k]'hg=((qs.take i)[k]'hf).nm:=by subst hn;simp
  have ha:=Lm hg;rw[h6]at hp ha;refine QQ<|ZL<|QQ<|Qy ol ol<|xo yT (i:=k) (hS.st hs) Z Z hf λhG ho=>?_;refine Zg ((qs.take i)[k]'hf) λq hq=>?_;rw[hq]at ho hp ha;refine x (QF ho Z Z)<|QV [.string .empty,nS,sS 0] λb5 w2 h7 h8 h9=>Q6 (Yl q) h9 ⟨Z,((hX.each q (Ma (by rw[<-hq];exact Lm hf))).one),Z,La⟩ λw3 hA hB=>xe ?_;have hv:sW w1 w3:=h7.O hA h8;refine QQ<|KM ol ?_;refine JD.pre3 ?_;refine Qa<|Qs Z hB Z Z<|xe<|xy (l:=l) Z (hY ys ⟨q.nm,ha⟩ w3 (ab hm hv) oa) λen W3 hC=>Or.elim hC (λh1=>⟨.bool true,h1.1,?_⟩) (λh1=>⟨.bool false,h1.1,?_⟩)
  ·refine JD.of_XL<|x (Zi Z)<|xe<|Kc Z<|Yd ?_;refine Qy ol ol<|QC Z Z<|Qa<|xe ?_;exact⟨(k+1,ys++[⟨q.nm,ha⟩]),og,Lb,Z,h5,(hs.D hv).lw h1.2.2,by rw[hp,Lv,Y];rfl,h1.2.1⟩
  refine JD.of_XL<|x (Zi Z)<|xe<|jU Z ?_;refine Ka ⟨λ_ h=>(by cases h),MB,[],λW' G=>⟨La,.inr ⟨ys++[⟨q.nm,ha⟩],La,?_⟩⟩⟩;exact h3 _ W3 W' none h1.2 ⟨G.os,G.tape,G.output,G.size,λk V _=>G.block k V oe⟩ (λr e=>by cases e)
 refine(callsIn_wide (n:=m)).2 ?_;have ea:(#[.func (.yield l) #[] #[]]++[sP I,sP O].toArray:Array O7)=#[.func (.yield l) #[] #[],sP I,sP O]:=oe
 rw[ea];unfold QT at key;refine Calls.mono key λe w' he=>?_;cases e with
 | returned v=>exact⟨⟨v,Z⟩,he⟩
 | panicked c=>exact he.elim
 | outgrown=>exact he.elim
theorem jj {sz:LI}{qx:List XV}{ks:List KV}(hS:Qu [] ↑w vs sz)(hX:Xcs [] ↑w vx qx)(hK:jT [] ↑w vk ks):
  QT sV 112 [.agg #[vs,vx,vk]] w λr w'=>r=sS (Xa sz (qx.map (·.x)) (ks.map (·.k)))/\sW w w':=by
 have gg:=hS.le;have gh:=hX.arr.le;have gi:=hK.arr.le;refine Zn func112 ?_;refine Qc<|Zd [vs,vx,vk] λb1 w1 I gj Y=>Qb<|Qd<|Qc<|Qs Z Y Z Z<|QG (hS.I I) Z<|x (Ya Z Z)<|xe<|Zh rfl (λh7=>?_) (λh7=>?_)
 ·refine Qc<|Qb<|Qk ⟨[_],Lb,by unfold Xa;rw[OZ (by have hR:(8:Int)<(sz.length:Int):=h7;omega)];rfl,I⟩
 have h5:¬8<sz.length:=by have hR:¬(8:Int)<(sz.length:Int):=h7;omega
 refine Qf<|Qd<|Qc<|Qs Z Y Z Z<|QG (hS.I I) Z<|Qa<|xe<|QY (α:=Nat) [(2,2),(4,4),(22,32)] (λz=>[(22,sS z)]) (λz w'=>z<=sz.length/\w'=w1/\(sz.drop z).any Jn=sz.any Jn) (λz=>sz.length - z) 0 Lb
  ⟨Lp _,Z,Z⟩ ?_
 rintro k g w2 ⟨hk,rfl,he⟩;refine Zk rfl Z (λh8=>?_) (λh8=>?_)
 ·refine Qt ?_;have hp:sz.length<=k:=by have h6:¬(k:Int)<(sz.length:Int):=h8;omega
  rw[Lx hp]at he;have h9:¬sz.any Jn=true:=by rw[<-he];decide
  refine Qd<|QX (α:=Bool) [(33,42)] (λz=>[(42,.bool z)]) (λz w'=>w'=w2/\z=decide (32<qx.length\/32<ks.length)) ol ?_ ?_
  ·refine Qr<|Qs Z Y Z Z<|QG (hX.I I).arr Z<|xb (Ya Z Z) (λhT=>?_) (λhT=>?_)
   ·refine Qa<|Zs<|Kd<|QB Z<|xe ?_;exact⟨_,Lb,Z,by first|exact bT oa|exact bF oa|exact bD oa⟩
   refine Qa<|Qs Z Y Z Z<|QG (hK.I I).arr Z<|x (Ya Z Z)<|QB Z<|xe ?_;exact⟨_,Lb,Z,by first|exact bT oa|exact bF oa|exact bD oa⟩
  rintro z g w3 ⟨rfl,rfl⟩;refine Zh Z (λhB=>?_) (λhB=>?_)
  ·refine Qc<|Qb<|Qk ⟨[_],Lb,by unfold Xa;rw[OY h5,OY h9,OZ (ox hB)];rfl,I⟩
  have hO:¬(32<(qx.map (·.x)).length\/32<(ks.map (·.k)).length):=by simpa using hB
  have hP:YU sz [] (qx.map (·.x))≠0->Xa sz (qx.map (·.x)) (ks.map (·.k))=YU sz [] (qx.map (·.x)):=λh=>by
   unfold Xa;rw[OY h5,OY h9,OY hO,OZ h]
  have hU:YU sz [] (qx.map (·.x))=0->Xa sz (qx.map (·.x)) (ks.map (·.k))=Xr sz [] (ks.map (·.k)):=λh=>by
   unfold Xa;rw[OY h5,OY h9,OY hO,OY (by rw[h];exact λh=>h Z)]
  refine Qf<|Qd<|Qc<|Qs Z (Y.I (xd.C [] w3)) Z Z<|QG ((hX.I I).I (xd.C [] w3)).arr Z<|Qa<|xe<|QY (α:=Nat) [(2,2),(5,9),(46,65)] (λz=>[(46,sS z)]) (λz w'=>z<=qx.length/\sW w3 w'/\YU sz ((qx.take z).map (·.nm)) ((qx.drop z).map (·.x))=YU sz [] (qx.map (·.x))) (λz=>qx.length - z) 0 Lb
   ⟨Lp _,(xd.C [] w3),Z⟩ ?_
  rintro k g wA ⟨hk,J,hck⟩;refine Zk Z Z (λhf=>?_) (λhf=>?_)
  ·refine Qt ?_;have hp:qx.length<=k:=by have hC:¬(k:Int)<(qx.length:Int):=hf;omega
   rw[Lx hp]at hck;have hV:YU sz [] (qx.map (·.x))=0:=hck.symm;have hD:=hU hV;refine Qd<|Qc<|Qs Z (Y.I J) Z Z<|QG ((hK.I I).I J).arr Z<|Qa<|xe<|QY (α:=Nat) [(2,2),(10,14),(69,88)] (λz=>[(69,sS z)]) (λz w'=>z<=ks.length/\sW w3 w'/\Xr sz ((ks.take z).map (·.nm)) ((ks.drop z).map (·.k))=Xr sz [] (ks.map (·.k))) (λz=>ks.length - z) 0 Lb
    ⟨Lp _,J,Z⟩ ?_
   rintro k g wA ⟨hk,J,hck⟩;refine Zk Z Z (λhf=>?_) (λhf=>?_)
   ·refine Qt ?_;have hp:ks.length<=k:=by have hC:¬(k:Int)<(ks.length:Int):=hf;omega
    rw[Lx hp]at hck;have hW:Xr sz [] (ks.map (·.k))=0:=hck.symm;refine Qc<|Qb<|Qk ⟨[_],Lb,by rw[hD,hW];rfl,I.D J⟩
   have G:k<ks.length:=by have hC:(k:Int)<(ks.length:Int):=hf;omega
   have hr:(ks.take (k+1)).map (·.nm)=(ks.take k).map (·.nm)++[(ks[k]'G).nm]:=by rw[Ln G,Lv];rfl
   rw[QZ G,L2]at hck;have hg:=Lm G;have O:=(hK.I I).I J;have hY:=Y.I J;refine Qf<|Qd<|Qn<|Ql<|xo yT O.arr Z Z G λaA hA=>?_;refine Zg (ks[k]'G) λq hq=>?_;rw[hq]at hA hck hr hg;have hs:=O.each q hg;refine x (QF hA Z Z)<|QV [sS 0] λb5 w3 hu hE hh=>QV [.string .empty,nS,sS 0] λb6 w4 hv hZ hF =>
    Qo<|Qv (j:=0) (u:=sS k) (hh.I hv) Z Z oh Z λw5 hw hG=>Q6 (Yl q) (hF.J hw (by have:=hh.lt;simp;omega)) ⟨Z,hs.one,Z,La⟩ λw6 hy hz=>xe ?_
   have ga:b5<b6:=by have:=hh.lt;omega
   have hj:sW wA w6:=((hu.D hv).O hw hE).O hy (oq hu.size);have hH:QN ↑w6 b5 3 [sS k]:=hG.J hy (by simp;omega);have h0:=hY.I hj;have gb:=O.I hj;refine Qc<|x Zl<|Qb<|Qd<|Qc<|Qs Z hz Z Z<|Qa<|Qw<|(QgK (nms:=(ks.take k).map (·.nm)) (capt:=[sP b1,sP b5]) (O.nm q hg) (λw' L hm hL=>QlT (h0.I hm) (hH.I hm) ((gb.up (λb hb=>.inr (hL b hb))).I hm) hk Z)).S ?_;rintro r7 w7 ⟨rfl,ho⟩;refine Qb ?_;have U:=hj.D ho;refine Ql<|ZS Z Z<|xe<|Zh Z (λha=>?_) (λha=>?_)
   ·have e1:Xr sz [] (ks.map (·.k))=VA ((ks.take k).map (·.nm)) q.nm:=by rw[<-hck];exact OZ ha
    refine Ql<|Qb<|Qk ⟨[_],Lb,by rw[hD,e1];rfl,I.D (J.D U)⟩
   have h3:(if XN sz q.k≠0 then XN sz q.k else Xr sz ((ks.take k).map (·.nm)++[q.nm]) ((ks.drop (k+1)).map (·.k)))=Xr sz [] (ks.map (·.k)):=by rw[<-hck];exact(OY ha).symm
   refine Qf ?_;have gc:=h0.I ho;have ge:=hz.I ho;refine Qc<|Q7 gc Z Z<|Q7 ge Z Z<|Qw<|(Un (((hS.I I).I J).I U) (hs.I U)).S ?_;rintro r8 w8 ⟨rfl,hI⟩;refine Qb ?_;have h4:=U.D hI;refine Ql<|ZS Z Z<|xe<|Zh Z (λV=>?_) (λV=>?_)
   ·have e1:Xr sz [] (ks.map (·.k))=XN sz q.k:=by rw[<-h3];exact OZ V
    have hQ:XN sz q.k≠0:=V;refine Ql<|Qb<|Qk ⟨[_],Lb,by rw[hD,e1];rfl,I.D (J.D h4)⟩
   have hJ:Xr sz ((ks.take k).map (·.nm)++[q.nm]) ((ks.drop (k+1)).map (·.k))=Xr sz [] (ks.map (·.k)):=by rw[<-h3];exact(OY V).symm
   refine Qf<|Qr<|QC Z Z<|Qa<|xe ?_;exact⟨k+1,oa,Lb,G,J.D h4,by rw[hr];exact hJ⟩
  have G:k<qx.length:=by have hC:(k:Int)<(qx.length:Int):=hf;omega
  have hr:(qx.take (k+1)).map (·.nm)=(qx.take k).map (·.nm)++[(qx[k]'G).nm]:=by rw[Ln G,Lv];rfl
  rw[QZ G,L2]at hck;have hg:=Lm G;have O:=(hX.I I).I J;refine Qf<|Qd<|Qn<|Ql<|xo ye O.arr Z Z G λaA hA=>?_;refine Zg (qx[k]'G) λq hq=>?_;rw[hq]at hA hck hr hg;have hs:=O.each q hg;refine x (QF hA Z Z)<|QV [sS 0] λb5 w3 hu hE hh=>QV [.string .empty,nS] λb6 w4 hv hZ hF =>
   Qo<|Qv (j:=0) (u:=sS k) (hh.I hv) Z Z oh Z λw5 hw hG=>Q6 (Z4 q) (hF.J hw (by have:=hh.lt;simp;omega)) ⟨Z,hs.one,La⟩ λw6 hy hz=>xe ?_
  have ga:b5<b6:=by have:=hh.lt;omega
  have hj:sW wA w6:=((hu.D hv).O hw hE).O hy (oq hu.size);have hH:QN ↑w6 b5 3 [sS k]:=hG.J hy (by simp;omega);have h0:=(Y.I J).I hj;refine Qc<|x Zl<|Qb<|Qd<|Qc<|Qs Z hz Z Z<|Qa<|Qw<|(QgK (nms:=(qx.take k).map (·.nm)) (capt:=[sP b1,sP b5]) (O.nm q hg) (λw' L hm hL=>Qlu (h0.I hm) (hH.I hm) (((O.I hj).up (λb hb=>.inr (hL b hb))).I hm) hk Z)).S ?_;rintro r7 w7 ⟨rfl,ho⟩;refine Qb ?_;have U:=hj.D ho;refine Ql<|ZS Z Z<|xe<|Zh Z (λha=>?_) (λha=>?_)
  ·have e1:YU sz [] (qx.map (·.x))=VA ((qx.take k).map (·.nm)) q.nm:=by rw[<-hck];exact OZ ha
   refine Ql<|Qb<|Qk ⟨[_],Lb,by rw[hP (by rw[e1];exact ha),e1];rfl,I.D (J.D U)⟩
  have h3:(if J5 sz q.ls≠0 then J5 sz q.ls else YU sz ((qx.take k).map (·.nm)++[q.nm]) ((qx.drop (k+1)).map (·.x)))=YU sz [] (qx.map (·.x)):=by rw[<-hck];exact(OY ha).symm
  refine Qf<|Qc<|Q7 (h0.I ho) Z Z<|Q7 (hz.I ho) Z Z<|Qw<|(qd (((hS.I I).I J).I U) (hs.I U)).S ?_;rintro r8 w8 ⟨rfl,hI⟩;refine Qb ?_;have h4:=U.D hI;refine Ql<|ZS Z Z<|xe<|Zh Z (λV=>?_) (λV=>?_)
  ·have e1:YU sz [] (qx.map (·.x))=J5 sz q.ls:=by rw[<-h3];exact OZ V
   have hQ:J5 sz q.ls≠0:=V;refine Ql<|Qb<|Qk ⟨[_],Lb,by rw[hP (by rw[e1];exact hQ),e1];rfl,I.D (J.D h4)⟩
  have hJ:YU sz ((qx.take k).map (·.nm)++[q.nm]) ((qx.drop (k+1)).map (·.x))=YU sz [] (qx.map (·.x)):=by rw[<-h3];exact(OY V).symm
  refine Qf<|Qr<|QC Z Z<|Qa<|xe ?_;exact⟨k+1,oa,Lb,G,J.D h4,by rw[hr];exact hJ⟩
 have G:k<sz.length:=by have h6:(k:Int)<(sz.length:Int):=h8;omega
 rw[QZ G,List.any_cons]at he;refine Qf<|Qd<|Qn<|Qc<|xii (hS.I I) Z Z G λgk h6=>?_;refine Zg (sz[k]'G) λn hn=>?_;rw[hn]at h6 he;refine x (Qq h6 Z)<|Qb<|QX (α:=Bool) [(26,31)] (λz=>[(31,.bool z)]) (λz w'=>w'=w2/\z=Jn n) ol ?_ ?_
 ·refine Qr<|Qa<|xb (YF Z Z) (λhM=>?_) (λhM=>?_)
  ·refine Qa<|YN<|QB Z<|xe ?_;exact⟨_,Lb,Z,by unfold Jn;rw[O2 hM];rfl⟩
  refine Qa<|Qa<|x (Ya Z Z)<|QB Z<|xe ?_;exact⟨_,Lb,Z,by unfold Jn;rw[O4 hM];rfl⟩
 rintro z g w3 ⟨rfl,rfl⟩;refine Q5 rfl (λhN=>?_) (λhN=>?_)
 ·refine Qc<|Qb<|Qk ⟨[_],Lb,by unfold Xa;rw[OY h5,OZ (by rw[<-he,hN];rfl)];rfl,I⟩
 rw[hN,Bool.false_or]at he;refine Qf<|Qr<|QC Z Z<|Qa<|xe ?_;exact⟨k+1,oa,Lb,G,Z,he⟩
end Go.Lg
