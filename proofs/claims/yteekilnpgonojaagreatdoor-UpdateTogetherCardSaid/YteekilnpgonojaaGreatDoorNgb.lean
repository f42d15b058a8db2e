/- Merged out of 53 texts. -/
import Derived.Test.YteekilnpgonojaaGreatDoorNga
import Derived.RangeFuncNested
import Derived.RangeFuncLeaves
import Derived.RangeFuncCalls
import Derived.OrdersIn
import Derived.TacticsIn
import Derived.Laws.StructEq
import Derived.Laws.Strings
set_option maxHeartbeats 40000000
set_option maxRecDepth 100000
set_option linter.all false
open Go Go.Lg
open Go.Value renaming int->oG
open Go.IntKind renaming i64->oH
open _root_.List renaming mem_singleton->oJ,not_mem_nil->oK,mem_cons->oL,length_append->oN,replicate->oO,length_singleton->oP,length->oQ,getD->oR,range'->oS,all_cons->oU,range->oV,mem_append->oW,length_cons->oX,map_cons->oY,getElem?_toArray->o0,append_assoc->o6,size_toArray->Od,flatMap_cons->Of,getElem?_eq_getElem->Og,cons_append->Oh,all_eq_true->Ok,headD_cons->On,tail_cons->Oo,singleton_append->Ow,append_nil->Oy,mem_map->OA,mem_range'_1->OB,range'_succ->OC,mem_filter->OH,take_append->OK,map_nil->OL,flatMap_nil->OM
open _root_.Bool renaming and_eq_true->oM,not_eq_true'->Oe,or_eq_false_iff->Oi,or_eq_true->OG,true_and->OO
open _root_.Array renaming replicate->oT
open _root_.Nat renaming add_mul->Oq,add_assoc->ON,zero_mul->OP,beq->OS
open _root_.Int renaming toNat_natCast->Ou
open _root_.Option renaming map_some->Oz
open Go renaming World->O1,Value->O2,Operand->O3,Program->O4
open Go.Proofs Go.Proofs.Tryz
open Go.Proofs.Tryz renaming prog->sV
variable {w w' W':O1}{L L' X ds ns:LN}{n t i sz b T j g E N id ty cap b1 B kt lo hi b2 et M gf gp:Nat}{cs us news capt:LV}{H:xC}{a:Q6}{α β:Type}{y G:O3}{z va ve vm vt v' vl vs vx vk:O2}{l u al ul out rs:LI}{f f1:Fr}{P:O4}{fn:Func}{aa:List Q6}{o:Oper}{es:List Ed}{d:xF}{af:xD}{gd:xt}{K:xz}{k':IntKind}{at_:Array Nat}{rest:xu}{Φ:O2→O1→Prop}{Dc:xw}{ops:xE}
namespace Go.Lg
theorem Y8.lt_of {a:Int}(h:Y8 (a::l)){x:Int}(hx:x∈l):a<x:=(L6.1 h).1 x hx
theorem Y8.tail {a:Int}(h:Y8 (a::l)):Y8 l:=(L6.1 h).2
theorem Qmc (keep:Bool->Bool->Bool):∀(n:Nat) (a b:LI),a.length+b.length<=n->Y8 a->Y8 b->∀x,x∈mrg keep a b↔(x∈a\/x∈b)/\keep (decide (x∈a)) (decide (x∈b))=true:=by
 intro n;induction n with
 | zero =>
  intro a b h _ _ x;have S:a=[]:=Lr oa;have T:b=[]:=Lr oa;subst S T;simp[K4]
 | succ n ih =>
  intro a b H ia ib x;cases a with
  | nil =>
   cases b with
   | nil=>simp[K4]
   | cons y b =>
    rw[KC keep od];have:=ih [] b (by simp at H ⊢;omega) ia ib.tail x;have G:y∉b:=λh=>ov (ib.lt_of h)
    simp only[JE,tl,hx,cond_true,cond_false,Oo,On,oW];rw[this];by_cases e:x=y
    ·subst e;cases E:keep false true <;> simp[E,G]
    cases keep false true <;> simp[e]
  | cons u a =>
   cases b with
   | nil =>
    rw[KC keep od];have:=ih a [] (by simp at H ⊢;omega) ia.tail ib x;have G:u∉a:=λh=>ov (ia.lt_of h)
    simp only[JE,tl,hx,cond_true,cond_false,Oo,On,oW];rw[this];by_cases e:x=u
    ·subst e;cases E:keep true false <;> simp[E,G]
    cases keep true false <;> simp[e]
   | cons y b =>
    rw[KC keep od];have O:u∉a:=λh=>ov (ia.lt_of h)
    have G:y∉b:=λh=>ov (ib.lt_of h)
    rcases Int.lt_trichotomy u y with I|I|I
    ·have J:u∉y::b:=λh=>by
      rcases Li.1 h with h|h
      ·omega
      have:=ib.lt_of h;omega
     have:=ih a (y::b) (by simp at H ⊢;omega) ia.tail ib x;have e1:decide (u<=y)=true:=OX oa;have e2:decide (y<=u)=false:=OZ oa;simp only[JE,tl,hx,e1,e2,cond_true,cond_false,Oo,On,oW];rw[this];by_cases e:x=u
     ·subst e;cases E:keep true false <;> simp[E,O,J]
     cases keep true false <;> simp[e]
    ·subst I;have:=ih a b (by simp at H ⊢;omega) ia.tail ib.tail x;have e1:decide (u<=u)=true:=OX oa;simp only[JE,tl,hx,e1,cond_true,Oo,On,oW];rw[this];by_cases e:x=u
     ·subst e;cases E:keep true true <;> simp[E,O,G]
     cases keep true true <;> simp[e]
    have J:y∉u::a:=λh=>by
     rcases Li.1 h with h|h
     ·omega
     have:=ia.lt_of h;omega
    have:=ih (u::a) b (by simp at H ⊢;omega) ia ib.tail x;have e1:decide (u<=y)=false:=OZ oa;have e2:decide (y<=u)=true:=OX oa;simp only[JE,tl,hx,e1,e2,cond_true,cond_false,Oo,On,oW];rw[this];by_cases e:x=y
    ·subst e;cases E:keep false true <;> simp[E,G,J]
    cases keep false true <;> simp[e]
theorem zV {keep:Bool->Bool->Bool}{a b:LI}(ia:Y8 a)(ib:Y8 b)(x:Int):x∈mrg keep a b↔(x∈a\/x∈b)/\keep (decide (x∈a)) (decide (x∈b))=true :=
 Qmc keep _ a b (Lv _) ia ib x
def setK (m k:Nat):LI:=((oS 0 k).filter λi=>decide (((m / 2 ^ i) &&& 1)=1)).map λi:Nat=>(i:Int)
theorem qz (m k:Nat):setK m (k+1)=if(m / 2 ^ k) &&& 1=1 then setK m k++[(k:Int)]else setK m k:=by
 unfold setK;rw[Mz,L3,Lp,LS];by_cases h:(m / 2 ^ k) &&& 1=1
 ·rw[OU h,Mb,OU (OX h)];rfl
 rw[OT h,Mb,OT (by rw[OZ h];simp),Nj,Nn,LR]
theorem JT (m:Nat):∀k,(setK m k).length<=k
 | 0=>by simp[setK]
 | k+1=>by
  have:=JT m k;rw[qz];split
  ·simp;omega
  omega
theorem Qci (m k:Nat):Y8 (setK m k):=by
 unfold setK Y8;rw[MO];refine List.Pairwise.sublist MY ?_;exact(Ng (s:=0) (n:=k)).imp (λh=>oa)
instance ayCx1:Ay sV 113 4 5 1:=⟨oe,oe⟩
section
variable {pS:String}{all:xE}{C:xA}
theorem tp {l:xu}(h:XP P all C K l f w):XT P all C K (.pl l) f w:=h
end
section
variable {pS:String}
end
inductive Pu where
 | pl (l:xu)
 | f2 (pre:xu) (i j:Nat) (t1 t2:Pu)
 | f3 (pre:xu) (i j k:Nat) (t1 t2 t3:Pu)
def Pu.len:Pu->Nat
 | .pl l=>l.length
 | .f2 pre _ _ t1 _=>pre.length+(1+t1.len)
 | .f3 pre _ _ _ t1 _ _=>pre.length+(1+t1.len)
def Qbl (all:Array Oper):Pu->Array Bool->Bool
 | .pl l,ls=>Xo all l ls
 | .f2 pre i j t1 t2,ls=>Kh all pre ls && Region.ready .any all (Yb pre ls) == [i,j] && t1.len == t2.len && Qbl all t1 ((Yb pre ls).setIfInBounds i true) && Qbl all t2 ((Yb pre ls).setIfInBounds j true)
 | .f3 pre i j k t1 t2 t3,ls=>Kh all pre ls && Region.ready .any all (Yb pre ls) == [i,j,k] && t1.len == t2.len && t1.len == t3.len && Qbl all t1 ((Yb pre ls).setIfInBounds i true) && Qbl all t2 ((Yb pre ls).setIfInBounds j true) && Qbl all t3 ((Yb pre ls).setIfInBounds k true)
def Qqe (all:xE)(t:Pu):Bool:=Region.noSelect all.toArray && t.len == all.length && Qbl all.toArray t (oT all.length false)
def XE (P:O4)(all:xE)(C:xA)(i:Nat)(N:xz)(f:Fr)(w:O1):Prop:=Z9 all f (QR all i)=true/\XO P (QR all i) f w λE w'=>C w'/\N E w'
def XU (P:O4)(all:xE)(C:xA)(K:xz):Pu->Fr->O1->Prop
 | .pl l=>XP P all C K l
 | .f2 pre i j t1 t2=>XP P all C (λf w=>XE P all C i (XU P all C K t1) f w/\XE P all C j (XU P all C K t2) f w) pre
 | .f3 pre i j k t1 t2 t3=>XP P all C (λf w=>XE P all C i (XU P all C K t1) f w/\XE P all C j (XU P all C K t2) f w/\XE P all C k (XU P all C K t3) f w) pre
section
variable {all:xE}{C:xA}{B:xz}
theorem KQ (E:Region.noSelect all.toArray=true):∀(t:Pu) (ls:Array Bool) (f:Fr) (w:O1),ls.size=all.length->C w->Qbl all.toArray t ls=true->XU P all C K t f w->XA P all C K t.len ls f w
 | .pl l,ls,f,w,S,T,G,h=>ZY E l ls f w S (.inl T) G h
 | .f2 pre i j t1 t2,ls,f,w,S,T,G,h=>by
  simp only[Qbl,oM,beq_iff_eq]at G;obtain⟨⟨⟨⟨Y,H⟩,hl⟩,h1⟩,h2⟩:=G;rw[Pu.len];refine YQ (B:=λf w=>XE P all C i (XU P all C K t1) f w/\XE P all C j (XU P all C K t2) f w) E pre ls f w T Y (λf I=>?_) h;have J:∀k,((Yb pre ls).setIfInBounds k true).size=all.length:=λk=>by simp[YU,S]
  rw[Nb 1];refine X2 (λh0=>(by rw[h0]at H;cases H)) ?_;rw[H];intro k V o O;simp only[oL,oK,or_false]at V;rcases V with rfl|rfl
  ·have:=I.1;unfold XE at this;rw[Zs O]at this;rw[this.1,cond_true];exact this.2.mono λv w' hx=>⟨.inr (.inr hx.1),KQ E t1 _ _ _ (J _) hx.1 h1 hx.2⟩
  have:=I.2;unfold XE at this;rw[Zs O]at this;rw[this.1,cond_true,hl];exact this.2.mono λv w' hx=>⟨.inr (.inr hx.1),KQ E t2 _ _ _ (J _) hx.1 h2 hx.2⟩
 | .f3 pre i j k t1 t2 t3,ls,f,w,S,T,G,h=>by
  simp only[Qbl,oM,beq_iff_eq]at G;obtain⟨⟨⟨⟨⟨⟨Y,H⟩,hl⟩,ha⟩,h1⟩,h2⟩,h3⟩:=G;rw[Pu.len];refine YQ (B:=λf w=>XE P all C i (XU P all C K t1) f w/\XE P all C j (XU P all C K t2) f w/\XE P all C k (XU P all C K t3) f w) E pre ls f w T Y (λf I=>?_) h;have J:∀k,((Yb pre ls).setIfInBounds k true).size=all.length:=λk=>by simp[YU,S]
  rw[Nb 1];refine X2 (λh0=>(by rw[h0]at H;cases H)) ?_;rw[H];intro q V o O;simp only[oL,oK,or_false]at V;rcases V with rfl|rfl|rfl
  ·have:=I.1;unfold XE at this;rw[Zs O]at this;rw[this.1,cond_true];exact this.2.mono λv w' hx=>⟨.inr (.inr hx.1),KQ E t1 _ _ _ (J _) hx.1 h1 hx.2⟩
  ·have:=I.2.1;unfold XE at this;rw[Zs O]at this;rw[this.1,cond_true,hl];exact this.2.mono λv w' hx=>⟨.inr (.inr hx.1),KQ E t2 _ _ _ (J _) hx.1 h2 hx.2⟩
  have:=I.2.2;unfold XE at this;rw[Zs O]at this;rw[this.1,cond_true,ha];exact this.2.mono λv w' hx=>⟨.inr (.inr hx.1),KQ E t3 _ _ _ (J _) hx.1 h3 hx.2⟩
theorem Qno {Q:Exit->Fr->O1->Prop}(C:xA)(t:Pu)(H:P.follows .mixedOrders=true)(I:XI n all=true)(E:Qqe all t=true)
  (J:C { w with drawn:=w.drawn+1 }) (h:XU P all C (λf w=>Q .normal f w) t f { w with drawn:=w.drawn+1 }):W P n (.region id all.toArray true) Q f w:=by
 simp only[Qqe,oM,beq_iff_eq]at E;obtain⟨⟨O,S⟩,E⟩:=E;refine J2 C H I ?_;have G:=KQ O t _ _ _ od J E h;rw[S]at G;exact G
theorem uP {l:xu}(h:XP P all C K l f w):XU P all C K (.pl l) f w:=h
theorem u2 {pre:xu}{E G:Pu}(h:XP P all C (λf w=>XE P all C i (XU P all C K E) f w/\XE P all C j (XU P all C K G) f w) pre f w):XU P all C K (.f2 pre i j E G) f w:=h
theorem u3 {pre:xu}{k:Nat}{E G H:Pu}(h:XP P all C (λf w=>XE P all C i (XU P all C K E) f w/\XE P all C j (XU P all C K G) f w/\XE P all C k (XU P all C K H) f w) pre f w):XU P all C K (.f3 pre i j k E G H) f w:=h
theorem ue {N:xz}(h:XO P (QR all i) f w λE w'=>C w'/\N E w')(G:Z9 all f (QR all i)=true:=by rfl):XE P all C i N f w:=⟨G,h⟩
end
attribute [irreducible] XU XE
open Go.RowKit
def sl (d:xF)(f:Fr):O2:=match d with|some d=>f d|none=>undef
def ow:O2->LN
 | .slice (some a) _ _=>[a.block]
 | .pointer (some a)=>[a.block]
 | .map (some b)=>[b]
 | _=>[]
def Fa (p:Nat->Prop):LN->Prop
 | []=>True
 | i::l=>p i/\Fa p l
theorem Fa.all {p:Nat->Prop}:∀{l:LN},Fa p l->∀i∈l,p i
 | [],_,_,hi=>by cases hi
 | j::l,h,i,hi=>by
  rcases Li.1 hi with rfl|hi
  ·exact h.1
  exact Fa.all h.2 i hi
theorem Fa.of {p:Nat->Prop}:∀{l:LN},(∀i∈l,p i)->Fa p l
 | [],_=>trivial
 | i::_,h=>⟨h i Lq,Fa.of λj E=>h j (Lj _ E)⟩
def yC (all:Array Oper)(opn:LN)(rest:xu):Nat->Array Bool->Bool
 | 0,ls=>Xo all rest ls && opn.all λi=>ls.getD i false
 | k+1,ls=>!(Region.ready .any all ls).isEmpty && (Region.ready .any all ls).all λi=>opn.contains i && yC all opn rest k (ls.setIfInBounds i true)
def QcC (all:xE)(D:xw):LN->Bool
 | []=>true
 | i::l=>(QR all i).guard.isNone && (match (QR all i).dst with|some d=>Y3 D d && l.all (λj=>!((QR all j).dst == some d))|none=>false) && !l.contains i && QcC all D l
theorem K0 {all:xE}{D:xw}:∀{l:LN},QcC all D l=true->(∀i∈l,(QR all i).guard=none/\∃d,(QR all i).dst=some d/\Y3 D d=true)/\∀i∈l,∀j∈l,i≠j->(QR all i).dst≠(QR all j).dst
 | [],_=>⟨λ_ h=>(by cases h),λ_ h=>(by cases h)⟩
 | i::l,h=>by
  simp only[QcC,oM,Option.isNone_iff_eq_none]at h;obtain⟨⟨⟨O,hd⟩,T⟩,S⟩:=h;have ih:=K0 S;cases G:(QR all i).dst with
  | none=>rw[G]at hd;cases hd
  | some d =>
   rw[G]at hd;simp only[oM,Ok,Oe,beq_eq_false_iff_ne,ne_eq]at hd;have H:∀j∈l,(QR all j).dst≠some d:=λj E=>hd.2 j E;refine⟨λj E=>?_,λj E k I J=>?_⟩
   ·rcases Li.1 E with rfl|E
    ·exact⟨O,d,G,hd.1⟩
    exact ih.1 j E
   rcases Li.1 E with hj1|hj1
   ·rcases Li.1 I with hk1|hk1
    ·exact OW (hj1.D hk1.symm) J
    rw[hj1,G];exact λe=>H k hk1 e.symm
   rcases Li.1 I with hk1|hk1
   ·rw[hk1,G];exact H j hj1
   exact ih.2 j hj1 k hk1 J
def QqI (all:xE)(pre:xu)(opn:LN)(rest:xu)(D:xw):Bool :=
 Region.noSelect all.toArray && (pre.length+(opn.length+rest.length) == all.length) && Kh all.toArray pre (oT all.length false) && QcC all D opn && yC all.toArray opn rest opn.length (Yb pre (oT all.length false))
  && opn.all λi=>!((Yb pre (oT all.length false)).getD i false)
section
variable {all:xE}{C:xA}
theorem XY (h:o.guard=none):Z9 all f o=true:=by unfold Z9;rw[h]
theorem Qgj {α:Type}{D:xw}{opn:LN}{rest:xu}{Φ:Nat->O2->O1->Prop}{S:α->List (Nat×O2)}{I:α->O1->Prop}{f1:Fr}(hs:Region.noSelect all.toArray=true)(hc:QcC all D opn=true)
  (hn:∀w w',C w->sX w w'->C w') (stab:∀i v w w',Φ i v w->sX w w'->Φ i v w')
  (hq:∀(g:Fr) w,Fa (λi=>Φ i (sl (QR all i).dst g) w) opn->(∀i∈opn,∀j∈opn,i≠j->∀b∈ow (sl (QR all i).dst g),b∉ow (sl (QR all j).dst g))->∃z,Y0 g (S z)/\I z w)
  (spec:Fa (λi=>∀g w,C w->XO P (QR all i) (mix D f1 g) w (λf' w'=>sX w w'/\Φ i (sl (QR all i).dst f') w'/\∀b∈ow (sl (QR all i).dst f'),↑w<=b/\b<↑w')) opn)
  (fin:∀z g w,C w->I z w->XP P all C K rest (UO (S z) (mix D f1 g)) w):
  ∀(k:Nat) (ls:Array Bool) (f:Fr) (w:O1),ls.size=all.length->C w->yC all.toArray opn rest k ls=true->(∀t,Y3 D t=false->f t=f1 t)->(∀i∈opn,ls.getD i false=true->Φ i (sl (QR all i).dst f) w) ->
   (∀i∈opn,ls.getD i false=true->(∀b∈ow (sl (QR all i).dst f),b<↑w)/\∀j∈opn,ls.getD j false=true->i≠j->∀b∈ow (sl (QR all i).dst f),b∉ow (sl (QR all j).dst f))->XA P all C K (k+rest.length) ls f w
 | 0,ls,f,w,hh,hC,H,hf,hl,O=>by
  simp only[yC,oM,Ok]at H;obtain⟨z,h1,h2⟩:=hq f w (Fa.of λi hi=>hl i hi (H.2 i hi)) (λi hi j G E=>(O i hi (H.2 i hi)).2 j G (H.2 j G) E);have h3:=fin z f w hC h2;rw[Jb hf,Xg h1]at h3;rw[LS];exact ZY hs rest ls f w hh (.inl hC) H.1 h3
 | k+1,ls,f,w,hh,hC,H,hf,hl,O=>by
  simp only[yC,oM,Ok,List.contains_iff_mem]at H;obtain⟨he,H⟩:=H;rw[Nat.add_right_comm];refine X2 (λh0=>(by rw[h0]at he;cases he)) ?_;intro i hi o ho;obtain⟨hm,hy⟩:=H i hi;obtain⟨hg,d,hd,h4⟩:=(K0 hc).1 i hm;have hsp:=Fa.all spec i hm f w hC;rw[Jb hf]at hsp;have T:=Zs ho;rw[T]at hg hd hsp;rw[XY hg,cond_true];refine hsp.mono λv w' hx=>?_;have hr:=hn w w' hC hx.1;have hz:=hx.1.size;have old:∀j∈opn,j≠i->sl (QR all j).dst (QN f o.dst v)=sl (QR all j).dst f:=λj G E=>by
   obtain⟨_,dj,hu,_⟩:=(K0 hc).1 j G;have he:o.dst≠some dj:=λe=>((K0 hc).2) j G i hm E (by rw[hu,T];exact e.symm);rw[hu];exact Y1 he v
  have lsj:∀j,j≠i->(ls.setIfInBounds i true).getD j false=true->ls.getD j false=true:=λj E h=>by rw[getD_set_ne false (Ne.symm E)]at h;exact h
  refine⟨.inr (.inr hr),Qgj hs hc hn stab hq spec fin k _ _ _ (oA hh) hr hy (λt ht=>?_) (λj G ha=>?_) (λj G ha=>⟨λb J=>?_,λk hk hv hw b J V=>?_⟩)⟩
  ·rw[Y1 (by rw[hd];intro e;cases e;rw[h4]at ht;cases ht)];exact hf t ht
  ·by_cases E:j=i
   ·subst E;have h2:=hx.2.1;rw[T];exact h2
   rw[old j G E];exact stab _ _ _ _ (hl j G (lsj j E ha)) hx.1
  ·by_cases E:j=i
   ·subst E;rw[T]at J;exact(hx.2.2 b J).2
   rw[old j G E]at J;have:=(O j G (lsj j E ha)).1 b J;omega
  by_cases E:j=i
  ·subst E;have Y:k≠j:=Ne.symm hw;rw[old k hk Y]at V;rw[T]at J;have h1:=(O k hk (lsj k Y hv)).1 b V;have h2:=(hx.2.2 b J).1;omega
  rw[old j G E]at J;have h1:=(O j G (lsj j E ha)).1 b J;by_cases Y:k=i
  ·subst Y;rw[T]at V;have h2:=(hx.2.2 b V).1;omega
  rw[old k hk Y]at V;exact(O j G (lsj j E ha)).2 k hk (lsj k Y hv) hw b J V
theorem Qnp {Q:Exit->Fr->O1->Prop}(C:xA)(pre:xu)(opn:LN)(rest:xu)(D:xw)(Φ:Nat->O2->O1->Prop)(S:α->List (Nat×O2))(I:α->O1->Prop)
  (hm:P.follows .mixedOrders=true) (hn:XI n all=true) (G:QqI all pre opn rest D=true) (H:C { w with drawn:=w.drawn+1 }) (ha:∀w w',C w->sX w w'->C w') (stab:∀i v w w',Φ i v w->sX w w'->Φ i v w')
  (hb:∀(g:Fr) w,Fa (λi=>Φ i (sl (QR all i).dst g) w) opn->(∀i∈opn,∀j∈opn,i≠j->∀b∈ow (sl (QR all i).dst g),b∉ow (sl (QR all j).dst g))->∃z,Y0 g (S z)/\I z w)
  (h:XP P all C (λf1 _=>Fa (λi=>∀g w,C w->XO P (QR all i) (mix D f1 g) w (λJ w'=>sX w w'/\Φ i (sl (QR all i).dst J) w'/\∀b∈ow (sl (QR all i).dst J),↑w<=b/\b<↑w')) opn /\
   ∀z g w,C w->I z w->XP P all C (λf w=>Q .normal f w) rest (UO (S z) (mix D f1 g)) w) pre f { w with drawn:=w.drawn+1 }):W P n (.region id all.toArray true) Q f w:=by
 simp only[QqI,oM,beq_iff_eq,Ok,Oe]at G;obtain⟨⟨⟨⟨⟨O,T⟩,hq⟩,hc⟩,he⟩,V⟩:=G;refine J2 C hm hn ?_;rw[<-T];have hf:(oT all.length false).size=all.length:=od
 have Y:=YQ (K:=λf w=>Q .normal f w) (m:=opn.length+rest.length) O pre (oT all.length false) f _ H hq (λf1 hB=>Qgj (P:=P) (C:=C) O hc ha stab hb hB.1 hB.2 opn.length (Yb pre (oT all.length false)) f1 _ (by rw[YU];exact hf) H he (λ_ _=>U) (λi hi E=>by rw[V i hi]at E;cases E) (λi hi E=>by rw[V i hi]at E;cases E)) h;rw[T]at Y ⊢;exact Y
end
section
variable {pS:String}
theorem flA [Ze P t z]{E:O1}{e:Nat}(us:LV)(G:sX E w)(S:z.cells=us.toArray:=by rfl):XO P ⟨some e,.alloc t,ty,pS,af,gd⟩ f w λH w'=>sX w w'/\sX E w'/\(∃b,H e=sP b/\↑E<=b/\QY w'.heap b t us)/\∀b∈ow (H e),↑w<=b/\b<w'.heap.size:=K1 S λb w' I J O=>by
 have e1:QN f (some e) (sP b) e=sP b:=by simp[QN,upd]
 show sX w w'/\sX E w'/\(∃b',QN f (some e) (sP b) e=sP b'/\↑E<=b'/\QY w'.heap b' t us)/\∀b'∈ow (QN f (some e) (sP b) e),↑w<=b'/\b'<↑w';rw[e1];exact⟨I,G.D I,⟨b,U,LH G.size J,O⟩,λx hx=>by rw[show x=b by simpa using(show x∈[b] from hx)];exact⟨J,O.lt⟩⟩
end
abbrev fen (ro:xF):Fence:={ Fence.wide with round:=ro }
def coll (ds:LN):List Deferred:=ds.map λD=>{ target:=.collected D,args:=#[] }
structure Xm (n:Nat)(ds:LN)(a:Act)(f:Fr):Prop where
 size:a.tmps.size=n
 defers:a.defers=coll ds
 get:∀t,a.tmps.getD t undef=f t
theorem Xm.rel {a:Act}(h:Xm n ds a f):Rel n { a with defers:=[] } f:=⟨h.size,U,h.get⟩
theorem Xm.eval {n:Nat}{ds:LN}{a:Act}{f:Fr}(h:Xm n ds a f):a.eval=ev f:=by
 have:=h.rel.eval;rw[<-this];funext x;cases x <;> rfl
theorem Xm.put {n:Nat}{ds:LN}{a:Act}{f:Fr}(h:Xm n ds a f){dst:xF}(hd:∀d,dst=some d->d<n)(v:O2):Xm n ds (a.put dst v) (QN f dst v):=by
 have:=h.rel.put hd v;cases dst with
 | none=>exact h
 | some d=>exact⟨this.size,h.defers,this.get⟩
def Js:Code->Nat->Bool
 | .region _ ops _,t=>Yl ops.toList t
 | .seq a b,t=>Js a t || Js b t
 | .cond _ a b,t=>Js a t || Js b t
 | .block _ a,t=>Js a t
 | .loop a,t=>Js a t
 | .skip,_| .exit _,_| .label _,_| .goto _,_| .ret,_| .rangeFunc ..,_=>false
 | _,_=>true
def wrG (D:xw):Code->Bool
 | .region _ ops _=>QeR D ops.toList
 | .seq a b=>wrG D a && wrG D b
 | .cond _ a b=>wrG D a && wrG D b
 | .block _ a=>wrG D a
 | .loop a=>wrG D a
 | .skip| .exit _| .label _| .goto _| .ret| .rangeFunc ..=>true
 | _=>false
theorem Kc {D:xw}{t:Nat}(E:Y3 D t=false):∀c:Code,wrG D c=true->Js c t=false
 | .region _ ops _,h=>jU h E
 | .seq a b,h=>by simp only[wrG,oM]at h;simp[Js,Kc E a h.1,Kc E b h.2]
 | .cond _ a b,h=>by simp only[wrG,oM]at h;simp[Js,Kc E a h.1,Kc E b h.2]
 | .block _ a,h=>Kc E a (by simpa[wrG]using h)
 | .loop a,h=>Kc E a (by simpa[wrG]using h)
 | .skip,_=>rfl
 | .exit _,_=>rfl
 | .label _,_=>rfl
 | .goto _,_=>rfl
 | .ret,_=>rfl
 | .rangeFunc ..,_=>rfl
 | .scope _,h=>by simp[wrG]at h
 | .refuse _,h=>by simp[wrG]at h
def WG (ro:xF)(m:Nat)(P:O4)(n:Nat)(c:Code)(Q:Exit->LN->Fr->O1->Prop)(ds:LN)(f:Fr)(w:O1):Prop :=
 ∀a,Xm n ds a f->c.wpIn (fen ro) m P (λe E w'=>∃ds' f',Xm n ds' E f'/\(∀t,Js c t=false->f' t=f t)/\Q e ds' f' w') a w
def QdO (K:LN->Fr->O1->Prop)(Q:Exit->LN->Fr->O1->Prop):Exit->LN->Fr->O1->Prop
 | .normal,ds,f,w=>K ds f w
 | e,ds,f,w=>Q e ds f w
def QqU (id:Nat)(Q:Exit->LN->Fr->O1->Prop):Exit->LN->Fr->O1->Prop
 | .exit i,ds,f,w=>bif OS i id then Q .normal ds f w else Q (.exit i) ds f w
 | e,ds,f,w=>Q e ds f w
section
variable {ro:xF}{m:Nat}{Q:Exit->LN->Fr->O1->Prop}
theorem WG.mono {c:Code}{Q':Exit->LN->Fr->O1->Prop}(h:WG ro m P n c Q ds f w)(E:∀e ds f w,Q e ds f w->Q' e ds f w):WG ro m P n c Q' ds f w :=
 λa G=>wpIn_mono (h a G) λ_ _ _ ⟨H,I,J,O,S⟩=>⟨H,I,J,O,E _ _ _ _ S⟩
theorem WG.keeps {c:Code}(h:WG ro m P n c Q ds f w):WG ro m P n c (λe G E w'=>(∀t,Js c t=false->E t=f t)/\Q e G E w') ds f w :=
 λa I=>wpIn_mono (h a I) λ_ _ _ ⟨G,E,J,H,O⟩=>⟨G,E,J,H,H,O⟩
theorem YV (h:Q .normal ds f w):WG ro m P n .skip Q ds f w:=λ_ E=>wpIn_skip ⟨ds,f,E,λ_ _=>U,h⟩
theorem VQ (h:Q (.exit i) ds f w):WG ro m P n (.exit i) Q ds f w:=λ_ E=>wpIn_exit ⟨ds,f,E,λ_ _=>U,h⟩
theorem VP (h:Q .ret ds f w):WG ro m P n .ret Q ds f w:=λ_ E=>wpIn_ret ⟨ds,f,E,λ_ _=>U,h⟩
theorem Zk {x y:Code}(h:WG ro m P n x (QdO (λds f w=>WG ro m P n y Q ds f w) Q) ds f w):WG ro m P n (.seq x y) Q ds f w:=by
 intro a O;refine wpIn_seq (wpIn_mono (h a O) ?_);rintro e S w' ⟨J,E,G,T,H⟩;have k1:∀t,Js (.seq x y) t=false->E t=f t:=λt I=>T t (by simp only[Js,Oi]at I;exact I.1);cases e with
 | normal =>
  refine wpIn_mono (H S G) λ_ _ _ ⟨V,Y,g1,g2,g3⟩=>⟨V,Y,g1,λt I=>(g2 t ?_).D (k1 t I),g3⟩;simp only[Js,Oi]at I;exact I.2
 | exit id=>exact⟨J,E,G,k1,H⟩
 | goto l=>exact⟨J,E,G,k1,H⟩
 | ret=>exact⟨J,E,G,k1,H⟩
 | panic ch=>exact⟨J,E,G,k1,H⟩
 | outgrown=>exact⟨J,E,G,k1,H⟩
theorem Qgl {x y:Code}(D:xw)(S:α->List (Nat×O2))(I:α->LN->O1->Prop)(hD:wrG D x=true)
  (O:WG ro m P n x (QdO (λE H w'=>∃z,Y0 H (S z)/\I z E w') Q) ds f w)
  (T:∀z g E w',I z E w'->WG ro m P n y Q E (UO (S z) (mix D f g)) w'):WG ro m P n (.seq x y) Q ds f w:=by
 refine Zk (O.keeps.mono ?_);rintro e E H w' ⟨V,G⟩;cases e with
 | normal =>
  obtain⟨z,Y,hi⟩:=G;have J:=T z H E w' hi;rw[Jb (λt ht=>V t (Kc ht x hD)),Xg Y]at J;exact J
 | exit id=>exact G
 | goto l=>exact G
 | ret=>exact G
 | panic ch=>exact G
 | outgrown=>exact G
theorem UI {c:O3}{x y:Code}{t:Bool}(H:ev f c=.bool t)(E:t=true->WG ro m P n x Q ds f w)(I:t=false->WG ro m P n y Q ds f w):
  WG ro m P n (.cond c x y) Q ds f w:=by
 intro a G;have J:a.eval c=.bool t:=by rw[G.eval];exact H
 refine wpIn_cond_split J (λe=>wpIn_mono (E e a G) ?_) (λe=>wpIn_mono (I e a G) ?_) <;>
  (rintro e a' w' ⟨O,S,T,V,Y⟩
   refine⟨O,S,T,λt E=>V t ?_,Y⟩;simp only[Js,Oi]at E
   first|exact E.1|exact E.2)
theorem Qnv {c:O3}{x y:Code}{p:Prop}[Decidable p](E:ev f c=.bool (decide p))(G:p->WG ro m P n x Q ds f w)(H:¬p->WG ro m P n y Q ds f w):
  WG ro m P n (.cond c x y) Q ds f w :=
 UI E (λe=>G (OY e)) (λe=>H (O0 e))
theorem Qa1 {c:O3}{x y:Code}{p:Prop}[Decidable p](E:ev f c=.bool (decide p))(G:¬p->WG ro m P n y Q ds f w)(H:p->WG ro m P n x Q ds f w):
  WG ro m P n (.cond c x y) Q ds f w:=Qnv E H G
theorem QbU {c:O3}{x y:Code}(E:ev f c=.bool true)(h:WG ro m P n x Q ds f w):WG ro m P n (.cond c x y) Q ds f w:=UI E (λ_=>h) (λe=>by cases e)
theorem V8 {c:O3}{x y:Code}(E:ev f c=.bool false)(h:WG ro m P n y Q ds f w):WG ro m P n (.cond c x y) Q ds f w:=UI E (λe=>by cases e) (λ_=>h)
theorem Ye {c:Code}(h:WG ro m P n c (QqU id Q) ds f w):WG ro m P n (.block id c) Q ds f w:=by
 intro a J;refine wpIn_block (wpIn_mono (h a J) ?_);rintro e V w' ⟨H,G,I,O,E⟩;have k1:∀t,Js (.block id c) t=false->G t=f t:=λt S=>O t (by simpa[Js]using S);cases e with
 | exit i =>
  simp only[Exit.inBlock];simp only[QqU]at E;by_cases hi:i=id
  ·subst hi;simp only[Nat.beq_refl,cond_true]at E;simp only[if_true];exact⟨H,G,I,k1,E⟩
  have T:OS i id=false:=by
   cases e:OS i id with
   | false=>rfl
   | true=>exact OW (Nat.eq_of_beq_eq_true e) hi
  rw[T]at E;rw[OT hi];exact⟨H,G,I,k1,E⟩
 | normal=>exact⟨H,G,I,k1,E⟩
 | goto l=>exact⟨H,G,I,k1,E⟩
 | ret=>exact⟨H,G,I,k1,E⟩
 | panic ch=>exact⟨H,G,I,k1,E⟩
 | outgrown=>exact⟨H,G,I,k1,E⟩
end
def QcD (l:xE):Bool:=l.all λo=>match o.op with| .defer _=>false|_=>true
theorem Ut {l:xE}(h:QcD l=true):∀o∈l,∀c,o.op≠.defer c:=λo E c e=>by
 have:=Mg.1 h o E;rw[e]at this;cases this
section
variable {ro:xF}{m:Nat}
theorem Qgf {a:Act}{K':Act->O1->Prop}{Q:Exit->Act->O1->Prop}(h:Xm n ds a f)(G:∀c,o.op≠.defer c)
  (hK:∀v w',K (QN f o.dst v) w'->K' (a.put o.dst v) w') (hx:XO P o f w K):o.wpIn (fen ro) m P a w K' Q:=by
 unfold XO at hx;refine⟨λ_ _=>trivial,?_⟩;have e:Oper.semAt (fen ro).round a.eval o=execOp (ev f) o:=by
  rw[h.eval];cases ro with
  | none=>rfl
  | some l=>exact Oper.semAt_some l _ _ G
 rw[e];generalize (execOp (ev f) o).run P w=r at hx;cases r with
 | ok nx w' =>
  cases nx <;> simp only[upF]at hx <;> simp only[Oper.uponIn]
  case value v=>exact hK v w' hx
  case skip=>exact hK _ w' hx
  case enter g args =>
   refine⟨λh=>by simp[Fence.wide]at h,?_⟩;refine(callsIn_wide (n:=m - 1)).2 (Calls.mono hx λe H E=>?_);cases e with
   | returned v=>exact hK v H E
   | panicked c=>exact E.elim
   | outgrown=>exact E.elim
 | halt x w'=>exact hx.elim
theorem Um {l:xE}{a:Act}(h:Xm n ds a f)(E:∀o∈l,∀d,o.dst=some d->d<n)(o:Oper):Region.wanted o (yielded l.toArray a.tmps)=Z9 l f o:=qw h.rel E o
theorem Qgh {Q:Exit->LN->Fr->O1->Prop}{all:xE}(G:∀o∈all,∀d,o.dst=some d->d<n)(hd:∀o∈all,∀c,o.op≠.defer c)(f0:Fr):
  ∀(l:xE) (k:Nat) (a:Act) (f:Fr) (w:O1),(∀j,l[j]?=all[k+j]?)->Xm n ds a f->(∀t,Yl all t=false->f t=f0 t) ->
   XL P all (λf w=>Q .normal ds f w) l f w ->
   wpOpsIn (fen ro) m P all.toArray (λe V w'=>∃ds' f',Xm n ds' V f'/\(∀t,Yl all t=false->f' t=f0 t)/\Q e ds' f' w') (oS k l.length) a w
 | [],_,a,f,w,_,E,I,h=>⟨ds,f,E,I,by unfold XL at h;exact h⟩
 | o::l,k,a,f,w,J,E,I,h=>by
  have O:all[k]?=some o:=by simpa using(J 0).symm
  have H:o∈all:=Ms O;have ih:=λa f w=>Qgh (Q:=Q) G hd f0 l (k+1) a f w (λj=>by have:=J (j+1);simpa[ON,Nat.add_comm 1 j]using this);have next:∀v,(∀t,Yl all t=false->QN f o.dst v t=f0 t):=λv t S=>(Y1 (JS H S) v).D (I t S);simp only[oX,OC,wpOpsIn,o0,O];rw[Um E G o];unfold XL at h;cases T:Z9 all f o with
  | false =>
   rw[T]at h;exact⟨λ_ _=>trivial,ih _ _ _ (E.put (G o H) _) (next _) h⟩
  | true =>
   rw[T]at h;exact Qgf E (hd o H) (λv w' hx=>ih _ _ _ (E.put (G o H) v) (next v) hx) h
theorem QH {Q:Exit->LN->Fr->O1->Prop}{l:xE}(E:XI n l=true)(hd:QcD l=true)(h:XL P l (λf w=>Q .normal ds f w) l f w):WG ro m P n (.region id l.toArray false) Q ds f w:=by
 intro a G;refine wpIn_region ?_;have:=Qgh (ro:=ro) (m:=m) (Xy E) (Ut hd) f l 0 a f w od G (λ_ _=>rfl) h;simpa[List.range_eq_range',Js]using this
attribute [local semireducible] XA in
theorem yd {Q:Exit->Act->O1->Prop}{all:xE}{C:xA}{K:xz}(G:∀o∈all,∀d,o.dst=some d->d<n)(hd:∀o∈all,∀c,o.op≠.defer c)(f0:Fr)
  (H:∀a f w,Xm n ds a f->(∀t,Yl all t=false->f t=f0 t)->K f w->Q .normal a w):
  ∀(k:Nat) (ls:Array Bool) (a:Act) (f:Fr) (w:O1),Xm n ds a f->(∀t,Yl all t=false->f t=f0 t)->XA P all C K k ls f w->wpAnyIn (fen ro) m P .any all.toArray Q k ls a w
 | 0,_,a,f,w,E,I,h=>⟨h.1,H a f w E I h.2⟩
 | k+1,ls,a,f,w,E,I,h=>by
  refine⟨λY=>H a f w E I (h.1 Y),λi hi=>?_⟩;unfold wpOpIn;simp only[o0];cases S:all[i]? with
  | none =>
   exfalso;obtain⟨_,o,ha,_⟩:=mem_ready.1 hi;simp[S]at ha
  | some o =>
   have J:o∈all:=Ms S;have O:=h.2 i hi o S;have next:∀v,(∀t,Yl all t=false->QN f o.dst v t=f0 t):=λv t T=>(Y1 (JS J T) v).D (I t T);simp only[];rw[Um E G o];cases V:Z9 all f o with
   | false =>
    rw[V]at O;exact⟨λ_ _=>trivial,yd G hd f0 H k _ _ _ _ (E.put (G o J) _) (next _) O⟩
   | true =>
    rw[V]at O;exact Qgf E (hd o J) (λv w' hx=>yd G hd f0 H k _ _ _ _ (E.put (G o J) v) (next v) hx.2) O
theorem jy {Q:Exit->LN->Fr->O1->Prop}{all:xE}(C:xA)(pl:xu)(I:P.follows .mixedOrders=true)(J:XI n all=true)(hd:QcD all=true)(G:yA all pl=true)
  (O:C { w with drawn:=w.drawn+1 }) (h:XP P all C (λf w=>Q .normal ds f w) pl f { w with drawn:=w.drawn+1 }):WG ro m P n (.region id all.toArray true) Q ds f w:=by
 intro a S;simp only[yA,oM,beq_iff_eq]at G;obtain⟨⟨T,V⟩,G⟩:=G;refine wpIn_region_any I ?_;have H:=ZY T pl _ _ _ od (.inl O) G h;rw[V]at H;have Y:=yd (ro:=ro) (m:=m) (n:=n) (ds:=ds) (Q:=λe a' w'=>∃ds' E,Xm n ds' a' E/\(∀t,Yl all t=false->E t=f t)/\Q e ds' E w') (Xy J) (Ut hd) f
  (λa E w hr hk hq=>⟨ds,E,hr,hk,hq⟩) _ _ a f _ S (λ_ _=>U) H
 simpa[Js]using Y
end
section
variable {ro:xF}{m:Nat}{Q:Exit->LN->Fr->O1->Prop}
theorem zn {F:Fence}{c:Code}{Q:Exit->Act->O1->Prop}{a:Act}(J:α->Act->O1->Prop)(μ:α->Nat)(z:α)(h₀:J z a w)
  (round:∀x a w,J x a w->c.wpIn F m P (Exit.then (λH w'=>∃I,μ I<μ x/\J I H w') Q) a w):(Code.loop c).wpIn F m P Q a w:=by
 intro b k cs T O S;have key:∀j x a w,μ x=j->J x a w ->
   ∃e H w',Q e H w'/\ArrivesIn (Machine.fenced P F) P (lone (b.atR a (.code c::.inLoop c::k)) cs w) b k cs e H w':=by
  intro j;induction j using Nat.strongRecOn with
  | _ j ih =>
   intro x a w V Y;obtain⟨e,a₁,w₁,E,G⟩:=round x a w Y b (.inLoop c::k) cs T O S;cases e with
   | normal =>
    obtain⟨I,ha,hc⟩:=E;obtain⟨e₂,a₂,w₂,hq₂,harr₂⟩:=ih (μ I) (V ▸ ha) I a₁ w₁ U hc;exact⟨e₂,a₂,w₂,hq₂,.of_steps (StepsIn.trans G (.one (fenced_calm O S U) stepR_inLoop)) harr₂⟩
   | exit id=>exact⟨_,a₁,w₁,E,.pass (x:=.inLoop c) U (λ_ _=>.inl od) G⟩
   | goto l=>exact⟨_,a₁,w₁,E,.pass (x:=.inLoop c) U (λ_ _=>.inl od) G⟩
   | ret=>exact⟨_,a₁,w₁,E,.pass (x:=.inLoop c) U (λ_ _=>.inl od) G⟩
   | panic ch=>exact⟨_,a₁,w₁,E,.pass (x:=.inLoop c) U (λ_ _=>.inl od) G⟩
   | outgrown=>exact⟨_,a₁,w₁,E,.pass (x:=.inLoop c) U (λ_ _=>.inl od) G⟩
 obtain⟨e,H,w',E,G⟩:=key _ z a w U h₀;exact⟨e,H,w',E,.of_steps (.one (fenced_calm O S U) stepR_loop) G⟩
theorem q9 {c:Code}(D:xw)(S:α->List (Nat×O2))(I:α->LN->O1->Prop)(μ:α->Nat)(hD:wrG D c=true)(z:α)
  (h0:Y0 f (S z)) (hI:I z ds w)
  (round:∀x g H w',I x H w'->WG ro m P n c (QdO (λE J hb=>∃V,μ V<μ x/\Y0 J (S V)/\I V E hb) Q) H (UO (S x) (mix D f g)) w'):WG ro m P n (.loop c) Q ds f w:=by
 intro a ha;refine zn (λ(x:α) Y w'=>∃H J,Xm n H Y J/\(∀t,Js c t=false->J t=f t)/\Y0 J (S x)/\I x H w') μ z ⟨ds,f,ha,λ_ _=>U,h0,hI⟩ ?_;rintro x Y w' ⟨H,J,h1,h2,h3,h4⟩;have h5:=round x J H w' h4;rw[Jb (λt O=>h2 t (Kc O c hD)),Xg h3]at h5;refine wpIn_mono (h5 Y h1) ?_;rintro e hc hb ⟨E,G,g1,g2,T⟩;have k1:∀t,Js c t=false->G t=f t:=λt O=>(g2 t O).D (h2 t O);have k2:∀t,Js (.loop c) t=false->G t=f t:=λt O=>k1 t (by simpa[Js]using O);cases e with
 | normal=>obtain⟨V,hm,hs,hi⟩:=T;exact⟨V,hm,E,G,g1,k1,hs,hi⟩
 | exit id=>exact⟨E,G,g1,k2,T⟩
 | goto l=>exact⟨E,G,g1,k2,T⟩
 | ret=>exact⟨E,G,g1,k2,T⟩
 | panic ch=>exact⟨E,G,g1,k2,T⟩
 | outgrown=>exact⟨E,G,g1,k2,T⟩
end
def rqG (P:O4)(rs:List ResultVar)(R:O2->O1->Prop):Exit->LN->Fr->O1->Prop
 | .normal,ds,f,w=>(∀D∈ds,w.heap[D]?=some (.deferred (some [])))/\ds.Nodup/\∃vs,∀w',O5 ds w w'->qp P f w' rs vs/\R (tup vs) w'
 | .ret,ds,f,w=>(∀D∈ds,w.heap[D]?=some (.deferred (some [])))/\ds.Nodup/\∃vs,∀w',O5 ds w w'->qp P f w' rs vs/\R (tup vs) w'
 | _,_,_,_=>False
theorem O5.putObj (w:O1)(D:Nat)(o:Obj):O5 [D] w (w.putObj D o):=⟨U,U,U,od,λk _ E=>World.putObj_heap_other (λe=>E (by simp[e]))⟩
theorem yO {F:Fence}{m:Nat}{P:O4}{fn:Func}{tmps:Array O2}{R:Ending->O1->Prop}:∀(ds:LN) (w:O1),(∀D∈ds,w.heap[D]?=some (.deferred (some [])))->ds.Nodup ->
  (∀w',O5 ds w w'->∃v,(results fn tmps).run P w'=.ok v w'/\R (.returned v) w')->LeavesInM F m P fn tmps R (coll ds) .returning w
 | [],w,_,_,h=>h w (O5.Z _ _)
 | D::ds,w,hD,I,h=>by
  refine⟨od,.inl ⟨D,_,rfl,run_takeDeferred (hD D Lq),?_⟩⟩;have H:=NA.1 I;refine yO ds _ (λE hE=>?_) H.2 (λw' J=>h w' ?_)
  ·rw[World.putObj_heap_other (λe=>H.1 (by rw[<-e];exact hE))];exact hD E (Lj _ hE)
  exact((O5.putObj w D (.deferred none)).mono (λb G=>by simp at G;simp[G])).Q (J.mono (λb G=>Lj _ G))
theorem QZ.of_G {c:Code}{args:LV}{R:O2->O1->Prop}{rs:List ResultVar}(m:Nat)
  (V:P.funcs[g]?=some fn) (Y:fn.body=some c) (hn:fn.ntmps=n) (ha:fn.results=rs.toArray) (hl:args.length<=n)
  (h:WG none m P n c (rqG P rs R) [] (ent args) w):QZ P g args w R:=by
 unfold QZ;refine(callsIn_wide (n:=m)).1 (callsIn_of_wp_marks V Y Z (wpIn_mono (h _ ?_) ?_))
 ·refine⟨by simp[hn];omega,U,λt=>?_⟩;have key:∀(l:LV) (t:Nat),l[t]?.getD undef=ent l t:=by
   intro l;induction l with
   | nil=>intro t;rfl
   | cons v l ih=>intro t;cases t with|zero=>rfl|succ t=>simpa[ent]using ih t
  rw[<-key];simp only[Array.getD_eq_getD_getElem?,Array.getElem?_append,Od,o0];by_cases J:t<args.length
  ·simp[J]
  simp[J,Array.getElem?_replicate];split <;> rfl
 rintro e I w' ⟨H,f',O,_,E⟩;have fin:((∀D∈H,w'.heap[D]?=some (.deferred (some [])))/\H.Nodup/\∃vs,∀G,O5 H w' G->qp P f' G rs vs/\R (tup vs) G) ->
   LeavesInM Fence.wide m P fn I.tmps (λe w'=>match e with| .returned v=>R v w'|_=>False) I.defers .returning w':=by
  rintro⟨hd,hc,vs,S⟩;rw[O.defers];refine yO H w' hd hc λG T=>⟨tup vs,?_,(S G T).2⟩;simp only[results,ha,List.mapM_toArray,Sem.run_bind,Sem.run_map];rw[Ke (a:={ I with defers:=[] }) O.rel _ (λ_=>rfl) (λ_ _=>rfl) rs vs (S G T).1]
  cases vs with
  | nil=>rfl
  | cons v vs=>cases vs with|nil=>rfl|cons u us=>rfl
 cases e with
 | normal=>exact fin E
 | ret=>exact fin E
 | exit id=>exact E.elim
 | goto l=>exact E.elim
 | panic c=>exact E.elim
 | outgrown=>exact E.elim
attribute [irreducible] WG
def Ua (all:Array Oper)(i:Nat)(rest:xu):xu->Array Bool->Bool
 | [],ls=>Region.ready .any all ls == [i] && Xo all rest (ls.setIfInBounds i true)
 | (j,true)::l,ls=>(Region.ready .any all ls).contains j && Region.free .any all ls j && Ua all i rest l (ls.setIfInBounds j true)
 | (j,false)::l,ls=>!(Region.ready .any all ls).isEmpty && (Region.ready .any all ls).all (λk=>k == j || k == i) && Xo all ((j,false)::(l++rest)) (ls.setIfInBounds i true) && Ua all i rest l (ls.setIfInBounds j true)
def ZJ (all:xE)(d:Nat)(l:xu):Bool:=l.all λp=>!((QR all p.1).looksAt all.toArray).contains d && !((QR all p.1).dst == some d)
def Qg6 (all:xE)(pre l:xu)(i:Nat)(rest:xu):Bool :=
 Region.noSelect all.toArray && (pre.length+(l.length+1+rest.length) == all.length) && Kh all.toArray pre (oT all.length false) && Ua all.toArray i rest l (Yb pre (oT all.length false))
  && (QR all i).guard.isNone && (match (QR all i).dst with|some d=>ZJ all d l|none=>false)
def XF (P:O4)(all:xE)(C:xA)(K:xz):xu->LN->Fr->O1->Prop
 | [],_,f,w=>K f w
 | (j,true)::l,own,f,w=>Z9 all f (QR all j)=true/\∃v,(∀w',(zf (QR all j)=true->C w')->(execOp (ev f) (QR all j)).run P w'=.ok (.value v) w')/\XF P all C K l own (QN f (QR all j).dst v) w
 | (j,false)::l,own,f,w=>Z9 all f (QR all j)=true/\∀w1,sX w w1->C w1->XO P (QR all j) f w1 λE w'=>C w'/\∃own',O5 own w1 w'/\(∀b∈own',b∈own\/(↑w1<=b/\b<↑w'))/\XF P all C K l own' E w'
section
variable {all:xE}{C:xA}{KF:xz}
theorem XF.I (hK:∀f w w',KF f w->sX w w'->KF f w'):∀{l:xu}{own:LN}{f:Fr}{w w':O1},XF P all C KF l own f w->sX w w'->XF P all C KF l own f w'
 | [],_,_,_,_,h,E=>hK _ _ _ h E
 | (_,true)::_,_,_,_,_,h,E=>by
  obtain⟨G,v,H,hx⟩:=h;exact⟨G,v,H,XF.I hK hx E⟩
 | (_,false)::_,_,_,_,_,h,E=>⟨h.1,λI J O=>h.2 I (E.D J) O⟩
attribute [local semireducible] XO in
theorem QbS (H:∀cs b,o.op≠.select cs b){d:Nat}{v:O2}{K':xz}(I:d∉o.looksAt all.toArray)(J:o.dst≠some d)(hK:∀u w',K (QN f o.dst u) w'->K' (QN (QN f o.dst u) (some d) v) w')
  (h:XO P o f w K):XO P o (QN f (some d) v) w K':=by
 have G:∀u,QN (QN f (some d) v) o.dst u=QN (QN f o.dst u) (some d) v:=λu=>JM f v u (λe E=>by cases E;exact J);unfold XO at *;rw[XH (all:=all) H f (some d) v (λe E=>by cases E;exact I)];generalize (execOp (ev f) o).run P w=r at *;cases r with
 | ok nx w' =>
  cases nx <;> simp only[upF]at h ⊢
  case value u=>rw[G];exact hK u w' h
  case skip=>rw[G];exact hK _ w' h
  case enter g args =>
   refine Calls.mono h λe O E=>?_;cases e with
   | returned u=>simp only at E ⊢;rw[G];exact hK u O E
   | panicked c=>exact E.elim
   | outgrown=>exact E.elim
 | halt x w'=>exact h.elim
theorem KE {D:xw}{f0:Fr}{dst:xF}{v:O2}(hd:inD D dst=true)(h:∀t,Y3 D t=false->f t=f0 t):∀t,Y3 D t=false->QN f dst v t=f0 t:=λt E =>
 (Y1 (λe=>by rw[e]at hd;simp only[inD]at hd;rw[hd]at E;cases E) v).D (h t E)
def ZZ (all:xE)(D:xw)(l:xu):Bool:=l.all λp=>inD D (QR all p.1).dst
structure Fl (P:O4)(all:xE)(C:xA)(K KF:xz)(i d:Nat)(rest:xu)(Φ:O2->O1->Prop)(Dc:xw)(f1:Fr):Prop where
 stab:∀v (own:LN) w w',Φ v w->O5 own w w'->(∀b∈ow v,b∉own)->Φ v w'
 spec:∀f w,(∀t,Y3 Dc t=false->f t=f1 t)->C w->XO P (QR all i) f w λf' w'=>sX w w'/\C w'/\Φ (f' d) w'/\∀b∈ow (f' d),↑w<=b/\b<↑w'
 fin:∀f w,KF f w->∀v,C w->Φ v w->XP P all C K rest (QN f (some d) v) w
 mono:∀f w w',KF f w->sX w w'->KF f w'
attribute [local semireducible] XP in
theorem jp {i d:Nat}{rest:xu}{Φ:O2->O1->Prop}{Dc:xw}{f1:Fr}(H:Fl P all C K KF i d rest Φ Dc f1)(O:Region.noSelect all.toArray=true){v:O2}:∀(l:xu) (own:LN) (f:Fr) (w:O1),ZJ all d l=true->XF P all C KF l own f w->C w->Φ v w ->
  (∀b∈ow v,b∉own/\b<↑w)->XP P all C K (l++rest) (QN f (some d) v) w
 | [],own,f,w,_,h,I,J,_=>H.fin f w h v I J
 | (j,q)::l,own,f,w,hfr,h,I,J,E=>by
  simp only[ZJ,oU,oM,Oe,List.contains_eq_mem,decide_eq_false_iff_not,beq_eq_false_iff_ne,ne_eq]at hfr;obtain⟨⟨S,T⟩,hfr⟩:=hfr;have V:ZJ all d l=true:=by simpa[ZJ]using hfr
  have ha:∀cs b,(QR all j).op≠.select cs b:=by
   intro cs b;cases Y:all[j]? with
   | none =>
    have:QR all j=default:=by
     clear h S T hfr V;have key:∀(l:xE) (j:Nat),l[j]?=none->QR l j=default:=by
      intro l;induction l with
      | nil=>intro j _;rfl
      | cons a l ih=>intro j hj;cases j with|zero=>simp at hj|succ j=>exact ih j (oA hj)
     exact key all j Y
    rw[this];intro e;cases e
   | some o=>rw[Zs Y];exact Region.noSelect_spec O j o cs b (oA Y)
  have hd:∀e,some d=some e->e∉(QR all j).looksAt all.toArray:=λe he=>by cases he;exact S
  cases q with
  | true =>
   obtain⟨hg,u,hu,hx⟩:=h;simp only[Oh,XP];rw[Jo (QR all j) f (some d) v hd,hg,cond_true,cond_true];refine⟨u,λw' hc=>?_,?_⟩
   ·rw[XH (all:=all) ha f (some d) v hd];exact hu w' hc
   rw[JM f v u (λe he=>by cases he;exact T)];exact jp H O l own _ w V hx I J E
  | false =>
   simp only[Oh,XP];rw[Jo (QR all j) f (some d) v hd,h.1,cond_true,cond_false];refine QbS (all:=all) ha S T (λu w' hx=>?_) (h.2 w (O5.Z _ _) I);obtain⟨hf,own',hh,hi,hx⟩:=hx;refine⟨.inr (.inr hf),jp H O l own' _ w' V hx hf (H.stab v own w w' J hh (λb G=>(E b G).1)) (λb G=>⟨λhm=>?_,LO (E b G).2 hh.size⟩)⟩;rcases hi b hm with h3|h3
   ·exact(E b G).1 h3
   exact ND _ (LO (E b G).2 h3.1)
theorem QkR {i d:Nat}{rest:xu}{Φ:O2->O1->Prop}{Dc:xw}{f1:Fr}(J:Fl P all C K KF i d rest Φ Dc f1)(V:Region.noSelect all.toArray=true)(Y:(QR all i).guard=none)(hd:(QR all i).dst=some d):∀(l:xu) (ls:Array Bool) (own:LN) (f:Fr) (w:O1),ls.size=all.length->ZJ all d l=true->ZZ all Dc l=true->(∀t,Y3 Dc t=false->f t=f1 t) ->
  XF P all C KF l own f w->C w->(∀b∈own,b<↑w)->Ua all.toArray i rest l ls=true->XA P all C K (l.length+1+rest.length) ls f w
 | [],ls,own,f,w,ha,hfr,O,hk1,h,S,hc,E=>by
  simp only[Ua,oM,beq_iff_eq]at E;obtain⟨T,E⟩:=E;rw[show([]:xu).length+1+rest.length=rest.length+1 by simp;omega];refine X2 (λh0=>(by rw[h0]at T;cases T)) ?_;rw[T];intro k hk o H;have hh:k=i:=by simpa using hk
  subst hh;have he:=Zs H;have hx:=J.spec f w hk1 S;rw[he]at Y hd hx;rw[XY Y,cond_true];refine hx.mono λv w' hx=>?_;rw[hd]at hx ⊢;obtain⟨h1,G,I,h4⟩:=hx;simp only[QN,Y9]at I h4;refine⟨.inr (.inr G),ZY V rest _ _ _ (oA ha) (.inl G) E (J.fin f w' (J.mono f w w' h h1) v G I)⟩
 | (j,true)::l,ls,own,f,w,ha,hfr,O,hk1,h,S,hc,E=>by
  simp only[Ua,oM]at E;obtain⟨⟨T,hf⟩,hi⟩:=E;have hq:j∈Region.ready .any all.toArray ls:=by simpa using T
  have e:(oQ ((j,true)::l))+1+rest.length=(l.length+1+rest.length)+1:=by simp;omega
  rw[e];have hl:ZJ all d l=true:=by simp only[ZJ,oU,oM]at hfr;exact hfr.2
  simp only[ZZ,oU,oM]at O;have hn:ZZ all Dc l=true:=O.2;cases H:all[j]? with
  | none =>
   exfalso;obtain⟨_,o,hz,_⟩:=mem_ready.1 hq;simp[H]at hz
  | some o =>
   obtain⟨ht,v,hv,hx⟩:=h;rw[Zs H]at ht hv hx;have h5:∀(j:Nat) (o:Oper) cs b,all[j]?=some o->o.op≠.select cs b:=λj o cs b hj=>Region.noSelect_spec V j o cs b (oA hj);have h6:=λk ok hk=>Region.free_spec (ops:=all.toArray) (md:=.any) (i:=j) (oi:=o) (listed:=ls) (oA H) hf k ok (oA hk);exact Xs (v:=v) (D:=λw=>zf o=true->C w) H (λ_ h=>h) h5 _ ls f w (λ_=>S) h6 hq (.inl ⟨ht,hv⟩) (QkR J V Y hd l _ own _ w (oA ha) hl hn (by have:=KE (v:=v) O.1 hk1;rw[Zs H]at this;exact this) hx S hc hi)
 | (j,false)::l,ls,own,f,w,ha,hfr,O,hk1,h,S,hc,E=>by
  simp only[Ua,oM,Ok,OG,beq_iff_eq,Oe]at E;obtain⟨⟨⟨hu,T⟩,h7⟩,hi⟩:=E;have e:(oQ ((j,false)::l))+1+rest.length=(l.length+1+rest.length)+1:=by simp;omega
  rw[e];have hl:ZJ all d l=true:=by simp only[ZJ,oU,oM]at hfr;exact hfr.2
  simp only[ZZ,oU,oM]at O;have hn:ZZ all Dc l=true:=O.2;refine X2 (λh0=>(by rw[h0]at hu;cases hu)) ?_;intro k hk o H;have he:=Zs H;have hw:(ls.setIfInBounds k true).size=all.length:=by simpa using ha
  by_cases hh:k=i
  ·subst hh;have hx:=J.spec f w hk1 S;rw[he]at Y hd hx;rw[XY Y,cond_true];refine hx.mono λv w' hx=>?_;rw[hd]at hx ⊢;obtain⟨h1,G,I,h4⟩:=hx;simp only[QN,Y9]at I h4;refine⟨.inr (.inr G),?_⟩;have hx:=jp J V ((j,false)::l) own f w' hfr (XF.I J.mono h h1) G I (λb hb=>⟨λhm=>ND _ (LO (hc b hm) (h4 b hb).1),(h4 b hb).2⟩);have:=ZY V ((j,false)::(l++rest)) _ _ _ hw (.inl G) h7 hx;rw[show((j,false)::(l++rest)).length=l.length+1+rest.length by simp;omega]at this;exact this
  have h8:k=j:=(T k hk).resolve_right hh;subst h8;have h1:=h.1;have G:=h.2 w (O5.Z _ _) S;rw[he]at h1 G;rw[h1,cond_true];refine G.mono λv w' hx=>?_;obtain⟨hy,own',h9,hA,hx⟩:=hx;refine⟨.inr (.inr hy),QkR J V Y hd l _ own' _ w' hw hl hn (by have:=KE (v:=v) O.1 hk1;rw[he]at this;exact this) hx hy (λb hb=>?_) hi⟩;rcases hA b hb with I|I
  ·exact LO (hc b I) h9.size
  exact I.2
theorem Qnw {ro:xF}{m:Nat}{Q:Exit->LN->Fr->O1->Prop}(C:xA)(pre l:xu)(i d:Nat)(rest:xu)(own:LN)(KF:xz)(Φ:O2->O1->Prop)(Dc:xw)(T:P.follows .mixedOrders=true)(V:XI n all=true)(Y:QcD all=true)
  (H:Qg6 all pre l i rest=true) (hb:ZZ all Dc l=true) (hd:(QR all i).dst=some d) (I:C { w with drawn:=w.drawn+1 }) (hc:∀b∈own,b<↑w)
  (h:XP P all C (λf1 _=>Fl P all C (λf w=>Q .normal ds f w) KF i d rest Φ Dc f1/\XF P all C KF l own f1 { w with drawn:=w.drawn+1 }) pre f { w with drawn:=w.drawn+1 }):WG ro m P n (.region id all.toArray true) Q ds f w:=by
 unfold WG;intro a ha;simp only[Qg6,oM,beq_iff_eq,Option.isNone_iff_eq_none]at H;obtain⟨⟨⟨⟨⟨J,hl⟩,G⟩,he⟩,hg⟩,hfr⟩:=H;rw[hd]at hfr;refine wpIn_region_any T ?_;have O:=YQ (K:=λf w=>Q .normal ds f w) (m:=l.length+1+rest.length) J pre (oT all.length false) f _ I G
  (λf1 S=>QkR S.1 J hg hd l (Yb pre (oT all.length false)) own f1 _ (by rw[YU];simp) hfr hb (λ_ _=>rfl) S.2 I hc he) h
 rw[hl]at O;have h2:=yd (ro:=ro) (m:=m) (n:=n) (ds:=ds) (Q:=λe a' w'=>∃ds' E,Xm n ds' a' E/\(∀t,Yl all t=false->E t=f t)/\Q e ds' E w') (Xy V) (Ut Y) f
  (λa E w hr hk G=>⟨ds,E,hr,hk,G⟩) _ _ a f _ ha (λ_ _=>U) O
 simpa[Js]using h2
theorem XP.keeps_mono {K':xz}:∀(l:xu) (f:Fr) (w:O1),XP P all C K l f w->(∀f w,K f w->K' f w)->XP P all C K' l f w
 | [],f,w,h,E=>by simp only[XP]at h ⊢;exact E _ _ h
 | (j,q)::l,f,w,h,E=>by
  simp only[XP]at h ⊢;cases G:Z9 all f (QR all j)with
  | false=>rw[G]at h;exact XP.keeps_mono l _ _ h E
  | true =>
   rw[G]at h;cases q with
   | true=>obtain⟨v,H,hx⟩:=h;exact⟨v,H,XP.keeps_mono l _ _ hx E⟩
   | false=>exact XO.mono (λv w' hx=>⟨hx.1,XP.keeps_mono l _ _ hx.2 E⟩) h
theorem XP.keeps {D:xw}{f0:Fr}:∀(l:xu) (f:Fr) (w:O1),ZZ all D l=true->(∀t,Y3 D t=false->f t=f0 t)->XP P all C K l f w->XP P all C (λH w'=>(∀t,Y3 D t=false->H t=f0 t)/\K H w') l f w
 | [],f,w,_,E,h=>by simp only[XP]at h ⊢;exact⟨E,h⟩
 | (j,q)::l,f,w,hd,E,h=>by
  simp only[ZZ,oU,oM]at hd;have G:ZZ all D l=true:=hd.2;simp only[XP]at h ⊢;cases I:Z9 all f (QR all j)with
  | false=>rw[I]at h;exact XP.keeps l _ _ G (KE hd.1 E) h
  | true =>
   rw[I]at h;cases q with
   | true=>obtain⟨v,J,hx⟩:=h;exact⟨v,J,XP.keeps l _ _ G (KE hd.1 E) hx⟩
   | false=>exact XO.mono (λv w' hx=>⟨hx.1,XP.keeps l _ _ G (KE hd.1 E) hx.2⟩) h
theorem XF.keeps {D:xw}{f0:Fr}:∀(l:xu) (own:LN) (f:Fr) (w:O1),ZZ all D l=true->(∀t,Y3 D t=false->f t=f0 t)->XF P all C K l own f w->XF P all C (λG w'=>(∀t,Y3 D t=false->G t=f0 t)/\K G w') l own f w
 | [],own,f,w,_,E,h=>⟨E,h⟩
 | (j,true)::l,own,f,w,hd,E,h=>by
  simp only[ZZ,oU,oM]at hd;obtain⟨H,v,I,hx⟩:=h;exact⟨H,v,I,XF.keeps l own _ _ hd.2 (KE hd.1 E) hx⟩
 | (j,false)::l,own,f,w,hd,E,h=>by
  simp only[ZZ,oU,oM]at hd;refine⟨h.1,λJ O S=>XO.mono (λv w' hx=>?_) (h.2 J O S)⟩;obtain⟨T,own',V,Y,hx⟩:=hx;exact⟨T,own',V,Y,XF.keeps l own' _ _ hd.2 (KE hd.1 E) hx⟩
theorem Qk9 {ro:xF}{m:Nat}{Q:Exit->LN->Fr->O1->Prop}(C:xA)(pre l:xu)(i d:Nat)(rest:xu)(own:LN)(D Dc:xw)(S:α->List (Nat×O2))(I:α->O1->Prop)(Φ:O2->O1->Prop)(T:P.follows .mixedOrders=true)(V:XI n all=true)(Y:QcD all=true)
  (hp:Qg6 all pre l i rest=true) (H:(ZZ all D pre && ZZ all D l && ZZ all Dc l)=true) (hd:(QR all i).dst=some d) (hC:C { w with drawn:=w.drawn+1 }) (ha:∀b∈own,b<↑w)
  (stab:∀v (own:LN) w w',Φ v w->O5 own w w'->(∀b∈ow v,b∉own)->Φ v w') (mono:∀z w w',I z w->sX w w'->I z w')
  (fin:∀z g w v,I z w->C w->Φ v w->XP P all C (λf w=>Q .normal ds f w) rest (QN (UO (S z) (mix D f g)) (some d) v) w)
  (h:XP P all C (λf1 _=>(∀g w,C w->XO P (QR all i) (mix Dc f1 g) w λE w'=>sX w w'/\C w'/\Φ (E d) w'/\∀b∈ow (E d),↑w<=b/\b<↑w')/\XF P all C (λE w'=>∃z,Y0 E (S z)/\I z w') l own f1 { w with drawn:=w.drawn+1 }) pre f { w with drawn:=w.drawn+1 }):WG ro m P n (.region id all.toArray true) Q ds f w:=by
 rw[Lx,Lx]at H;refine Qnw C pre l i d rest own (λE w'=>(∀t,Y3 D t=false->E t=f t)/\∃z,Y0 E (S z)/\I z w') Φ Dc T V Y hp H.2 hd hC ha ?_;refine XP.keeps_mono _ _ _ (XP.keeps pre f _ H.1.1 (λ_ _=>U) h) (λf1 w1 hx=>⟨⟨stab,?_,?_,?_⟩,XF.keeps l own _ _ H.1.2 hx.1 hx.2.2⟩)
 ·intro E w' G J;have:=hx.2.1 E w' J;rw[Jb G]at this;exact this
 ·rintro E w' ⟨G,z,O,hi⟩ v J hv;have:=fin z E w' v hi J hv;rw[Jb G,Xg O]at this;exact this
 rintro E w' hc ⟨G,z,O,hi⟩ hb;exact⟨G,z,O,mono z _ _ hi hb⟩
theorem fp {l:xu}{own:LN}{v:O2}(E:∀w',(execOp (ev f) (QR all j)).run P w'=.ok (.value v) w')(h:XF P all C K l own (QN f (QR all j).dst v) w)
  (G:Z9 all f (QR all j)=true:=by rfl):XF P all C K ((j,true)::l) own f w:=⟨G,v,λw' _=>E w',h⟩
theorem fk {l:xu}{own:LN}(h:∀w1,sX w w1->C w1->XO P (QR all j) f w1 λE w'=>C w'/\∃own',O5 own w1 w'/\(∀b∈own',b∈own\/(↑w1<=b/\b<↑w'))/\XF P all C K l own' E w')
  (G:Z9 all f (QR all j)=true:=by rfl):XF P all C K ((j,false)::l) own f w:=⟨G,h⟩
theorem fe {own:LN}(h:K f w):XF P all C K [] own f w:=h
end
attribute [irreducible] XF
def Kx (P:O4)(all:xE)(K:xA->LN->Fr->O1->Prop):xu->xA->LN->Fr->O1->Prop
 | [],C,own,f,w=>K C own f w
 | (j,true)::l,C,own,f,w=>Z9 all f (QR all j)=true/\∃v,(∀w',(zf (QR all j)=true->C w')->(execOp (ev f) (QR all j)).run P w'=.ok (.value v) w')/\Kx P all K l C own (QN f (QR all j).dst v) w
 | (j,false)::l,C,own,f,w=>Z9 all f (QR all j)=true/\∀w1,sX w w1->C w1->XO P (QR all j) f w1 λE w'=>∃C':xA,(∀x,C' x->C x)/\(∀x x',C' x->sX x x'->C' x')/\C' w'/\∃own',O5 own w1 w'/\(∀b∈own',b∈own\/(↑w1<=b/\b<↑w'))/\Kx P all K l C' own' E w'
section
variable {all:xE}{C C0:xA}{KF:xA->LN->Fr->O1->Prop}
theorem Kx.I (hK:∀C own f w w',KF C own f w->sX w w'->KF C own f w'):∀{l:xu}{C:xA}{own:LN}{f:Fr}{w w':O1},Kx P all KF l C own f w->sX w w'->Kx P all KF l C own f w'
 | [],_,_,_,_,_,h,E=>hK _ _ _ _ _ h E
 | (_,true)::_,_,_,_,_,_,h,E=>by
  obtain⟨G,v,H,hx⟩:=h;exact⟨G,v,H,Kx.I hK hx E⟩
 | (_,false)::_,_,_,_,_,_,h,E=>⟨h.1,λI J O=>h.2 I (E.D J) O⟩
attribute [local semireducible] XA XO in
theorem XA.sub {C':xA}(G:∀x,C' x->C x):∀(k:Nat) (ls:Array Bool) (f:Fr) (w:O1),XA P all C' K k ls f w->XA P all C K k ls f w
 | 0,_,_,_,h=>h
 | k+1,ls,f,w,h=>by
  refine⟨h.1,λi hi o I=>?_⟩;have E:=h.2 i hi o I;cases H:Z9 all f o with
  | false=>rw[H]at E;exact XA.sub G k _ _ _ E
  | true =>
   rw[H]at E;exact XO.mono (λJ w' hx=>⟨hx.1.imp id (Or.imp id (G w')),XA.sub G k _ _ _ hx.2⟩) E
structure Fl3 (P:O4)(all:xE)(C0:xA)(K:xz)(KF:xA->LN->Fr->O1->Prop)(i d:Nat)(rest:xu)(Φ:O2->O1->Prop)(Dc:xw)(f1:Fr):Prop where
 stab:∀v (own:LN) w w',Φ v w->O5 own w w'->(∀b∈ow v,b∉own)->Φ v w'
 spec:∀f w,(∀t,Y3 Dc t=false->f t=f1 t)->C0 w->XO P (QR all i) f w λf' w'=>sX w w'/\C0 w'/\Φ (f' d) w'/\∀b∈ow (f' d),↑w<=b/\b<↑w'
 fin:∀C own f w,KF C own f w->∀v,C w->(∀x,C x->C0 x)->Φ v w->(∀b∈ow v,b∉own/\b<↑w)->XP P all C K rest (QN f (some d) v) w
 mono:∀C own f w w',KF C own f w->sX w w'->KF C own f w'
theorem Qaf:∀(l:xE) (j:Nat),l[j]?=none->QR l j=default
 | [],_,_=>rfl
 | _::l,0,h=>by simp at h
 | _::l,j+1,h=>Qaf l j (oA h)
theorem yD (G:Region.noSelect all.toArray=true)(j:Nat):∀cs b,(QR all j).op≠.select cs b:=by
 intro cs b;cases E:all[j]? with
 | none=>rw[Qaf all j E];intro e;cases e
 | some o=>rw[Zs E];exact Region.noSelect_spec G j o cs b (oA E)
theorem QeE {i d:Nat}{rest:xu}{Φ:O2->O1->Prop}{Dc:xw}{f1:Fr}(hF:Fl3 P all C0 K KF i d rest Φ Dc f1)(J:Region.noSelect all.toArray=true){v:O2}:∀(l:xu) (C:xA) (own:LN) (ls:Array Bool) (f:Fr) (w:O1),(∀x,C x->C0 x)->(∀x x',C x->sX x x'->C x')->ls.size=all.length->ZJ all d l=true->Kx P all KF l C own f w->C w->Φ v w ->
  (∀b∈ow v,b∉own/\b<↑w)->Xo all.toArray (l++rest) ls=true->XA P all C K (l++rest).length ls (QN f (some d) v) w
 | [],C,own,ls,f,w,O,hh,S,_,h,H,T,E,I=>ZY J rest ls _ w S (.inl H) I (hF.fin C own f w h v H O T E)
 | (j,true)::l,C,own,ls,f,w,O,hh,S,hfr,h,H,T,E,I=>by
  simp only[ZJ,oU,oM,Oe,List.contains_eq_mem,decide_eq_false_iff_not,beq_eq_false_iff_ne,ne_eq]at hfr;obtain⟨⟨h1,h2⟩,hfr⟩:=hfr;have hi:ZJ all d l=true:=by simpa[ZJ]using hfr
  have hd:∀e,some d=some e->e∉(QR all j).looksAt all.toArray:=λe V=>by cases V;exact h1
  simp only[Oh,Xo,oM]at I;obtain⟨⟨Y,hf⟩,hl⟩:=I;have hw:j∈Region.ready .any all.toArray ls:=by simpa using Y
  obtain⟨hg,u,hu,hx⟩:=h;cases G:all[j]? with
  | none =>
   exfalso;obtain⟨_,o,h6,_⟩:=mem_ready.1 hw;simp[G]at h6
  | some o =>
   have h7:∀(j:Nat) (o:Oper) cs b,all[j]?=some o->o.op≠.select cs b:=λj o cs b hj=>Region.noSelect_spec J j o cs b (oA hj);have h8:=λk ok hk=>Region.free_spec (ops:=all.toArray) (md:=.any) (i:=j) (oi:=o) (listed:=ls) (oA G) hf k ok (oA hk);have hn:Z9 all (QN f (some d) v) o=true:=by
    have:=Jo (QR all j) f (some d) v hd;rw[Zs G]at this hg;rw[this];exact hg
   have h9:∀w',(zf o=true->C w')->(execOp (ev (QN f (some d) v)) o).run P w'=.ok (.value u) w':=λw' hc=>by
    have:=XH (all:=all) (yD J j) f (some d) v hd;rw[Zs G]at this hu;rw[this];exact hu w' hc
   have hy:=QeE hF J l C own (ls.setIfInBounds j true) _ w O hh (oA S) hi hx H T E hl;rw[<-JM f v u (λe V=>by cases V;exact h2),Zs G]at hy;exact Xs (v:=u) (D:=λw=>zf o=true->C w) G (λ_ h=>h) h7 _ ls _ w (λ_=>H) h8 hw (.inl ⟨hn,h9⟩) hy
 | (j,false)::l,C,own,ls,f,w,O,hh,S,hfr,h,H,T,E,I=>by
  simp only[ZJ,oU,oM,Oe,List.contains_eq_mem,decide_eq_false_iff_not,beq_eq_false_iff_ne,ne_eq]at hfr;obtain⟨⟨h1,h2⟩,hfr⟩:=hfr;have hi:ZJ all d l=true:=by simpa[ZJ]using hfr
  have hd:∀e,some d=some e->e∉(QR all j).looksAt all.toArray:=λe V=>by cases V;exact h1
  simp only[Oh,Xo,oM,beq_iff_eq]at I;obtain⟨Y,hl⟩:=I;show XA P all C K ((l++rest).length+1) ls _ w;refine X2 (λh0=>(by rw[h0]at Y;cases Y)) ?_;rw[Y];intro k hk o G;have hA:k=j:=by simpa using hk
  subst hA;have hq:=Zs G;have hn:Z9 all (QN f (some d) v) o=true:=by
   have:=Jo (QR all k) f (some d) v hd;rw[hq]at this;rw[this,<-hq];exact h.1
  rw[hn,cond_true];have h3:=h.2 w (O5.Z _ _) H;have h4:XO P (QR all k) (QN f (some d) v) w λf' w'=>(Vi all k=true\/w'=w\/C w')/\XA P all C K (l++rest).length (ls.setIfInBounds k true) f' w':=by
   refine QbS (all:=all) (yD J k) h1 h2 (λu w' hx=>?_) h3;obtain⟨C',ht,hB,hz,own',h5,hD,hx⟩:=hx;refine⟨.inr (.inr (ht _ hz)),XA.sub ht _ _ _ _ (QeE hF J l C' own' _ _ w' (λx hx=>O x (ht x hx)) hB (oA S) hi hx hz (hF.stab v own w w' T h5 (λb ha=>(E b ha).1)) (λb ha=>⟨λhm=>?_,LO (E b ha).2 h5.size⟩) hl)⟩;rcases hD b hm with h3|h3
   ·exact(E b ha).1 h3
   exact ND _ (LO (E b ha).2 h3.1)
  rw[hq]at h4;exact h4
theorem QbT {i d:Nat}{rest:xu}{Φ:O2->O1->Prop}{Dc:xw}{f1:Fr}(O:Fl3 P all C0 K KF i d rest Φ Dc f1)(hs:Region.noSelect all.toArray=true)(hg:(QR all i).guard=none)(hd:(QR all i).dst=some d):∀(l:xu) (C:xA) (ls:Array Bool) (own:LN) (f:Fr) (w:O1),(∀x,C x->C0 x)->(∀x x',C x->sX x x'->C x')->ls.size=all.length->ZJ all d l=true->ZZ all Dc l=true->(∀t,Y3 Dc t=false->f t=f1 t) ->
  Kx P all KF l C own f w->C w->(∀b∈own,b<↑w)->Ua all.toArray i rest l ls=true->XA P all C K (l.length+1+rest.length) ls f w
 | [],C,ls,own,f,w,S,ha,he,hfr,T,hk1,h,G,hc,E=>by
  simp only[Ua,oM,beq_iff_eq]at E;obtain⟨Y,E⟩:=E;rw[show([]:xu).length+1+rest.length=rest.length+1 by simp;omega];refine X2 (λh0=>(by rw[h0]at Y;cases Y)) ?_;rw[Y];intro k hk o H;have hi:k=i:=by simpa using hk
  subst hi;have hh:=Zs H;have hx:=O.spec f w hk1 (S _ G);rw[hh]at hg hd hx;rw[XY hg,cond_true];refine hx.mono λv w' hx=>?_;rw[hd]at hx ⊢;obtain⟨V,_,I,h4⟩:=hx;simp only[QN,Y9]at I h4;have J:=ha _ _ G V;refine⟨.inr (.inr J),ZY hs rest _ _ _ (oA he) (.inl J) E (O.fin C own f w' (O.mono C own f w w' h V) v J S I (λb hb=>⟨λhm=>ND _ (LO (hc b hm) (h4 b hb).1),(h4 b hb).2⟩))⟩
 | (j,true)::l,C,ls,own,f,w,S,ha,he,hfr,T,hk1,h,G,hc,E=>by
  simp only[Ua,oM]at E;obtain⟨⟨Y,hf⟩,hl⟩:=E;have hu:j∈Region.ready .any all.toArray ls:=by simpa using Y
  have e:(oQ ((j,true)::l))+1+rest.length=(l.length+1+rest.length)+1:=by simp;omega
  rw[e];have hn:ZJ all d l=true:=by simp only[ZJ,oU,oM]at hfr;exact hfr.2
  simp only[ZZ,oU,oM]at T;have hq:ZZ all Dc l=true:=T.2;cases H:all[j]? with
  | none =>
   exfalso;obtain⟨_,o,h6,_⟩:=mem_ready.1 hu;simp[H]at h6
  | some o =>
   obtain⟨hw,v,hv,hx⟩:=h;rw[Zs H]at hw hv hx;have h7:∀(j:Nat) (o:Oper) cs b,all[j]?=some o->o.op≠.select cs b:=λj o cs b hj=>Region.noSelect_spec hs j o cs b (oA hj);have h8:=λk ok hk=>Region.free_spec (ops:=all.toArray) (md:=.any) (i:=j) (oi:=o) (listed:=ls) (oA H) hf k ok (oA hk);exact Xs (v:=v) (D:=λw=>zf o=true->C w) H (λ_ h=>h) h7 _ ls f w (λ_=>G) h8 hu (.inl ⟨hw,hv⟩) (QbT O hs hg hd l C _ own _ w S ha (oA he) hn hq (by have:=KE (v:=v) T.1 hk1;rw[Zs H]at this;exact this) hx G hc hl)
 | (j,false)::l,C,ls,own,f,w,S,ha,he,hfr,T,hk1,h,G,hc,E=>by
  simp only[Ua,oM,Ok,OG,beq_iff_eq,Oe]at E;obtain⟨⟨⟨hy,Y⟩,h9⟩,hl⟩:=E;have e:(oQ ((j,false)::l))+1+rest.length=(l.length+1+rest.length)+1:=by simp;omega
  rw[e];have hn:ZJ all d l=true:=by simp only[ZJ,oU,oM]at hfr;exact hfr.2
  simp only[ZZ,oU,oM]at T;have hq:ZZ all Dc l=true:=T.2;refine X2 (λh0=>(by rw[h0]at hy;cases hy)) ?_;intro k hk o H;have hh:=Zs H;have hz:(ls.setIfInBounds k true).size=all.length:=by simpa using he
  by_cases hi:k=i
  ·subst hi;have hx:=O.spec f w hk1 (S _ G);rw[hh]at hg hd hx;rw[XY hg,cond_true];refine hx.mono λv w' hx=>?_;rw[hd]at hx ⊢;obtain⟨V,_,I,h4⟩:=hx;simp only[QN,Y9]at I h4;have J:=ha _ _ G V;refine⟨.inr (.inr J),?_⟩;have hx:=QeE O hs ((j,false)::l) C own (ls.setIfInBounds k true) f w' S ha hz hfr (Kx.I O.mono h V) J I (λb hb=>⟨λhm=>ND _ (LO (hc b hm) (h4 b hb).1),(h4 b hb).2⟩) h9;rw[show((j,false)::l++rest).length=l.length+1+rest.length by simp;omega]at hx;exact hx
  have hA:k=j:=(Y k hk).resolve_right hi;subst hA;have V:=h.1;have J:=h.2 w (O5.Z _ _) G;rw[hh]at V J;rw[V,cond_true];refine J.mono λv w' hx=>?_;obtain⟨C',ht,hB,h5,own',hD,hE,hx⟩:=hx;refine⟨.inr (.inr (ht _ h5)),XA.sub ht _ _ _ _ (QbT O hs hg hd l C' _ own' _ w' (λx hx=>S x (ht x hx)) hB hz hn hq (by have:=KE (v:=v) T.1 hk1;rw[hh]at this;exact this) hx h5 (λb hb=>?_) hl)⟩;rcases hE b hb with I|I
  ·exact LO (hc b I) hD.size
  exact I.2
theorem Kx.keeps {D:xw}{f0:Fr}:∀(l:xu) (C:xA) (own:LN) (f:Fr) (w:O1),ZZ all D l=true->(∀t,Y3 D t=false->f t=f0 t)->Kx P all KF l C own f w->Kx P all (λC' o G w'=>(∀t,Y3 D t=false->G t=f0 t)/\KF C' o G w') l C own f w
 | [],C,own,f,w,_,E,h=>⟨E,h⟩
 | (j,true)::l,C,own,f,w,hd,E,h=>by
  simp only[ZZ,oU,oM]at hd;obtain⟨H,v,I,hx⟩:=h;exact⟨H,v,I,Kx.keeps l C own _ _ hd.2 (KE hd.1 E) hx⟩
 | (j,false)::l,C,own,f,w,hd,E,h=>by
  simp only[ZZ,oU,oM]at hd;refine⟨h.1,λJ O S=>XO.mono (λv w' hx=>?_) (h.2 J O S)⟩;obtain⟨C',T,V,Y,own',ha,hb,hx⟩:=hx;exact⟨C',T,V,Y,own',ha,hb,Kx.keeps l C' own' _ _ hd.2 (KE hd.1 E) hx⟩
theorem f3q {l:xu}{own:LN}{v:O2}(E:∀w',C w'->(execOp (ev f) (QR all j)).run P w'=.ok (.value v) w')(h:Kx P all KF l C own (QN f (QR all j).dst v) w)
  (hd:zf (QR all j)=true:=by rfl) (G:Z9 all f (QR all j)=true:=by rfl):Kx P all KF ((j,true)::l) C own f w:=⟨G,v,λw' H=>E w' (H hd),h⟩
theorem Ui {l:xu}{own:LN}{v:O2}(E:∀w',(execOp (ev f) (QR all j)).run P w'=.ok (.value v) w')(h:Kx P all KF l C own (QN f (QR all j).dst v) w)
  (G:Z9 all f (QR all j)=true:=by rfl):Kx P all KF ((j,true)::l) C own f w:=⟨G,v,λw' _=>E w',h⟩
theorem f3k {l:xu}{own:LN}(h:∀w1,sX w w1->C w1->XO P (QR all j) f w1 λE w'=>∃C':xA,(∀x,C' x->C x)/\(∀x x',C' x->sX x x'->C' x')/\C' w'/\∃own',O5 own w1 w'/\(∀b∈own',b∈own\/(↑w1<=b/\b<↑w'))/\Kx P all KF l C' own' E w')
  (G:Z9 all f (QR all j)=true:=by rfl):Kx P all KF ((j,false)::l) C own f w:=⟨G,h⟩
theorem f3e {own:LN}(h:KF C own f w):Kx P all KF [] C own f w:=h
theorem QaX {Q:Exit->Fr->O1->Prop}(C:xA)(pre l:xu)(i d:Nat)(rest:xu)(own:LN)(D Dc:xw)(S:α->List (Nat×O2))(I:α->xA->LN->O1->Prop)(Φ:O2->O1->Prop)(hm:P.follows .mixedOrders=true)(hn:XI n all=true)
  (T:Qg6 all pre l i rest=true) (J:(ZZ all D pre && ZZ all D l && ZZ all Dc l)=true) (hd:(QR all i).dst=some d) (V:C { w with drawn:=w.drawn+1 }) (ha:∀x x',C x->sX x x'->C x') (hc:∀b∈own,b<↑w)
  (stab:∀v (own:LN) w w',Φ v w->O5 own w w'->(∀b∈ow v,b∉own)->Φ v w') (mono:∀z C own w w',I z C own w->sX w w'->I z C own w')
  (fin:∀z g own w v (C':xA),I z C' own w->C' w->(∀x,C' x->C x)->Φ v w->(∀b∈ow v,b∉own/\b<↑w)->XP P all C' (λf w=>Q .normal f w) rest (QN (UO (S z) (mix D f g)) (some d) v) w)
  (h:XP P all C (λf1 _=>(∀g w,C w->XO P (QR all i) (mix Dc f1 g) w λE w'=>sX w w'/\C w'/\Φ (E d) w'/\∀b∈ow (E d),↑w<=b/\b<↑w')/\Kx P all (λC' o E w'=>∃z,Y0 E (S z)/\I z C' o w') l C own f1 { w with drawn:=w.drawn+1 }) pre f { w with drawn:=w.drawn+1 }):W P n (.region id all.toArray true) Q f w:=by
 rw[Lx,Lx]at J;simp only[Qg6,oM,beq_iff_eq,Option.isNone_iff_eq_none]at T;obtain⟨⟨⟨⟨⟨G,hl⟩,hq⟩,he⟩,hg⟩,hfr⟩:=T;rw[hd]at hfr;refine J2 C hm hn ?_;have Y:=YQ (K:=λf w=>Q .normal f w) (m:=l.length+1+rest.length) G pre (oT all.length false) f _ V hq
  (B:=λf1 _=>Fl3 P all C (λf w=>Q .normal f w) (λC' o E w'=>(∀t,Y3 D t=false->E t=f t)/\∃z,Y0 E (S z)/\I z C' o w') i d rest Φ Dc f1/\Kx P all (λC' o E w'=>(∀t,Y3 D t=false->E t=f t)/\∃z,Y0 E (S z)/\I z C' o w') l C own f1 { w with drawn:=w.drawn+1 })
  (λf1 hB=>QbT hB.1 G hg hd l C (Yb pre (oT all.length false)) own f1 _ (λ_ h=>h) ha (by rw[YU];simp) hfr J.2 (λ_ _=>rfl) hB.2 V hc he)
  (XP.keeps_mono _ _ _ (XP.keeps pre f _ J.1.1 (λ_ _=>U) h) (λf1 w1 hx=>⟨⟨stab,?_,?_,?_⟩,Kx.keeps l C own _ _ J.1.2 hx.1 hx.2.2⟩))
 ·rw[hl]at Y;exact Y
 ·intro E w' H O;have:=hx.2.1 E w' O;rw[Jb H]at this;exact this
 ·rintro C' o E w' ⟨H,z,G,hi⟩ v O hf hv hb;have:=fin z E o w' v C' hi O hf hv hb;rw[Jb H,Xg G]at this;exact this
 rintro C' o E w' hj ⟨H,z,G,hi⟩ hh;exact⟨H,z,G,mono z C' o _ _ hi hh⟩
theorem f2k {l:xu}{own:LN}(h:∀E,sX w E->C E->XO P (QR all j) f E λH w'=>C w'/\∃own',O5 own E w'/\(∀b∈own',b∈own\/(↑E<=b/\b<↑w'))/\Kx P all KF l C own' H w')
  (I:Z9 all f (QR all j)=true:=by rfl) (J:∀x x',C x->sX x x'->C x':=by exact λ_ _ G O=>G.D O):Kx P all KF ((j,false)::l) C own f w :=
 ⟨I,λE G S=>XO.mono (λ_ _ hx=>⟨C,λ_ h=>h,J,hx⟩) (h E G S)⟩
theorem f2e {own:LN}{S:α->List (Nat×O2)}{I:α->LN->O1->Prop}(h:∃z,Y0 f (S z)/\I z own w):Kx P all (λC' o E w'=>∃z,Y0 E (S z)/\(C'=C/\I z o w')) [] C own f w :=
 let⟨z,a,b⟩:=h
 ⟨z,a,U,b⟩
theorem Jf {Q:Exit->Fr->O1->Prop}(C:xA)(pre l:xu)(i d:Nat)(rest:xu)(own:LN)(D Dc:xw)(S:α->List (Nat×O2))(I:α->LN->O1->Prop)(Φ:O2->O1->Prop)(G:P.follows .mixedOrders=true)(H:XI n all=true)
  (J:Qg6 all pre l i rest=true) (O:(ZZ all D pre && ZZ all D l && ZZ all Dc l)=true) (hd:(QR all i).dst=some d) (T:C { w with drawn:=w.drawn+1 }) (V:∀b∈own,b<↑w)
  (stab:∀v (own:LN) w w',Φ v w->O5 own w w'->(∀b∈ow v,b∉own)->Φ v w') (mono:∀z own w w',I z own w->sX w w'->I z own w')
  (fin:∀z g own w v,I z own w->C w->Φ v w->(∀b∈ow v,b∉own/\b<↑w)->XP P all C (λf w=>Q .normal f w) rest (QN (UO (S z) (mix D f g)) (some d) v) w)
  (h:XP P all C (λf1 _=>(∀g w,C w->XO P (QR all i) (mix Dc f1 g) w λE w'=>sX w w'/\C w'/\Φ (E d) w'/\∀b∈ow (E d),↑w<=b/\b<↑w')/\Kx P all (λC' o E w'=>∃z,Y0 E (S z)/\(C'=C/\I z o w')) l C own f1 { w with drawn:=w.drawn+1 }) pre f { w with drawn:=w.drawn+1 })
  (Y:∀x x',C x->sX x x'->C x':=by exact λ_ _ h1 h2=>h1.D h2):W P n (.region id all.toArray true) Q f w :=
 QaX C pre l i d rest own D Dc S (λz C' o w=>C'=C/\I z o w) Φ G H J O hd T Y V stab (λz _ o w w' h hs=>⟨h.1,mono z o w w' h.2 hs⟩)
  (λz g o w v C' h ha _ hv hb=>by obtain⟨rfl,hi⟩:=h;exact fin z g o w v hi ha hv hb) h
end
attribute [irreducible] Kx
abbrev Z8:LV:=[nS,nS,nS,nS,nS]
abbrev K3:LV:=[nS,sS 0,nS,nS]
theorem XD {a:Array UInt8}(h:a.size<=100):(⟨a⟩:ByteArray).size<=9223372036854775807:=by
 show a.size<=_;omega
def Uq (N M:Nat):LN:=(oV M).filter λb=>decide (N<=b)
theorem Zw :b∈Uq N M↔N<=b/\b<M:=by
 unfold Uq;rw[L5,Nt,decide_eq_true_iff];exact And.comm
open Go.RowKit
def y7 (all:Array Oper)(i k:Nat)(rest:xu):xu->Array Bool->Bool
 | [],ls=>!(Region.ready .any all ls).isEmpty && (Region.ready .any all ls).all (λx=>x == i || x == k) && Ua all k rest [] (ls.setIfInBounds i true) && Ua all i rest [] (ls.setIfInBounds k true)
 | (j,true)::l,ls=>(Region.ready .any all ls).contains j && Region.free .any all ls j && y7 all i k rest l (ls.setIfInBounds j true)
 | (j,false)::l,ls=>!(Region.ready .any all ls).isEmpty && (Region.ready .any all ls).all (λx=>x == j || (x == i || x == k)) && Ua all k rest ((j,false)::l) (ls.setIfInBounds i true) && Ua all i rest ((j,false)::l) (ls.setIfInBounds k true) && y7 all i k rest l (ls.setIfInBounds j true)
def QnQ (all:xE)(pre l:xu)(i k:Nat)(rest:xu):Bool :=
 Region.noSelect all.toArray && (pre.length+(l.length+2+rest.length) == all.length) && Kh all.toArray pre (oT all.length false) && y7 all.toArray i k rest l (Yb pre (oT all.length false))
  && (QR all i).guard.isNone && (QR all k).guard.isNone && (match (QR all i).dst with|some d=>ZJ all d l|none=>false) && (match (QR all k).dst with|some d=>ZJ all d l|none=>false)
section
variable {all:xE}{C:xA}{KF:xA->LN->Fr->O1->Prop}
structure Fq (P:O4)(all:xE)(C:xA)(K:xz)(KF:xA->LN->Fr->O1->Prop)(i d k e:Nat)(rest:xu)(Φ Ψ:O2->O1->Prop)(Dc:xw)(f1:Fr):Prop where
 st1:∀v (own:LN) w w',Φ v w->O5 own w w'->(∀b∈ow v,b∉own)->Φ v w'
 st2:∀v (own:LN) w w',Ψ v w->O5 own w w'->(∀b∈ow v,b∉own)->Ψ v w'
 sp1:∀f w,(∀t,Y3 Dc t=false->f t=f1 t)->C w->XO P (QR all i) f w λf' w'=>sX w w'/\C w'/\Φ (f' d) w'/\∀b∈ow (f' d),↑w<=b/\b<↑w'
 sp2:∀f w,(∀t,Y3 Dc t=false->f t=f1 t)->C w->XO P (QR all k) f w λf' w'=>sX w w'/\C w'/\Ψ (f' e) w'/\∀b∈ow (f' e),↑w<=b/\b<↑w'
 fin:∀C' own f w,KF C' own f w->∀v u,C' w->(∀x,C' x->C x)->Φ v w->Ψ u w->(∀b∈ow v,b∉own/\b<↑w)->(∀b∈ow u,b∉own/\b<↑w)->(∀b∈ow v,b∉ow u)->XP P all C' K rest (QN (QN f (some d) v) (some e) u) w
 mono:∀C' own f w w',KF C' own f w->sX w w'->KF C' own f w'
 cl:∀x x',C x->sX x x'->C x'
theorem Fq.swap {d k e:Nat}{Ψ:O2->O1->Prop}(E:Fq P all C K KF i d k e rest Φ Ψ Dc f1)(G:d≠e):Fq P all C K KF k e i d rest Ψ Φ Dc f1 :=
 ⟨E.st2,E.st1,E.sp2,E.sp1,λC' own f w h v u H I J O S T hd=>by
  rw[JM f v u (λx hx=>by cases hx;exact λh=>G (Option.some.inj h))];exact E.fin C' own f w h u v H I O J T S (λb V Y=>hd b Y V),E.mono,E.cl⟩
def KF1 (KF:xA->LN->Fr->O1->Prop)(Φ:O2->O1->Prop)(d:Nat)(v:O2)(C:xA)(own:LN)(f:Fr)(w:O1):Prop :=
 ∃own0 f0,own=ow v++own0/\f=QN f0 (some d) v/\KF C own0 f0 w/\Φ v w/\∀b∈ow v,b∉own0/\b<↑w
attribute [local semireducible] Kx in
theorem Kx.put {d:Nat}{Φ:O2->O1->Prop}(stab:∀v (own:LN) w w',Φ v w->O5 own w w'->(∀b∈ow v,b∉own)->Φ v w')(S:Region.noSelect all.toArray=true){v:O2}:∀(l:xu) (C:xA) (own:LN) (f:Fr) (w:O1),ZJ all d l=true->Kx P all KF l C own f w->Φ v w ->
  (∀b∈ow v,b∉own/\b<↑w)->Kx P all (KF1 KF Φ d v) l C (ow v++own) (QN f (some d) v) w
 | [],_,own,f,w,_,h,I,E=>⟨own,f,U,U,h,I,E⟩
 | (j,q)::l,C,own,f,w,hfr,h,I,E=>by
  simp only[ZJ,oU,oM,Oe,List.contains_eq_mem,decide_eq_false_iff_not,beq_eq_false_iff_ne,ne_eq]at hfr;obtain⟨⟨Y,h2⟩,hfr⟩:=hfr;have ha:ZJ all d l=true:=by simpa[ZJ]using hfr
  have hf:=yD S j;have hd:∀e,some d=some e->e∉(QR all j).looksAt all.toArray:=λe T=>by cases T;exact Y
  cases q with
  | true =>
   obtain⟨hg,u,hu,hx⟩:=h;refine⟨by rw[Jo (QR all j) f (some d) v hd];exact hg,u,λw' hc=>?_,?_⟩
   ·rw[XH (all:=all) hf f (some d) v hd];exact hu w' hc
   rw[JM f v u (λe T=>by cases T;exact h2)];exact Kx.put stab S l C own _ w ha hx I E
  | false =>
   refine⟨by rw[Jo (QR all j) f (some d) v hd];exact h.1,λJ O hi=>?_⟩;have hj:Φ v J:=stab v [] w J I O (λb _=>od);refine QbS (all:=all) hf Y h2 (λu w' hx=>?_) (h.2 J O hi);obtain⟨C',hk,hl,hn,own',V,hh,hx⟩:=hx;refine⟨C',hk,hl,hn,ow v++own',V.mono λb E=>Lc.2 (.inr E),λb G=>?_,Kx.put stab S l C' own' _ w' ha hx (stab v own J w' hj V (λb G=>(E b G).1)) (λb G=>⟨λhm=>?_,LO (LO (E b G).2 O.size) V.size⟩)⟩
   ·rcases Lc.1 G with H|H
    ·exact .inl (Lc.2 (.inl H))
    exact(hh b H).imp (λh4=>Lc.2 (.inr h4)) id
   rcases hh b hm with H|H
   ·exact(E b G).1 H
   exact ND _ (LO (LO (E b G).2 O.size) H.1)
theorem Qgg {d k e:Nat}{Ψ:O2->O1->Prop}(G:Fq P all C K KF i d k e rest Φ Ψ Dc f1)(hs:Region.noSelect all.toArray=true)(hd:(QR all i).dst=some d)(hi:(QR all k).guard=none)(he:(QR all k).dst=some e)(hj:Y3 Dc d=true){l:xu}{ls:Array Bool}{own:LN}(hk:ls.size=all.length)(hl:ZJ all d l=true)(hn:ZJ all e l=true)(ho:ZZ all Dc l=true)(hk1:∀t,Y3 Dc t=false->f t=f1 t)
  {C0:xA} (h:Kx P all KF l C0 own f w) (J:C0 w) (O:∀x,C0 x->C x) (hf:∀x x',C0 x->sX x x'->C0 x') (hg:∀b∈own,b<↑w) (hp:Ua all.toArray k rest l (ls.setIfInBounds i true)=true):
  XO P (QR all i) f w λf' w'=>(Vi all i=true\/w'=w\/C0 w')/\XA P all C0 K (l.length+1+rest.length) (ls.setIfInBounds i true) f' w':=by
 have hx:=G.sp1 f w hk1 (O _ J);refine hx.mono λv w' hx=>?_;rw[hd]at hx ⊢;obtain⟨S,_,h3,T⟩:=hx;simp only[QN,Y9]at h3 T;have hh:∀b∈ow v,b∉own/\b<w'.heap.size:=λb E=>⟨λI=>ND _ (LO (hg b I) (T b E).1),(T b E).2⟩;have h2:=hf _ _ J S;have hq:Fl3 P all C K (KF1 KF Φ d v) k e rest Ψ Dc f1:=⟨G.st2,G.sp2,λC' own f w h u J O hu V=>by
   obtain⟨Y,f0,rfl,rfl,ha,hv,E⟩:=h;exact G.fin C' Y f0 w ha v u J O hv hu E (λb H=>⟨λI=>(V b H).1 (Lc.2 (.inr I)),(V b H).2⟩) (λb H I=>(V b I).1 (Lc.2 (.inl H))),λC' own f w w' h hc=>by
   obtain⟨Y,f0,rfl,rfl,ha,hv,E⟩:=h;exact⟨Y,f0,U,U,G.mono _ _ _ _ _ ha hc,G.st1 v [] w w' hv hc (λb _=>od),λb H=>⟨(E b H).1,LO (E b H).2 hc.size⟩⟩⟩
 refine⟨.inr (.inr h2),QbT hq hs hi he l C0 _ (ow v++own) _ w' O hf (oA hk) hn ho (λt ht=>?_) (Kx.put G.st1 hs l C0 own f w' hl (Kx.I G.mono h S) h3 hh) h2 (λb E=>?_) hp⟩
 ·refine(Y1 (λe=>?_) v).D (hk1 t ht);cases e
  rw[hj]at ht;cases ht
 rcases Lc.1 E with E|E
 ·exact(hh b E).2
 exact LO (hg b E) S.size
attribute [local semireducible] Kx in
theorem QkQ {i d k e:Nat}{rest:xu}{Φ Ψ:O2->O1->Prop}{Dc:xw}{f1:Fr}(hF:Fq P all C K KF i d k e rest Φ Ψ Dc f1)(hs:Region.noSelect all.toArray=true)(S:(QR all i).guard=none)(hd:(QR all i).dst=some d)(T:(QR all k).guard=none)(he:(QR all k).dst=some e)(hi:d≠e)(hl:Y3 Dc d=true)(hm:Y3 Dc e=true):
  ∀(l:xu) (C0:xA) (ls:Array Bool) (own:LN) (f:Fr) (w:O1),(∀x,C0 x->C x)->(∀x x',C0 x->sX x x'->C0 x')->ls.size=all.length->ZJ all d l=true->ZJ all e l=true->ZZ all Dc l=true->(∀t,Y3 Dc t=false->f t=f1 t) ->
  Kx P all KF l C0 own f w->C0 w->(∀b∈own,b<↑w)->y7 all.toArray i k rest l ls=true->XA P all C0 K (l.length+2+rest.length) ls f w
 | [],C0,ls,own,f,w,V,hc,Y,H,I,G,hk1,h,J,ha,hp=>by
  simp only[y7,oM,Ok,OG,beq_iff_eq,Oe]at hp;obtain⟨⟨⟨hh,hr⟩,hn⟩,hq⟩:=hp;rw[show([]:xu).length+2+rest.length=(([]:xu).length+1+rest.length)+1 by simp;omega];refine X2 (λh0=>(by rw[h0]at hh;cases hh)) ?_;intro x hx o O;have hg:=Zs O;rcases hr x hx with rfl|rfl
  ·have E:=Qgg hF hs hd T he hl Y H I G hk1 h J V hc ha hn;rw[hg]at E S;rw[XY S,cond_true];exact E
  have E:=Qgg (hF.swap hi) hs he S hd hm Y I H G hk1 h J V hc ha hq;rw[hg]at E T;rw[XY T,cond_true];exact E
 | (j,true)::l,C0,ls,own,f,w,V,hc,Y,H,I,G,hk1,h,J,ha,hp=>by
  simp only[y7,oM]at hp;obtain⟨⟨hr,hf⟩,ht⟩:=hp;have h4:j∈Region.ready .any all.toArray ls:=by simpa using hr
  have e':(oQ ((j,true)::l))+2+rest.length=(l.length+2+rest.length)+1:=by simp;omega
  rw[e'];have hu:ZJ all d l=true:=by simp only[ZJ,oU,oM]at H;exact H.2
  have hw:ZJ all e l=true:=by simp only[ZJ,oU,oM]at I;exact I.2
  simp only[ZZ,oU,oM]at G;have hy:ZZ all Dc l=true:=G.2;cases O:all[j]? with
  | none =>
   exfalso;obtain⟨_,o,h7,_⟩:=mem_ready.1 h4;simp[O]at h7
  | some o =>
   obtain⟨h5,v,hv,hx⟩:=h;rw[Zs O]at h5 hv hx;have h8:∀(j:Nat) (o:Oper) cs b,all[j]?=some o->o.op≠.select cs b:=λj o cs b hj=>Region.noSelect_spec hs j o cs b (oA hj);have h9:=λk ok hk=>Region.free_spec (ops:=all.toArray) (md:=.any) (i:=j) (oi:=o) (listed:=ls) (oA O) hf k ok (oA hk);exact Xs (v:=v) (D:=λw=>zf o=true->C0 w) O (λ_ h=>h) h8 _ ls f w (λ_=>J) h9 h4 (.inl ⟨h5,hv⟩) (QkQ hF hs S hd T he hi hl hm l C0 _ own _ w V hc (oA Y) hu hw hy (by have:=KE (v:=v) G.1 hk1;rw[Zs O]at this;exact this) hx J ha ht)
 | (j,false)::l,C0,ls,own,f,w,V,hc,Y,H,I,G,hk1,h,J,ha,hp=>by
  simp only[y7,oM,Ok,OG,beq_iff_eq,Oe]at hp;obtain⟨⟨⟨⟨hh,hr⟩,hn⟩,hq⟩,ht⟩:=hp;have e':(oQ ((j,false)::l))+2+rest.length=((oQ ((j,false)::l))+1+rest.length)+1:=oa
  have e2:(oQ ((j,false)::l))+1+rest.length=l.length+2+rest.length:=rfl;rw[e'];refine X2 (λh0=>(by rw[h0]at hh;cases hh)) ?_;intro x hx o O;have hg:=Zs O;rcases hr x hx with rfl|rfl|rfl
  ·rw[e2];have hu:ZJ all d l=true:=by simp only[ZJ,oU,oM]at H;exact H.2
   have hw:ZJ all e l=true:=by simp only[ZJ,oU,oM]at I;exact I.2
   simp only[ZZ,oU,oM]at G;have hy:ZZ all Dc l=true:=G.2;have E:=h.1;have h2:=h.2 w (O5.Z _ _) J;rw[hg]at E h2;rw[E,cond_true];refine h2.mono λv w' hx=>?_;obtain⟨C',hz,hA,h6,own',hB,hD,hx⟩:=hx;refine⟨.inr (.inr (hz _ h6)),XA.sub hz _ _ _ _ (QkQ hF hs S hd T he hi hl hm l C' _ own' _ w' (λx hx=>V x (hz x hx)) hA (oA Y) hu hw hy (by have:=KE (v:=v) G.1 hk1;rw[hg]at this;exact this) hx h6 (λb hb=>?_) ht)⟩;rcases hD b hb with h3|h3
   ·exact LO (ha b h3) hB.size
   exact h3.2
  ·have E:=Qgg hF hs hd T he hl Y H I G hk1 h J V hc ha hn;rw[hg]at E S;rw[XY S,cond_true];exact E
  have E:=Qgg (hF.swap hi) hs he S hd hm Y I H G hk1 h J V hc ha hq;rw[hg]at E T;rw[XY T,cond_true];exact E
theorem QkT {Q:Exit->Fr->O1->Prop}(C:xA)(pre l:xu)(i d k e:Nat)(rest:xu)(own:LN)(D Dc:xw)(S:α->List (Nat×O2))(I:α->LN->O1->Prop)(Φ Ψ:O2->O1->Prop)(hm:P.follows .mixedOrders=true)(hn:XI n all=true)
  (T:QnQ all pre l i k rest=true) (V:(ZZ all D pre && ZZ all D l && ZZ all Dc l && Y3 Dc d && Y3 Dc e && (d != e))=true) (hd:(QR all i).dst=some d) (Y:(QR all k).dst=some e) (hC:C { w with drawn:=w.drawn+1 }) (hg:∀b∈own,b<↑w)
  (st1:∀v (own:LN) w w',Φ v w->O5 own w w'->(∀b∈ow v,b∉own)->Φ v w') (st2:∀v (own:LN) w w',Ψ v w->O5 own w w'->(∀b∈ow v,b∉own)->Ψ v w') (mono:∀z own w w',I z own w->sX w w'->I z own w')
  (fin:∀z g own w v u,I z own w->C w->Φ v w->Ψ u w->(∀b∈ow v,b∉own/\b<↑w)->(∀b∈ow u,b∉own/\b<↑w)->(∀b∈ow v,b∉ow u)->XP P all C (λf w=>Q .normal f w) rest (QN (QN (UO (S z) (mix D f g)) (some d) v) (some e) u) w)
  (h:XP P all C (λf1 _=>(∀g w,C w->XO P (QR all i) (mix Dc f1 g) w λE w'=>sX w w'/\C w'/\Φ (E d) w'/\∀b∈ow (E d),↑w<=b/\b<↑w')/\(∀g w,C w->XO P (QR all k) (mix Dc f1 g) w λE w'=>sX w w'/\C w'/\Ψ (E e) w'/\∀b∈ow (E e),↑w<=b/\b<↑w')/\Kx P all (λC' o E w'=>∃z,Y0 E (S z)/\(C'=C/\I z o w')) l C own f1 { w with drawn:=w.drawn+1 }) pre f { w with drawn:=w.drawn+1 })
  (ha:∀x x',C x->sX x x'->C x':=by exact λ_ _ O h2=>O.D h2):W P n (.region id all.toArray true) Q f w:=by
 simp only[oM,bne_iff_ne,ne_eq]at V;obtain⟨⟨⟨⟨⟨hh,hj⟩,ho⟩,hr⟩,ht⟩,hw⟩:=V;simp only[QnQ,oM,beq_iff_eq,Option.isNone_iff_eq_none]at T;obtain⟨⟨⟨⟨⟨⟨⟨H,hl⟩,hq⟩,hy⟩,hz⟩,h0⟩,hc⟩,hf⟩:=T;rw[hd]at hc;rw[Y]at hf;refine J2 C hm hn ?_;have O:=YQ (K:=λf w=>Q .normal f w) (m:=l.length+2+rest.length) H pre (oT all.length false) f _ hC hq
  (B:=λf1 _=>Fq P all C (λf w=>Q .normal f w) (λC' o E w'=>(∀t,Y3 D t=false->E t=f t)/\∃z,Y0 E (S z)/\(C'=C/\I z o w')) i d k e rest Φ Ψ Dc f1/\Kx P all (λC' o E w'=>(∀t,Y3 D t=false->E t=f t)/\∃z,Y0 E (S z)/\(C'=C/\I z o w')) l C own f1 { w with drawn:=w.drawn+1 })
  (λf1 hB=>QkQ hB.1 H hz hd h0 Y hw hr ht l C (Yb pre (oT all.length false)) own f1 _ (λ_ h=>h) ha (by rw[YU];simp) hc hf ho (λ_ _=>rfl) hB.2 hC hg hy)
  (XP.keeps_mono _ _ _ (XP.keeps pre f _ hh (λ_ _=>U) h) (λf1 w1 hx=>⟨⟨st1,st2,?_,?_,?_,?_,ha⟩,Kx.keeps l C own _ _ hj hx.1 hx.2.2.2⟩))
 ·rw[hl]at O;exact O
 ·intro E w' G J;have:=hx.2.1 E w' J;rw[Jb G]at this;exact this
 ·intro E w' G J;have:=hx.2.2.1 E w' J;rw[Jb G]at this;exact this
 ·rintro C' o E w' ⟨G,z,H,rfl,hi⟩ v u J _ hv hu hb h3 h4;have:=fin z E o w' v u hi J hv hu hb h3 h4;rw[Jb G,Xg H]at this;exact this
 rintro C' o E w' h6 ⟨G,z,H,e,hi⟩ h5;exact⟨G,z,H,e,mono z o _ _ hi h5⟩
end
section
def eqV:O2->O2->Bool
 | .int _ a,.int _ b=>a == b
 | .string a,.string b=>a == b
 | .bool a,.bool b=>a == b
 | _,_=>false
def tvB:LN->LV->LV->Bool
 | [],[],[]=>true
 | 0::ks,oG oH _::xs,oG oH _::ys=>tvB ks xs ys
 | 1::ks,.string _::xs,.string _::ys=>tvB ks xs ys
 | 2::ks,.bool _::xs,.bool _::ys=>tvB ks xs ys
 | _,_,_=>false
def K7:LV->LV->Bool
 | x::xs,y::ys=>eqV x y && K7 xs ys
 | _,_=>true
inductive Fks (P:O4):Nat->List Field->LN->Prop
 | nil {o:Nat}:Fks P o [] []
 | int {o:Nat} {f:Field} {fs:List Field} {ks:LN} (hn:f.name ≠ "_") (ho:f.offset=o) (hu:P.underlying f.type=some (.int .i64)) (h:Fks P (o+1) fs ks):Fks P o (f::fs) (0::ks)
 | str {o:Nat} {f:Field} {fs:List Field} {ks:LN} (hn:f.name ≠ "_") (ho:f.offset=o) (hu:P.underlying f.type=some .string) (h:Fks P (o+1) fs ks):Fks P o (f::fs) (1::ks)
 | flag {o:Nat} {f:Field} {fs:List Field} {ks:LN} (hn:f.name ≠ "_") (ho:f.offset=o) (hu:P.underlying f.type=some .bool) (h:Fks P (o+1) fs ks):Fks P o (f::fs) (2::ks)
theorem zS {k:Nat}{v:O2}{l:LV}(h:∀w,(isAgg t).run P w=.ok false w)(E:l[k]?=some v)(w:O1):(part t l.toArray k).run P w=.ok v w:=by
 have e:l.toArray[k]?=some v:=by simpa using E
 simp[part,h w,e]
theorem jd {d o:Nat}{f:Field}{fs:List Field}{x y:O2}{xs ys X Y:LV}(I:f.name ≠ "_") (J:f.offset=o) (E:∀w,(isAgg f.type).run P w=.ok false w) (O:∀m w,(Op.equalIn (m+1) f.type x y).run P w=.ok (eqV x y) w)
  (G:X.drop o=x::xs) (H:Y.drop o=y::ys) (ih:X.drop (o+1)=xs->Y.drop (o+1)=ys->∀w,(Op.eqFields (d+1) X.toArray Y.toArray fs).run P w=.ok (K7 xs ys) w) (w:O1):
  (Op.eqFields (d+1) X.toArray Y.toArray (f::fs)).run P w=.ok (K7 (x::xs) (y::ys)) w:=by
 have hx:X[o]?=some x:=by rw[<-List.head?_drop,G];rfl
 have S:Y[o]?=some y:=by rw[<-List.head?_drop,H];rfl
 have T:X.drop (o+1)=xs:=by rw[<-List.tail_drop,G];rfl
 have V:Y.drop (o+1)=ys:=by rw[<-List.tail_drop,H];rfl
 simp only[Op.eqFields,I,ne_eq,not_false_eq_true,if_true,Sem.run_bind,J,zS E hx,zS E S,O,Result.andThen_ok,Sem.run_ite,K7];cases hv:eqV x y with
 | false=>simp
 | true=>simpa using ih T V w
theorem Fks.run {d:Nat}{o:Nat}{fs:List Field}{ks:LN}(h:Fks P o fs ks):∀{xs ys X Y:LV},tvB ks xs ys=true->X.drop o=xs->Y.drop o=ys->∀w,(Op.eqFields (d+1) X.toArray Y.toArray fs).run P w=.ok (K7 xs ys) w:=by
 induction h with
 | nil =>
  intro xs ys X Y E _ _ w;cases xs with
  | nil=>simp[Op.eqFields,K7]
  | cons x xs=>cases ys <;> simp[tvB]at E
 | @int o f fs ks H I G h ih =>
  intro xs ys X Y E J O w
  match xs,ys,E with
  | oG oH a::xs,oG oH b::ys,E=>exact jd H I (λw=>by simp[isAgg,run_underlying G]) (λm w=>by simp[Op.equalIn,run_underlying G,eqV]) J O (λS T=>ih E S T) w
 | @str o f fs ks H I G h ih =>
  intro xs ys X Y E J O w
  match xs,ys,E with
  | .string a::xs,.string b::ys,E=>exact jd H I (λw=>by simp[isAgg,run_underlying G]) (λm w=>by simp[Op.equalIn,run_underlying G,eqV]) J O (λS T=>ih E S T) w
 | @flag o f fs ks H I G h ih =>
  intro xs ys X Y E J O w
  match xs,ys,E with
  | .bool a::xs,.bool b::ys,E=>exact jd H I (λw=>by simp[isAgg,run_underlying G]) (λm w=>by simp[Op.equalIn,run_underlying G,eqV]) J O (λS T=>ih E S T) w
class Sk (P:O4)(t:Nat)(ks:outParam (LN)):Prop where
 u:∃fs:List Field,P.underlying t=some (.struct fs.toArray)/\Fks P 0 fs ks
 s:P.stoodInHeld t=false
 g:P.eqGuardType P.depth t=false
theorem KX {ks:LN}[h:Sk P t ks]{xs ys:LV}(I:tvB ks xs ys=true)(w:O1):(Op.equal t (sT xs) (sT ys)).run P w=.ok (K7 xs ys) w:=by
 obtain⟨fs,E,J⟩:=h.u;have G:P.fieldsOf t=fs.toArray:=by unfold Program.fieldsOf;rw[E]
 have O:P.underlying t=some (.struct (P.fieldsOf t)):=by rw[G];exact E
 have H:=run_equalIn_struct (P:=P) w 9999 t xs.toArray ys.toArray O h.s;rw[G]at H;exact H.D (J.run (d:=9998) I U U w)
variable {pS:String}
theorem Qcv {ks:LN}[h:Sk P t ks]{x:O3}{xs ys:LV}(G:tvB ks xs ys=true)(hx:ev f x=sT xs)(H:ev f y=sT ys):
  (execOp (ev f) ⟨d,.binOp .eql t x y E,ty,pS,af,gd⟩).run P w=.ok (.value (.bool (K7 xs ys))) w:=by
 have I:(eqGuard .eql t x y (sT xs) (sT ys)).run P w=.ok () w:=by simp[eqGuard,h.g]
 simp only[execOp,hx,H,Sem.run_bind,I,Result.andThen_ok,binOp,KX G,Sem.run_pure]
theorem Vv {ks:LN}[h:Sk P t ks]{x:O3}{xs ys:LV}(G:tvB ks xs ys=true)(hx:ev f x=sT xs)(H:ev f y=sT ys):
  (execOp (ev f) ⟨d,.binOp .neq t x y E,ty,pS,af,gd⟩).run P w=.ok (.value (.bool (!K7 xs ys))) w:=by
 have I:(eqGuard .neq t x y (sT xs) (sT ys)).run P w=.ok () w:=by simp[eqGuard,h.g]
 simp only[execOp,hx,H,Sem.run_bind,I,Result.andThen_ok,binOp,KX G,Sem.run_pure]
end
abbrev kKy (k:Int×ByteArray):O2:=.agg #[sS k.1,.string k.2]
theorem Qmk (k k':Int×ByteArray):K7 [sS k.1,.string k.2] [sS k'.1,.string k'.2]=decide (k=k'):=by
 obtain⟨a,b⟩:=k;obtain⟨c,e⟩:=k';have E:(b == e)=decide (b=e):=by
  cases E:(b == e)with
  | true=>exact(OX ((MapKept.bytes_beq b e).1 E)).symm
  | false=>exact(OZ λh=>by rw[(MapKept.bytes_beq b e).2 h]at E;cases E).symm
 simp only[K7,eqV,E,Bool.and_true,Prod.mk.injEq];by_cases G:a=c
 ·subst G;simp
 simp[G]
theorem QoG {f0 f1:Field}[h:Sk P kt [0,1]](G:P.underlying kt=some (.struct #[f0,f1]))(T:f0.name ≠ "_") (n1:f1.name ≠ "_") (V:f0.offset=0) (o1:f1.offset=1) (H:P.underlying f0.type=some (.int .i64)) (I:P.underlying f1.type=some .string):Key P kt kKy:=by
 have Y:∀w,(isAgg f0.type).run P w=.ok false w:=λw=>by simp[isAgg,run_underlying H]
 have ha:∀w,(isAgg f1.type).run P w=.ok false w:=λw=>by simp[isAgg,run_underlying I]
 refine⟨λw em k=>?_,λw k ks es J=>?_,λk=>?_⟩
 ·obtain⟨a,b⟩:=k;have p0:∀w,(part f0.type #[sS a,.string b] 0).run P w=.ok (sS a) w:=λw=>zS (l:=[sS a,.string b]) (k:=0) Y U w;have p1:∀w,(part f1.type #[sS a,.string b] 1).run P w=.ok (.string b) w:=λw=>zS (l:=[sS a,.string b]) (k:=1) ha U w;have c0:∀(m:Nat) (w:O1),(Instr.checkKey em (m+1) f0.type (sS a)).run P w=.ok () w:=λm w=>by simp[Instr.checkKey,run_underlying H]
  have c1:∀(m:Nat) (w:O1),(Instr.checkKey em (m+1) f1.type (.string b)).run P w=.ok () w:=λm w=>by simp[Instr.checkKey,run_underlying I]
  simp only[kKy];unfold Instr.checkKey;simp only[Sem.run_bind,run_underlying G,Result.andThen_ok];simp[T,n1,V,o1,p0,p1,c0,c1]
 ·have ask:∀(ks:List (Int×ByteArray)) (es:List MapEntry) (i:Nat),es.map (·.key)=ks.map kKy->(Instr.findAsking kt (kKy k) es i).run P w=.ok (fnd k ks es i) w:=by
   intro ks;induction ks with
   | nil=>intro es i h;simp at h;subst h;simp[Instr.findAsking,fnd]
   | cons q ks ih =>
    intro es i E;cases es with
    | nil=>simp at E
    | cons e es =>
     simp only[oY,List.cons.injEq]at E;have O:=KX (P:=P) (t:=kt) (xs:=[sS k.1,.string k.2]) (ys:=[sS q.1,.string q.2]) U w;rw[Qmk]at O;have hb:(Op.equal kt (kKy k) (kKy q)).run P w=.ok (decide (k=q)) w:=O;simp only[Instr.findAsking,E.1,Sem.run_bind,hb,Result.andThen_ok,fnd];by_cases S:k=q
     ·subst S;simp
     simp[S,(ih es (i+1) E.2)]
  cases es with
  | nil =>
   have:ks=[]:=by simpa using J.symm
   subst this;simp[Instr.findKey,run_underlying G,Instr.findNow,fnd]
  | cons e es =>
   have hn:Instr.findNow (.struct #[f0,f1]) (kKy k) (e::es) 0=none:=by simp[Instr.findNow,Instr.sameNow]
   simp only[Instr.findKey,Sem.run_bind,run_underlying G,Result.andThen_ok,hn];exact ask ks (e::es) 0 J
 simp[Instr.sameBits,(MapKept.bytes_beq k.2 k.2).2 rfl]
section
variable {pS:String}
theorem zq {e bys:Nat}[h:Sl P t e sz bys z]{base:Nat}{v:O2}(E:w.ownsRow base e sz v n cs):
  (Builtin.append_ #[t,t] ty #[v,nS]).run P w=.ok v w:=by
 obtain⟨i,hi,_,H,_⟩:=Sl.info h;rcases E.2 with⟨rfl,rfl⟩|⟨g,cap,cur,rfl,I,J,G,O,S,T⟩
 ·simp[Builtin.append_,run_underlying h.u,sizeOf,typeInfo,hi,Builtin.lenOf,Builtin.firstCells]
 simp[Builtin.append_,run_underlying h.u,sizeOf,typeInfo,hi,Builtin.lenOf,Builtin.firstCells,G,storeCells]
theorem Qbo {e bys:Nat}[h:Sl P t e sz bys z]{s:O3}{base:Nat}{v:O2}(E:w.ownsRow base e sz v n cs)(I:ev f s=v)
  {v2:O2} {m:Nat}   (G:Zo L w.heap v2 m sz news) (J:ev f y=v2) (O:∀u∈news,u.oneCell'=true)
  (H:n+m<=1099511627776) (S:base<=↑w)
  (hK:∀v' w',w'.ownsRow base e sz v' (n+m) (cs++news)->O5 (ob v) w w'->(∀b∈ob v',b∈ob v\/↑w<=b)->K (QN f d v') w') (T:bys<=128:=by decide):
  XO P ⟨d,.call ⟨.builtin .append,#[s,y],#[t,t]⟩,ty,pS,af,gd⟩ f w K:=by
 rcases G.2.2 with⟨e1,e2⟩|⟨a,c,e1,_,e3⟩
 ·subst e2;have V:news=[]:=Lr (by have:=G.1;simpa using this);subst V;have Y:(execOp (ev f) ⟨d,.call ⟨.builtin .append,#[s,y],#[t,t]⟩,ty,pS,af,gd⟩).run P w=.ok (.value v) w:=by
   simp[execOp,resolve,invoke,builtin,I,J,e1,zq (ty:=ty) E]
  exact xv Y (hK v w (oA E) (O5.Z _ _) (λb H=>.inl H))
 exact Q2 E I (J.D e1) G.1 e3 O H S hK T
end
theorem QfB {v:O2}(h:QL L w.heap v l)(x:Int):
  QZ sV 217 [v,sS x] w λr w'=>r=.bool (decide (x∈l))/\w'=w:=by
 have S:=h.le;refine Zq func217 ?_;refine Qc<|Lg.Qb<|Qe<|Qc<|Lg.Qb<|Q8 (α:=Nat) [(4,17)] (λk=>[(5,sS k)]) (λk w'=>w'=w/\k<=l.length/\(x∈l↔x∈l.drop k)) (λk=>l.length - k) 0 La ⟨U,Ln _,od⟩ ?_;rintro k g w' ⟨rfl,T,G⟩;refine Qe<|Qc<|Lg.Qa<|Lg.Qa<|Lg.x (Yx h U)<|Lg.Ya U U<|xe<|ZI rfl (λJ=>?_) (λJ=>?_)
 ·refine Qw<|Qc<|Lg.Qb<|Qh ⟨[.bool false],La,?_,U⟩;rw[Ls oa]at G;simp[tup,G]
 have I:k<l.length:=oa
 have hd:=Zc I;refine Qf<|Qe<|Qm<|Qc<|Lg.Qa<|Lg.Qa<|xii h U U I λV O=>Lg.x (Qy O U)<|Lg.Qa<|Lg.x (QT U U)<|xe<|QO rfl (λH=>?_) (λH=>?_)
 ·refine Qc<|Lg.Qb<|Qh ⟨[.bool true],La,?_,U⟩;have:x∈l:=by rw[G,hd,H];exact Lq
  simp[tup,this]
 refine Qf<|Qs<|Lg.Qa<|Lg.QG U U<|Lg.Qb<|⟨k+1,oa,La,U,oa,?_⟩;rw[G,hd,Li];exact⟨λh=>h.resolve_left (λe=>H e.symm),.inr⟩
theorem Qcb (h:zJ L w.heap ve a.ed)(s e:Int)(st:Int):
  QZ sV 218 [.agg #[va,sS st,vm,ve],sS s,sS e] w λr w'=>r=sS (xj a.ed s e)/\sX w w':=by
 have he:=h.le;refine Zq func218 ?_;refine Qc<|Zl [va,sS st,vm,ve] λb3 T J hf G=>Lg.Qb ?_
 replace h:=h.I J;refine Qe<|Qc<|Lg.Qb<|Q8 (α:=Nat) [(6,38)] (λk=>[(7,sS k)]) (λk w'=>w'=T/\k<=a.ed.length/\xj (a.ed.drop k) s e=xj a.ed s e) (λk=>a.ed.length - k) 0 La ⟨U,Ln _,U⟩ ?_;rintro k g V ⟨rfl,hk,H⟩;refine Qe<|Qc<|Lg.Qa<|Lg.QQ U<|Lg.x (Ql G U U)<|Lg.x (Yx h U)<|Lg.Ya U U<|xe<|ZI rfl (λY=>?_) (λY=>?_)
 ·refine Qw<|Qc<|Lg.Qb<|Qh ⟨[sS (-1)],La,?_,J⟩;rw[Ls oa]at H;rw[<-H];rfl
 have I:k<a.ed.length:=oa
 have hd:=Zc I;refine Qf<|Qe<|Qm<|QX (α:=Bool) [(15,32)] (λz=>[(32,.bool z)]) (λz w'=>w'=V/\z=decide (a.ed[k].1=s/\a.ed[k].2.1=e)) om ?_ ?_
 ·refine Qs<|Lg.QQ U<|Lg.x (Ql G U U)<|Lg.Qa<|xie h U U I λhg ha=>Lg.x (Zf U)<|Lg.x (Qy (ha.fld 0 _ U) U) <|
   Lg.Qa<|xb (QT U U) (λO=>?_) (λO=>?_)
  ·refine Lg.Qa<|Lg.QQ U<|Lg.x (Ql G U U)<|Lg.Qa<|xie h U U I λhh hb=>Lg.x (Zf U)<|Lg.x (Qy (hb.fld 1 _ U) U) <|
    Lg.Qa<|Lg.x (QT U U)<|Lg.QE U<|xe ?_
   exact⟨_,La,U,by simp[O]⟩
  refine Lg.Qa<|Zu<|Zu<|Yq<|Lg.QE U<|xe ?_;exact⟨_,La,U,by simp[O]⟩
 rintro z g w3 ⟨rfl,rfl⟩;refine QO rfl (λS=>?_) (λS=>?_)
 ·refine Qc<|Lg.QQ U<|Lg.x (Ql G U U)<|Lg.Qa<|xie h U U I λhi hc=>Lg.x (Zf U)<|Lg.x (Qy (hc.fld 2 _ U) U) <|
   Lg.Qb<|Qh ⟨[sS a.ed[k].2.2],La,?_,J⟩
  rw[<-H,hd,xj,OU S];rfl
 refine Qf<|Qs<|Lg.Qa<|Lg.QG U U<|Lg.Qb<|⟨k+1,oa,La,U,oa,?_⟩;rw[<-H,hd,xj,OT S]
def yR (l:LI)(n:Int):Int:=if n∈l then(l.idxOf n:Int)else -1
theorem Qjt {n:Int}{k:Nat}(h:n∉l.take k)(G:k<l.length)(H:O6 l k=n):yR l n=k:=by
 have I:n∈l:=by rw[<-H,<-ZL G];exact Ll G
 unfold yR;rw[OU I];have J:l=l.take k++l.drop k:=(MF k l).symm;have:l.idxOf n=k:=by
  rw[J,MA,OT h,LE G,List.idxOf_cons,show l[k]=n by rw[ZL G];exact H];simp;omega
 rw[this]
theorem Qg2 {v:O2}(h:QL L w.heap v l)(n:Int):
  QZ sV 219 [v,sS n] w λr w'=>r=sS (yR l n)/\w'=w:=by
 have S:=h.le;refine Zq func219 ?_;refine Qc<|Qb<|Qe<|Qc<|Qb<|Q8 (α:=Nat) [(4,18)] (λz=>[(5,sS z)]) (λz w'=>w'=w/\z<=l.length/\n∉l.take z) (λz=>l.length - z) 0 La ⟨U,Ln _,od⟩ ?_;rintro k g T ⟨rfl,V,H⟩;refine Qe<|Qj<|Qa<|QF h U<|Ya U U<|xe<|ZI rfl (λJ=>?_) (λJ=>?_)
 ·refine Qw<|Qc<|Qb ?_;rw[Lt oa]at H;exact Qh ⟨[sS (-1)],La,by unfold yR;rw[OT H];rfl,U⟩
 have G:k<l.length:=oa
 refine Qf<|Qe<|Qm<|Qj<|Qa<|xic (i:=k) h U U G λY O=>x (Qy O U)<|Qa<|x (QT U U)<|xe<|QO rfl (λI=>?_) (λI=>?_)
 ·refine Qj<|Qb<|Qh ⟨[sS k],La,by rw[Qjt H G I];rfl,U⟩
 refine Qf<|Qs<|Qa<|QG U U<|Qb<|⟨k+1,oa,La,U,G,?_⟩;rw[Lm G,ZL G];simp only[oW,oJ,not_or];exact⟨H,λe=>I e.symm⟩
theorem qS {v:O2}(h:QL L w.heap v l)(hl:l.length<=1000000):
  QZ sV 140 [v] w λr w'=>sX w w'/\∃va,r=.agg #[va,sS 0,nS,nS]/\Qq 3 ↑w w' va l:=by
 refine Zq func140 ?_;refine Qc<|QM [nS,sS 0,nS,nS] λb2 G T he V=>xe ?_;have hf:=T.size;have hg:=V.lt;refine Qc<|Qn<|XX λb3 w2 H hh hi=>Qa<|?_;have Y:=T.D H;have hp:=H.size;have I:w2.ownsRow ↑G 3 1 (sL b3 0 0) 0 []:=hi.own (n:=0) (sz:=1) U oa hh;refine Qn<|Qbo I U (h.I Y) U (UW l) oa oa λva J hj ha hq=>?_;have O:Qq 3 ↑G J va l:=by
  have:J.ownsRow ↑G 3 1 va (0+l.length) ([]++l.map (.int .i64)):=hj;rw[LS,Ma]at this;exact this
 have hA:=Qq.ints (L:=[]) O oa od;have hk:=(V.I H).J ha (QP I hg);have hm:sX w J:=Y.then ha (λb S=>.inr (ov (Qg I b S).1));refine x (Qv ⟨hA.cells,Z⟩)<|QI [va,sS 0,nS,nS] hk ⟨hA.one,U,U,U,Z⟩ λw4 hc hn=>xe ?_;have ho:=Qd O hc (λb S=>by have:=(Qg O b S).1;simp;omega);exact Qh ⟨[.agg #[va,sS 0,nS,nS]],⟨Yk hn,Z⟩,hm.O hc he,va,U,Zz ho hf⟩
theorem xH:∀(n:Nat) (l:LI),l.Nodup->(∀x∈l,0<=x/\x<n)->l.length<=n
 | 0,l,_,h=>by
  cases l with
  | nil=>simp
  | cons a l=>have:=h a Lq;omega
 | n+1,l,hd,h=>by
  by_cases G:(n:Int)∈l
  ·have I:=xH n (l.erase (n:Int)) (hd.erase _) (λx hx=>by
    have H:=(List.Nodup.mem_erase_iff hd).1 hx;have J:=h x H.2;have O:x≠(n:Int):=H.1;omega)
   rw[List.length_erase_of_mem G]at I;omega
  have:=xH n l hd (λx hx=>by
   have J:=h x hx;have O:x≠(n:Int):=λe=>G (by rw[<-e];exact hx);omega)
  omega
def UK (a:Q6)(s:Int)(out:LI)(v:Int):LI:=if 0<=xj a.ed s v/\xj a.ed s v∉out then out++[xj a.ed s v]else out
def fdR (a:Q6)(out:LI)(s:Int):LI:=a.al.foldl (UK a s) out
def fdL (a:Q6):Nat->Nat->LI->LI
 | 0,_,out=>out
 | f+1,i,out=>if i<out.length then fdL a f (i+1) (fdR a out (O6 out i))else out
def fd0 (a:Q6):LI:=if 0<a.st then[0]else[]
def xq (a:Q6):LI:=fdL a a.st.toNat 0 (fd0 a)
structure zG (a:Q6)(out:LI):Prop where
 b:∀x∈out,0<=x/\x<a.st
 d:out.Nodup
theorem zG.len (h:zG a out)(G:0<=a.st):out.length<=a.st.toNat:=xH _ _ h.d (λx hx=>ov (h.b x hx))
theorem Qbp {s v:Int}(h:0<=xj es s v):(s,v,xj es s v)∈es:=by
 induction es with
 | nil=>simp[xj]at h
 | cons e es ih =>
  rw[xj]at h ⊢;split at h
  ·rename_i G;rw[OU G];obtain⟨p,q,r⟩:=e;obtain⟨H,I⟩:=G;subst H I;exact Lq
  rename_i G;rw[OT G];exact Lj _ (ih h)
theorem QjN (I:ZK a)(h:zG a out)(s v:Int):zG a (UK a s out v):=by
 unfold UK;split
 ·rename_i G;have J:=I.ed _ (Qbp G.1);refine⟨λx hx=>?_,?_⟩
  ·rcases Lc.1 hx with hx|hx
   ·exact h.b x hx
   simp only[oJ]at hx;subst hx;exact⟨G.1,J.2.2.2.2⟩
  rw[MC];refine⟨h.d,od,λx hx y H=>?_⟩;simp only[oJ]at H;subst H;exact λe=>G.2 (by rw[<-e];exact hx)
 exact h
theorem QmH {s v:Int}:∀x∈out,x∈UK a s out v:=λx hx=>by unfold UK;split;exact Me _ hx;exact hx
theorem Qo8 {s v:Int}(h:0<=xj a.ed s v):xj a.ed s v∈UK a s out v:=by
 unfold UK;by_cases G:xj a.ed s v∈out
 ·rw[OT (λe=>e.2 G)];exact G
 rw[OU ⟨h,G⟩];simp
theorem QjL {a:Q6}(G:ZK a)(s:Int):∀(vs:LI) (out:LI),zG a out->zG a (vs.foldl (UK a s) out)
 | [],_,h=>h
 | v::vs,_,h=>QjL G s vs _ (QjN G h s v)
theorem QbI {a:Q6}{s:Int}:∀(vs:LI) (out:LI),∀x∈out,x∈vs.foldl (UK a s) out
 | [],_,_,hx=>hx
 | _::vs,_,x,hx=>QbI vs _ x (QmH x hx)
theorem QjM {a:Q6}{s:Int}:∀(vs:LI) (out:LI),∀v∈vs,0<=xj a.ed s v->xj a.ed s v∈vs.foldl (UK a s) out
 | v::vs,out,u,G,h=>by
  rcases Li.1 G with rfl|G
  ·exact QbI vs _ _ (Qo8 h)
  exact QjM vs _ u G h
theorem QfE {a:Q6}{s:Int}:∀(vs:LI) (out:LI),∃r,vs.foldl (UK a s) out=out++r
 | [],out=>⟨[],od⟩
 | v::vs,out=>by
  obtain⟨r,G⟩:=QfE (a:=a) (s:=s) vs (UK a s out v);rw[L4,G];unfold UK;split
  ·exact⟨[xj a.ed s v]++r,od⟩
  exact⟨r,U⟩
theorem jl {r:LI}(h:i<l.length):O6 (l++r) i=O6 l i:=by
 rw[<-ZL h,<-ZL (by simp;omega),MH h]
def Cl (a:Q6)(out:LI)(i:Nat):Prop:=∀j,j<i->j<out.length->∀v∈a.al,0<=xj a.ed (O6 out j) v->xj a.ed (O6 out j) v∈out
theorem Cl.next (h:Cl a out i)(hi:i<out.length):Cl a (fdR a out (O6 out i)) (i+1):=by
 intro j S T v H G;obtain⟨r,O⟩:=QfE (a:=a) (s:=O6 out i) a.al out;have I:fdR a out (O6 out i)=out++r:=O;have J:j<out.length:=oa
 rw[I,jl J]at G ⊢;by_cases e:j=i
 ·subst e;have:=QjM a.al out v H G;rw[<-I];exact this
 exact Me _ (h j oa J v H G)
theorem QjK {a:Q6}(H:ZK a):∀(f i:Nat) (out:LI),zG a out->Cl a out i->i+f=a.st.toNat->zG a (fdL a f i out)/\Cl a (fdL a f i out) (fdL a f i out).length
 | 0,i,out,h,G,O=>by
  have:=h.len H.st0;exact⟨h,λj J I=>G j (by rw[fdL]at J;omega) I⟩
 | f+1,i,out,h,G,O=>by
  rw[fdL];split
  ·rename_i hi;exact QjK H f (i+1) _ (QjL H _ _ _ h) (G.next hi) oa
  rename_i hi;exact⟨h,λj J I=>G j oa I⟩
theorem QjO (a:Q6):zG a (fd0 a):=by
 unfold fd0;split
 ·rename_i h;exact⟨λx hx=>by simp only[oJ]at hx;subst hx;exact⟨oa,h⟩,od⟩
 exact⟨od,od⟩
theorem yX (I:ZK a):zG a (xq a)/\∀s∈xq a,∀v∈a.al,0<=xj a.ed s v->xj a.ed s v∈xq a:=by
 obtain⟨J,O⟩:=QjK I a.st.toNat 0 (fd0 a) (QjO a) (λj G=>oa) oa;refine⟨J,λs S v T H=>?_⟩;obtain⟨j,G,rfl⟩:=LP S;have:=O j G G v T;unfold xq at G H ⊢;rw[ZL G]at H ⊢;exact this H
def Vc (a:Q6)(fd:LI)(i:Nat)(v:Int):Option Ed:=if 0<=xj a.ed (O6 fd i) v then some ((i:Int),v,yR fd (xj a.ed (O6 fd i) v))else none
def Xk (a:Q6)(fd:LI)(n:Nat):LI:=((oS 0 n).filter λi=>decide (O6 fd i∈a.mr)).map λi:Nat=>(i:Int)
def Xz (a:Q6)(fd:LI)(n:Nat):List Ed:=(oS 0 n).flatMap λi=>a.al.filterMap (Vc a fd i)
def Xr (a:Q6):Q6:=⟨a.al,(xq a).length,Xk a (xq a) (xq a).length,Xz a (xq a) (xq a).length⟩
theorem JA {β:Type}{r:Int->Int->Prop}{q:β->β->Prop}{g:Int->Option β}(G:∀x y u v,r x y->g x=some u->g y=some v->q u v):∀{l:LI},l.Pairwise r->(l.filterMap g).Pairwise q
 | [],_=>od
 | x::l,h=>by
  obtain⟨I,H⟩:=L6.1 h;rw[My];split
  ·exact JA G H
  rename_i u J;refine L6.2 ⟨λv O=>?_,JA G H⟩;obtain⟨y,S,T⟩:=MX.1 O;exact G x y u v (I y S) J T
theorem QbP (H:ZK a):ZK (Xr a)/\(Xr a).al=a.al/\(Xr a).st<=a.st:=by
 obtain⟨Y,h2⟩:=yX H;have hl:=Y.len H.st0;have h0:=H.st0;have h4:=H.st1;refine⟨⟨H.al,H.ali,by simp[Xr],by simp only[Xr];omega,λs S=>?_,?_,λe J=>?_,?_⟩,U,by simp only[Xr];omega⟩
 ·simp only[Xr,Xk,OA,OH,OB]at S;obtain⟨i,⟨hi,_⟩,rfl⟩:=S;simp only[Xr];omega
 ·simp only[Xr,Xk];unfold Y8;rw[MO];refine List.Pairwise.sublist MY ?_;exact(Ng (s:=0) (n:=(xq a).length)).imp (λh=>oa)
 ·simp only[Xr,Xz,List.mem_flatMap,List.mem_filterMap,OB]at J;obtain⟨i,⟨_,hi⟩,v,I,G⟩:=J;unfold Vc at G;split at G
  ·rename_i hn;cases G
   have T:i<(xq a).length:=oa
   have V:=h2 (O6 (xq a) i) (by rw[<-ZL T];exact Ll T) v I hn;have hx:=MI V;simp only[Xr];unfold yR;rw[OU V];exact⟨oa,oa,I,oa,oa⟩
  cases G
 simp only[Xr,Xz];have key:∀(is:LN),is.Pairwise (·<·)->(is.flatMap λi=>a.al.filterMap (Vc a (xq a) i)).Pairwise λx y:Ed=>x.1<y.1\/(x.1=y.1/\x.2.1<y.2.1):=by
  intro is;induction is with
  | nil=>intro _;simp
  | cons i is ih =>
   intro hp;obtain⟨p1,p2⟩:=L6.1 hp;rw[LK,MG];have from_i:∀(i:Nat) (e:Ed),e∈a.al.filterMap (Vc a (xq a) i)->e.1=i:=by
    intro i e J;obtain⟨v,_,G⟩:=MX.1 J;unfold Vc at G;split at G
    ·cases G;rfl
    cases G
   refine⟨?_,ih p2,λe J e' ha=>?_⟩
   ·refine JA (r:=(·<·)) (λx y u v hb O I=>?_) H.ali;unfold Vc at O I;split at O
    ·cases O;split at I
     ·cases I;exact .inr ⟨U,hb⟩
     cases I
    cases O
   obtain⟨j,hj,hc⟩:=Mc.1 ha;have e1:=from_i i e J;have e2:=from_i j e' hc;have:=p1 j hj;left;omega
 exact key _ (Ng (s:=0) (n:=(xq a).length))
theorem Qg4 (h:ZM L w.heap va vm ve a)(ho:ZK a):
  QZ sV 216 [.agg #[va,sS a.st,vm,ve]] w λr w'=>sX w w'/\Qq 3 ↑w w' r (xq a):=by
 have h0:=ho.st0;have h1:=ho.st1;have hU:=ho.al_le;refine Zq func216 ?_;refine Qc<|Zl [va,sS a.st,vm,ve] λb1 O hh hV hs=>Qb<|Qc<|Qb ?_;have h8:=hh.size;refine QX (α:=O2) [(3,3),(7,12)] (λz=>[(3,z)]) (λz w'=>sX O w'/\Qq 3 ↑O w' z (fd0 a)) om ?_ ?_
 ·refine Qc<|Qo U hs U U<|x (Yd U U)<|xe<|ZI U (λh9=>?_) (λh9=>?_)
  ·refine Qf ?_;exact⟨nS,La,O5.Z _ _,by unfold fd0;rw[OT h9];exact QD _ _ _ _⟩
  refine Qs<|Qa<|Qn<|Za [[sS 0]] λhW w2 hv hX hA=>?_;have hn:w2.ownsRow ↑O 3 1 (nS) 0 []:=QD _ _ _ _;have hY:=hv.size;refine Qn<|Q2 (news:=[sS 0]) (L:=[]) hn U U U (hA.at od) oq oa oa λv3 w3 hB hC hZ =>
   Qb<|⟨v3,La,hv.then hC (λb hb=>by simp[ob]at hb),?_⟩
  unfold fd0;rw[OU h9];exact hB
 rintro v0 g4 w4 ⟨hD,hE⟩;refine Zh (xq a) λT hT=>?_;have hF:fdL a a.st.toNat 0 (fd0 a)=T:=hT;refine Qe<|Qc<|Qb<|Q8 (α:=Nat×LI×O2) [(3,6),(13,48)] (λz=>[(3,z.2.2),(4,sS z.1)])
  (λz w'=>sX O w'/\Qq 3 ↑O w' z.2.2 z.2.1/\zG a z.2.1/\z.1<=z.2.1.length/\fdL a (a.st.toNat - z.1) z.1 z.2.1=T) (λz=>a.st.toNat - z.1) (0,fd0 a,v0) oB
  ⟨hD,hE,QjO a,Ln _,hF⟩ ?_
 rintro⟨i,out,v⟩ g5 w5 ⟨hj,V,G,hi,Y⟩;simp only[]at V G hi Y;have hw:=G.len h0;have hy:=Qq.ints (L:=[]) V oa od;refine Qe<|Qj<|Qa<|QF hy U<|Ya U U<|xe<|ZI rfl (λhz=>?_) (λhz=>?_)
 ·have e:out=T:=by
   rw[<-Y];generalize a.st.toNat - i=f;cases f with
   | zero=>rfl
   | succ f=>rw[fdL,OT oa]
  refine Qw<|Qj<|Qb ?_;rw[e]at V;exact Qh ⟨[v],La,hh.D hj,by rw[hT];exact Zz V h8⟩
 have I:i<out.length:=oa
 have hG:a.st.toNat - i=(a.st.toNat - (i+1))+1:=oa
 rw[hG,fdL,OU I]at Y;refine Zh (O6 out i) λs J=>?_;rw[J]at Y;refine Zh (fdR a out s) λR hR=>?_;rw[hR]at Y;unfold fdR at hR;refine Qf<|Qe<|Qm<|Qc<|Qb<|Q8 (α:=Nat×LI×O2) [(3,3),(5,6),(19,48)] (λz=>[(3,z.2.2),(5,sS z.1)])
  (λz w'=>sX O w'/\Qq 3 ↑O w' z.2.2 z.2.1/\zG a z.2.1/\z.1<=a.al.length/\i<z.2.1.length/\O6 z.2.1 i=s/\(a.al.drop z.1).foldl (UK a s) z.2.1=R) (λz=>a.al.length - z.1) (0,out,v) oB
  ⟨hj,V,G,Ln _,I,J,hR⟩ ?_
 clear hj V G hi hw hy I J hR hz;rintro⟨k,out,v⟩ g6 w6 ⟨ha,he,G,hk,I,J,H⟩;simp only[]at he G hk I J H;have hw:=G.len h0;have h2:=(h.al.I hh).I ha;have hl:=hs.I ha;have h3:=Qq.ints (L:=[]) he oa od;refine Qe<|Qj<|Qo U hl U U<|QF h2 U<|Ya U U<|xe<|ZI rfl (λhH=>?_) (λhH=>?_)
 ·refine Qw<|Qs<|Qa<|QG U U<|Qb ?_;rw[Ls oa]at H;have hI:out=R:=H;exact⟨(i+1,out,v),og,oB,ha,he,G,I,by simp only[];rw[hI];exact Y⟩
 have hf:k<a.al.length:=oa
 rw[LE hf,L4,ZL hf]at H;refine Zh (O6 a.al k) λu hu=>?_;rw[hu]at H;have hJ:=(h.ed.I hh).I ha;refine Zh (xj a.ed s u) λt ht=>?_;have hK:UK a s out u=if 0<=t/\t∉out then out++[t]else out:=by unfold UK;rw[ht]
 have hm:=QjN ho G s u;rw[hK]at H hm;refine Qf<|Qe<|Qm<|Qe<|ZA [] (YX 0 12 [10])<|pq (λ_ S=>Zr (hl.I S) U U)<|p Qx<|p Qx<|pic (i:=i) U h3 U U I λga h4=>?_;rw[J]at h4;refine pq (λ_ S=>Qy (h4.I S) U)<|p (QJ U)<|pq (λ_ S=>Ql (hl.I S) U U)<|p Qx <|
  pic (i:=k) U h2 U U hf λgb h5=>?_
 rw[hu]at h5;have hsr:=Qcb (va:=va) (vm:=vm) (a:=a) (hJ.I (O5.C [] w6)) s u a.st;rw[ht]at hsr;refine pq (λ_ S=>Qy (h5.I S) U)<|pk<|xg<|hsr.mono ?_;rintro r7 w7 ⟨rfl,hL⟩;have hg:=(O5.C [] w6).D hL;refine⟨hg,p ZG<|pe ?_⟩;have h6:=Qk he hg;have hM:=h3.I hg;refine QX (α:=Unit) [(37,44)] (λz=>[(44,.bool (decide (0<=t/\t∉out)))]) (λz w'=>w'=w7) om ?_ ?_
 ·refine Qs<|Qa<|xb (YA U U) (λhp=>?_) (λhp=>?_)
  ·refine Qa<|Qa<|Qa<|Qz<|(QfB hM t).mono ?_;rintro r8 w8 ⟨rfl,rfl⟩;refine x (ZC U)<|QE U<|xe<|⟨(),⟨OV Value.bool ?_,Z⟩,U⟩;show(!decide (t∈out))=_;rw[Bool.eq_iff_iff];simp[hp]
  refine Qa<|Zu<|Kz<|QE U<|xe ?_;exact⟨(),⟨OV Value.bool (OZ (λe=>hp e.1)).symm,Z⟩,U⟩
 rintro _ g9 w9 rfl;refine ZI rfl (λhq=>?_) (λhq=>?_)
 ·rw[OT hq]at H;refine Qf<|Qs<|Qa<|QG U U<|Qb<|⟨(k+1,out,v),og,oB,ha.D hg,h6,G,hf,I,J,H⟩
 rw[OU hq]at H hm;have h7:=ha.D hg;have gc:=h7.size;refine Qs<|Qa<|Qa<|Qn<|Za [[sS t]] λgg gh hr gi hN=>?_;have hO:=Qk h6 hr;have gj:=hr.size;refine Qn<|Q2 (news:=[sS t]) (L:=[]) hO U U U (hN.at od) oq oa oa λhP gk hQ hS gl =>
  Qb ?_
 have hge:=Qg he;refine Qs<|Qa<|QG U U<|Qb<|⟨(k+1,out++[t],hP),og,oB,(h7.D hr).then hS (λb hb=>.inr (hge b hb).1),Qq.snoc hQ,hm,hf,by simp;omega,?_,H⟩;simp only[];rw[jl I];exact J
structure CrI (w7:O1)(b4:Nat)(vcl:O2)(n:Int)(vm vd:O2)(M:LI)(E:List Ed)(w:O1):Prop where
 st:O5 [b4] w7 w
 B:QY w.heap b4 59 [vcl,sS n,vm,vd]
 m:Qq 3 ↑w7 w vm M
 e:YP 167 ↑w7 w vd E
 dj:Dj vm vd
section
variable {w7 w'':O1}{b4:Nat}{vcl:O2}{n:Int}{vd:O2}{M:LI}{E:List Ed}
theorem CrI.I (h:CrI w7 b4 vcl n vm vd M E w)(G:sX w w'):CrI w7 b4 vcl n vm vd M E w':=⟨h.st.D G,h.B.I G,Qk h.m G,Qk h.e G,h.dj⟩
theorem CrI.setM (h:CrI w7 b4 vcl n vm vd M E w)(J:b4<w7.heap.size){G:O2}{M':LI}(O:O5 (ob vm) w w')(S:Qq 3 ↑w7 w' G M')(T:∀b∈ob G,b∈ob vm\/↑w<=b)(H:O5 [b4] w' w'')
  (V:QY w''.heap b4 59 [vcl,sS n,G,vd]):CrI w7 b4 vcl n G vd M' E w'' :=
 ⟨(h.st.then O (λb J=>.inr (Qg h.m b J).1)).Q H,V,Qd S H (λb I=>by have:=(Qg S b I).1;simp;omega),
  Qd (Qd h.e O h.dj.symm) H (λb I=>by have:=(Qg h.e b I).1;simp;omega),(h.dj.symm.grow T (Q7 h.e)).symm⟩
theorem CrI.setE (h:CrI w7 b4 vcl n vm vd M E w)(J:b4<w7.heap.size){G:O2}{E':List Ed}(O:O5 (ob vd) w w')(S:YP 167 ↑w7 w' G E')(T:∀b∈ob G,b∈ob vd\/↑w<=b)(H:O5 [b4] w' w'')
  (V:QY w''.heap b4 59 [vcl,sS n,vm,G]):CrI w7 b4 vcl n vm G M E' w'' :=
 ⟨(h.st.then O (λb J=>.inr (Qg h.e b J).1)).Q H,V,Qd (Qd h.m O h.dj) H (λb I=>by have:=(Qg h.m b I).1;simp;omega),
  Qd S H (λb I=>by have:=(Qg S b I).1;simp;omega),h.dj.grow T (Q7 h.m)⟩
end
theorem QaO (a:Q6)(fd:LI)(k:Nat):Xk a fd (k+1)=if O6 fd k∈a.mr then Xk a fd k++[(k:Int)]else Xk a fd k:=by
 unfold Xk;rw[Mz,L3,Lp,LS];by_cases h:O6 fd k∈a.mr
 ·rw[OU h,Mb,OU (OX h)];rfl
 rw[OT h,Mb,OT (by rw[OZ h];simp),Nj,Nn,LR]
theorem Qdp (a:Q6)(fd:LI):∀k,(Xk a fd k).length<=k
 | 0=>by simp[Xk]
 | k+1=>by
  have:=Qdp a fd k;rw[QaO];split
  ·simp;omega
  omega
theorem Qhs (a:Q6)(fd:LI)(k:Nat):Xz a fd (k+1)=Xz a fd k++a.al.filterMap (Vc a fd k):=by
 unfold Xz;rw[Mz,Ly,LS];simp
theorem jK (h:ZM L w.heap va vm ve a)(V:ZK a):
  QZ sV 141 [.agg #[va,sS a.st,vm,ve]] w λr w'=>sX w w'/\JI ↑w w'.heap r (Xr a):=by
 have h1:=V.st1;have kr:=V.al_le;have ga:=((yX V).1).len V.st0;refine Zq func141 ?_;refine Zh (xq a) λfd hs=>?_;rw[hs]at ga;have gb:Xr a=⟨a.al,fd.length,Xk a fd fd.length,Xz a fd fd.length⟩:=by unfold Xr;rw[hs]
 refine Qc<|Zl [va,sS a.st,vm,ve] λb1 w1 gc kt hv=>QM [nS,sS 0,nS,nS] λb2 w2 hw ku hD=>xe ?_;have Y:=gc.D hw;have hfr:=Qg4 (h.I Y) V;rw[hs]at hfr;refine Qc<|QS (hv.I hw) U U<|Qz<|hfr.mono ?_;rintro vf w3 ⟨hn,gg⟩;refine Qb ?_;have hE:=Y.D hn;have hF:=(hv.I hw).I hn;refine Qc<|Qo U hF U U<|Qz<|(qS (h.al.I hE) oa).mono ?_;rintro r4 w4 ⟨hG,vcl,rfl,ha⟩;have hH:=Qq.ints (L:=[]) ha oa od;refine QM [nS,sS 0,nS,nS] λb4 w5 gh gi gj =>
  QI [vcl,sS 0,nS,nS] gj ⟨hH.one,U,U,U,Z⟩ λw6 gk hJ=>xe ?_
 have hz:sX w4 w6:=gh.O gk gi;have he:=hG.D hz;have hK:=Qq.ints (L:=[]) gg oa od;have kv:=hn.size;have kw:=hG.size;have kx:=hz.size;have kz:=hv.lt;have k0:=hD.lt;have k4:=hJ.lt;refine Qj<|QF hK U<|QQ U<|Qn<|Qu (u:=sS fd.length) hJ U U od rfl λw7 S gl=>xe ?_;have k5:=S.size;have k6:O5 [b4] w3 w7:=(he.any (L:=[b4])).Q S;have hL:sX w w7:=(hE.D he).O S oa;have hM:QL [b4] w7.heap vf fd:=((hK.up (L':=[b4]) (λb G=>.inr (by simp at G;omega))).I he).st S;have h0:ZM [b4] w7.heap va vm ve a:=(h.up (λb G=>.inr (by simp at G;omega))).I hL;have gm:Qq 3 ↑w3 w7 vcl a.al:=Qd (Qk ha hz) S (λb G=>by have:=Q7 ha b G;simp;omega);have hN:=(hF.I he).J S (by simp;omega);have hf:b4<w7.heap.size:=oa
 have n1:b1∉[b4]:=by simp;omega
 have n2:b2∉[b4]:=by simp;omega
 refine Qe<|Qc<|Qb<|Q8 (α:=Nat×O2×O2) [(5,7),(16,69)] (λz=>[(5,sS z.1)])
  (λz w'=>z.1<=fd.length/\CrI w7 b4 vcl fd.length z.2.1 z.2.2 (Xk a fd z.1) (Xz a fd z.1) w'/\(Xz a fd z.1).length<=z.1*32) (λz=>fd.length - z.1) (0,nS,nS) La
  ⟨Ln _,⟨O5.Z _ _,gl,QD _ _ _ _,QD _ _ _ _,Dj.nil' _⟩,Ln _⟩ ?_
 rintro⟨i,v1,v2⟩ g8 w8 ⟨hi,I,h2⟩;simp only[]at hi I h2;have gn:=Qdp a fd i;have hO:=hM.st I.st;refine Qe<|Qj<|Qa<|QF hO U<|Ya U U<|xe<|ZI rfl (λgo=>?_) (λgo=>?_)
 ·have gp:i=fd.length:=oa
  rw[gp]at I h2 gn;refine Qw ?_;have gq:=Qq.ints (L:=[]) I.m oa od;have gr:=YP.eds (L:=[]) I.e oa od;refine Qc<|QS I.B U U<|QI [vcl,sS fd.length,v1,v2] ((((hD.I hn).I he).J S (by simp;omega)).J I.st n2) ⟨hH.one,U,gq.one,gr.one,Z⟩ λw9 hp gs=>xe ?_;refine Qh ⟨[.agg #[vcl,sS fd.length,v1,v2]],⟨Yk gs,Z⟩,(hL.O I.st oa).O hp oa,?_⟩;rw[gb];have k1:=Qd (Qd gm I.st (λb G=>by have:=Q7 ha b G;simp;omega)) hp (λb G=>by have:=(Qg ha b G).1;simp;omega);have k2:=Qd I.m hp (λb G=>by have:=(Qg I.m b G).1;simp;omega);have k3:=Qd I.e hp (λb G=>by have:=(Qg I.e b G).1;simp;omega);refine⟨vcl,v1,v2,U,λL' h3=>⟨?_,?_,?_⟩⟩
  ·exact Qq.ints k1 (by show a.al.length<=_;omega) (λb G=>ov (h3 b G))
  ·exact Qq.ints k2 (by show(Xk a fd fd.length).length<=_;omega) (λb G=>ov (h3 b G))
  exact YP.eds k3 (by show(Xz a fd fd.length).length<=_;omega) (λb G=>ov (h3 b G))
 have h4:i<fd.length:=oa
 refine Zh (O6 fd i) λs hq=>?_;have hg:=QaO a fd i;rw[hq]at hg;refine Qf<|Qe<|Qm<|QX (α:=O2) [(22,34)] (λz=>[]) (λz w'=>CrI w7 b4 vcl fd.length z v2 (Xk a fd (i+1)) (Xz a fd i) w') om ?_ ?_
 ·have gt:=h0.st I.st;have gu:=hN.J I.st n1;refine Qe<|ZA [] (YX 0 7 [6])<|p (QJ U)<|pq (λ_ H=>Ql (gu.I H) U U)<|p Qx<|p Qx<|pic (i:=i) U hO U U h4 λk7 hP=>?_;rw[hq]at hP;refine pq (λ_ H=>Qy (hP.I H) U)<|pk<|xg<|(QfB (gt.mr.I (O5.C [] w8)) s).mono ?_;rintro k8 k9 ⟨rfl,rfl⟩;have h5:=I.I (O5.C [] w8);refine⟨O5.C _ _,pe ?_⟩;refine ZI U (λh6=>?_) (λh6=>?_)
  ·rw[OT h6]at hg;refine Qf ?_;exact⟨v1,Z,by rw[hg];exact h5⟩
  rw[OU h6]at hg;refine Qs<|Qo U h5.B U U<|Qa<|Qn<|Za [[sS i]] λma mf gv mg gw=>?_;have hh:=h5.I gv;refine Qn<|Q2 (news:=[sS i]) (L:=[]) hh.m U U U (gw.at od) oq oa hh.st.size λhQ gx gy Y gz=>?_;have hR:Qq 3 ↑w7 gx hQ (Xk a fd i++[(i:Int)]):=Qq.snoc gy;refine QQ U<|Qn<|Qu (hh.B.J Y (QP hh.m hf)) U U od (Qq.ints (L:=[]) hR (by simp;omega) od).one λmh g0 g2 =>
   xe ?_
  exact⟨hQ,Z,by rw[hg];exact hh.setM hf Y hR gz g0 g2⟩
 rintro v3 mj mo g3;refine Zh (Xz a fd (i+1)) λE1 h7=>?_;have hS:=Qhs a fd i;rw[h7]at hS;refine Qc<|Qb<|Q8 (α:=Nat×List Ed×O2) [(6,7),(35,69)] (λz=>[(6,sS z.1)])
  (λz w'=>z.1<=a.al.length/\CrI w7 b4 vcl fd.length v3 z.2.2 (Xk a fd (i+1)) z.2.1 w'/\z.2.1.length<=i*32+z.1/\z.2.1++(a.al.drop z.1).filterMap (Vc a fd i)=E1) (λz=>a.al.length - z.1) (0,Xz a fd i,v2) La
  ⟨Ln _,g3,h2,hS.symm⟩ ?_
 rintro⟨k,E,vd⟩ mq hT ⟨hk,O,g4,J⟩;simp only[]at hk O g4 J;have h8:=h0.st O.st;have hr:=hN.J O.st n1;have hU:=hM.st O.st;refine Qe<|Qj<|Qo U hr U U<|QF h8.al U<|Ya U U<|xe<|ZI rfl (λg5=>?_) (λg5=>?_)
 ·refine Qw<|Qs<|Qa<|QG U U<|Qb ?_;rw[Ls oa,List.filterMap_nil,LR]at J;refine⟨(i+1,v3,vd),og,La,h4,?_,?_⟩
  ·simp only[];rw[h7,<-J];exact O
  simp only[];rw[h7,<-J];omega
 have T:k<a.al.length:=oa
 refine Zh (O6 a.al k) λu hu=>?_;rw[LE T,ZL T,hu,My]at J;refine Zh (xj a.ed s u) λt ht=>?_;have g6:Vc a fd i u=if 0<=t then some ((i:Int),u,yR fd t)else none:=by unfold Vc;rw[hq,ht]
 rw[g6]at J;have hsr:=Qcb (va:=va) (vm:=vm) (a:=a) (h8.ed.I (O5.C [] hT)) s u a.st;rw[ht]at hsr;refine Qf<|Qe<|Qm<|Qe<|ZA [] (YX 0 12 [10])<|pq (λ_ H=>Zr (hr.I H) U U)<|p Qx<|p Qx<|pic (i:=i) U hU U U h4 λms hV=>?_;rw[hq]at hV;refine pq (λ_ H=>Qy (hV.I H) U)<|p (QJ U)<|pq (λ_ H=>Ql (hr.I H) U U)<|p Qx <|
  pic (i:=k) U h8.al U U T λmt hW=>?_
 rw[hu]at hW;refine pq (λ_ H=>Qy (hW.I H) U)<|pk<|xg<|hsr.mono ?_;rintro mu h9 ⟨rfl,g7⟩;have hj:=(O5.C [] hT).D g7;refine⟨hj,p ZG<|pe ?_⟩;have hl:=O.I hj;have g9:=hr.I hj;have ka:=hU.I hj;refine Qj<|x (YA U U)<|xe<|ZI rfl (λhA=>?_) (λhA=>?_)
 ·rw[OT hA]at J;refine Qf<|Qs<|Qa<|QG U U<|Qb<|⟨(k+1,E,vd),og,La,T,hl,og,J⟩
 rw[OU hA]at J;have kb:=Qg O.e;have kc:QL (b4::ob vd) h9.heap va a.al:=(((h0.al.up (L':=b4::ob vd) (λb G=>by
  rcases Li.1 G with rfl|G
  ·exact .inl od
  exact .inr (kb b G).1)).J O.st od).I hj)
 have ke:=QP hl.e hf;have kf:b1∉ob vd:=QP hl.e oa;refine ZA (ob vd) (YX 0 16 [10,12,13,15])<|p (QJ U)<|pq (λ_ H=>Ql (hl.B.J H ke) U U)<|p Qx<|p (QJ U)<|pq (λ_ H=>Ql (g9.J H kf) U U) <|
  p Qx<|pic (i:=k) U kc U U T λmv hX=>?_
 rw[hu]at hX;refine pq (λ_ H=>Qy (hX.J H (λb G=>Lj _ G)) U)<|p Qx<|p Qx <|
  pk<|xg<|(Qg2 (ka.I (O5.C [] h9)) t).mono ?_
 rintro mw my ⟨rfl,rfl⟩;refine⟨O5.C _ _,p (λ_=>Qv ⟨U,U,U,Z⟩)<|pk<|Za [QA ((i:Int),u,yR fd t)] λmz m2 kg m3 kh=>?_⟩;have hB:=(O5.C [] h9).D kg;have hm:=hl.I hB;refine⟨hB.any,?_⟩;refine pk<|Q2 (news:=QA ((i:Int),u,yR fd t)) (L:=[]) hm.e U U U (kh.at od) (λy hy=>by simp only[QA,oL,oK,or_false]at hy;rcases hy with rfl|rfl|rfl <;> rfl) oa hm.st.size λhY ki kj hC kk=>⟨(hB.any (L:=ob vd)).Q hC,?_⟩
 have hZ:YP 167 ↑w7 ki hY (E++[((i:Int),u,yR fd t)]):=YP.snoc kj;refine p (QJ U)<|pkk<|Qu (hm.B.J hC (QP hm.e hf)) U U od (YP.eds (L:=[]) hZ (by simp;omega) od).one λm4 kn ko =>
  pe ?_
 have kq:=hm.setE hf hC hZ kk kn ko;refine Qs<|Qa<|QG U U<|Qb<|⟨(k+1,E++[((i:Int),u,yR fd t)],hY),og,La,T,kq,by simp;omega,?_⟩;simp only[o6,Ow];exact J
section
variable {pS:String}
theorem JU {G:Nat}{x:O3}{k:IntKind}{a b:Int}(hx:ev f x=.int k a)(H:ev f y=.int k b)(I:0<=a)(O:0<b):
  (execOp (ev f) ⟨d,.binOp .rem t x y G,ty,pS,af,gd⟩).run P w=.ok (.value (.int k (a % b))) w:=by
 refine Jv hx H ?_;have J:¬b=0:=oa
 simp[binOp,Op.intDiv,J,Int.tmod_eq_emod_of_nonneg I]
end
instance ayMa1:Ay sV 26 5 22 5:=⟨oe,oe⟩
instance ayMa2:Ay sV 22 5 5 1:=⟨oe,oe⟩
abbrev bys (ns:LN):LV:=ns.map λn:Nat=>.int .u8 (n:Int)
theorem qW (h:j<ns.length):(bys ns)[j]?=some (.int .u8 ((ns.getD j 0:Nat):Int)):=by simp[bys,oR,h]
theorem Qdr:∀(ns:LN),Zb (bys ns)
 | []=>trivial
 | _::ns=>⟨rfl,Qdr ns⟩
theorem JF (h:∀n∈ns,n<256)(j:Nat):ns.getD j 0<256:=by
 by_cases G:j<ns.length
 ·simp only[oR,Og G,Option.getD_some];exact h _ (Ll G)
 simp[oR,G]
structure GrI (al:LI)(S i k:Nat)(M:LI)(E:List Ed):Prop where
 mb:∀x∈M,0<=x/\x<S
 mi:Y8 M
 ml:∀x∈M,x<(i:Int)+1
 mn:M.length<=S
 eb:∀e∈E,0<=e.1/\e.1<S/\e.2.1∈al/\0<=e.2.2/\e.2.2<S
 ei:E.Pairwise λx y=>x.1<y.1\/(x.1=y.1/\x.2.1<y.2.1)
 el:∀e∈E,e.1<i\/(e.1=i/\e.2.1∈al.take k)
 en:E.length<=i*5+k
theorem QmB {S:Nat}{M:LI}(G:∀x∈M,0<=x/\x<S)(hi:Y8 M):M.length<=S:=xH S M (hi.imp (λh=>oa)) G
theorem GrI.mark {S:Nat}{M:LI}{E:List Ed}(h:GrI al S i 0 M E)(G:∀x∈M,x<(i:Int))(hi:i<S):GrI al S i 0 (M++[(i:Int)]) E:=by
 have H:∀x∈M++[(i:Int)],0<=x/\x<S:=λx hx=>by
  rcases Lc.1 hx with hx|hx
  ·exact h.mb x hx
  simp only[oJ]at hx;omega
 have I:Y8 (M++[(i:Int)]):=by
  refine MG.2 ⟨h.mi,od,λx hx y J=>?_⟩;simp only[oJ]at J;subst J;exact G x hx
 refine⟨H,I,λx hx=>?_,QmB H I,h.eb,h.ei,h.el,h.en⟩;rcases Lc.1 hx with hx|hx
 ·have:=G x hx;omega
 simp only[oJ]at hx;omega
theorem GrI.skip {S k:Nat}{M:LI}{E:List Ed}(h:GrI al S i k M E)(G:k<al.length):GrI al S i (k+1) M E :=
 ⟨h.mb,h.mi,h.ml,h.mn,h.eb,h.ei,λe H=>(h.el e H).imp id (λx=>⟨x.1,by rw[Lm G];exact Me _ x.2⟩),ov h.en⟩
theorem GrI.edge {S k:Nat}{M:LI}{E:List Ed}(h:GrI al S i k M E)(H:k<al.length)(O:Y8 al)(hi:i<S){t:Int}(T:0<=t)(V:t<S):GrI al S i (k+1) M (E++[((i:Int),O6 al k,t)]):=by
 have Y:O6 al k∈al:=KL H;refine⟨h.mb,h.mi,h.ml,h.mn,λe G=>?_,?_,λe G=>?_,by have:=h.en;simp;omega⟩
 ·rcases Lc.1 G with G|G
  ·exact h.eb e G
  simp only[oJ]at G;subst G;exact⟨og,og,Y,T,V⟩
 ·refine MG.2 ⟨h.ei,od,λx hx y J=>?_⟩;simp only[oJ]at J;subst J;rcases h.el x hx with I|⟨I,h2⟩
  ·left;exact I
  right;refine⟨I,?_⟩;simp only[];have hp:Y8 (al.take k++al.drop k):=by rw[MF];exact O
  refine(MG.1 hp).2.2 _ h2 _ ?_;rw[LE H,ZL H];exact Lq
 rw[Lm H,ZL H];rcases Lc.1 G with G|G
 ·exact(h.el e G).imp id (λx=>⟨x.1,Me _ x.2⟩)
 simp only[oJ]at G;subst G;exact .inr ⟨U,Nw _ od⟩
theorem GrI.next {S k:Nat}{M:LI}{E:List Ed}(h:GrI al S i k M E)(I:k<=5):GrI al S (i+1) 0 M E :=
 ⟨h.mb,h.mi,λx hx=>ov (h.ml x hx),h.mn,h.eb,h.ei,λe G=>by rcases h.el e G with H|H <;> (left;omega),ov h.en⟩
theorem QgS {v:O2}(h:QL L w.heap v al)(G:∀e∈al,0<=e/\e<32)(hi:Y8 al)(hn:ns.length=27)(hp:∀n∈ns,n<256):
  QZ sV 73 [v,sT (bys ns)] w λr w'=>sX w w'/\∃a:Q6,JI ↑w w'.heap r a/\ZK a/\a.st<=5/\a.al=al /\
   (ns.getD 0 0<250->∃a0:Q6,ZK a0/\0<a0.st/\a0.st<=((1+ns.getD 0 0 % 5:Nat):Int)/\a=Xr a0):=by
 have kx:al.length<=32:=xH 32 al (hi.imp (λh=>oa)) (λx hx=>ov (G x hx));refine Zq func73 ?_;have g0:=qW (ns:=ns) (j:=0) oa;have g1:=qW (ns:=ns) (j:=1) oa;have l0:=JF hp 0;have l1:=JF hp 1;refine Zh (ns.getD 0 0) λs0 hX=>?_;refine Zh (ns.getD 1 0) λm1 hY=>?_;rw[hX]at g0 l0;rw[hY]at g1 l1;refine Qc<|Zl (bys ns) λb3 w1 hZ kz h4=>QM [nS,sS 0,nS,nS] λb4 w2 h5 k0 hr=>xe ?_;have ho:=hZ.D h5;have hs:=h4.I h5;have k4:=h4.lt;have k5:=hr.lt;refine Qe<|Qc<|Qo U hs U g0<|x (YA U U)<|xe<|QO rfl (λga=>?_) (λga=>?_)
 ·refine Qj<|Qz<|(qS (h.I ho) oa).mono ?_;rintro r3 w3 ⟨h6,vcl,rfl,T⟩;have hu:=Qq.ints (L:=[]) T oa od;refine QI [vcl,sS 0,nS,nS] (hr.I h6) ⟨hu.one,U,U,U,Z⟩ λw4 h7 gb=>xe ?_;have gc:=Qd T h7 (λb G=>by have:=(Qg T b G).1;simp;omega);refine Qh ⟨[.agg #[vcl,sS 0,nS,nS]],⟨Yk gb,Z⟩,(ho.D h6).O h7 oa,⟨al,0,[],[]⟩,?_,?_,(by decide:(0:Int)<=5),U,λh=>OW h oa⟩
  ·exact⟨vcl,_,_,U,λL' gg=>⟨Qq.ints gc (by show al.length<=_;omega) (λb G=>ov (gg b G)),Zo.nil _ _ _,Zo.nil _ _ _⟩⟩
  exact⟨G,hi,(by decide:(0:Int)<=0),(by decide:(0:Int)<=4096),od,od,od,od⟩
 refine Qf<|Qj<|Qz<|(qS (h.I ho) oa).mono ?_;rintro r5 w5 ⟨h8,vcl,rfl,T⟩;have hu:=Qq.ints (L:=[]) T oa od;refine QM [nS,sS 0,nS,nS] λI w6 gh gi gk =>
  QI [vcl,sS 0,nS,nS] gk ⟨hu.one,U,U,U,Z⟩ λw7 gl h9=>xe ?_
 have hA:sX w5 w7:=gh.O gl gi;have hh:=h8.D hA;have k6:=h8.size;have k7:=h9.lt;refine Zh (1+s0 % 5) λS hS=>?_;have gm:(1:Int)+(s0:Int) % 5=(S:Int):=oa
 refine Qc<|Qo U (hs.I hh) U g0<|x (JU (a:=(s0:Int)) (b:=5) U U oa oa)<|x (Z6 (k':=.i64) U ⟨oa,oa⟩)<|QG U U<|x (KA U) <|
  Qn<|Qu (u:=sS S) h9 U (OV sS gm) od rfl λJ he gn=>xe ?_
 have k8:=he.size;have k9:O5 [I] w2 J:=(hh.any (L:=[I])).Q he;have hB:sX w J:=(ho.D hh).O he oa;have hC:QL [I] J.heap v al:=(h.up (L':=[I]) (λb G=>.inr (by simp at G;omega))).I hB;have go:Qq 3 ↑w2 J vcl al:=Qd (Qk T hA) he (λb G=>by have:=Q7 T b G;simp;omega);have hD:=(hs.I hh).J he (by simp;omega);have gp:=(hr.I hh).J he (by simp;omega);have hj:I<J.heap.size:=oa
 have n3:b3∉[I]:=by simp;omega
 have n4:b4∉[I]:=by simp;omega
 refine Qe<|Qc<|Qb<|Q8 (α:=Nat×O2×O2×LI×List Ed) [(6,8),(22,76)] (λz=>[(6,sS z.1)])
  (λz w'=>z.1<=S/\CrI J I vcl S z.2.1 z.2.2.1 z.2.2.2.1 z.2.2.2.2 w'/\GrI al S z.1 0 z.2.2.2.1 z.2.2.2.2/\∀x∈z.2.2.2.1,x<(z.1:Int)) (λz=>S - z.1) (0,nS,nS,[],[]) La
  ⟨Ln _,⟨O5.Z _ _,gn,QD _ _ _ _,QD _ _ _ _,Dj.nil' _⟩,⟨od,od,od,od,od,od,od,od⟩,od⟩ ?_
 rintro⟨i,v1,v2,M,E⟩ g9 w9 ⟨gq,H,O,hM⟩;simp only[]at gq H O hM;have ma:=O.mn;have mf:=O.en;refine Qe<|Qj<|Qo U H.B U U<|Ya U U<|xe<|ZI rfl (λgr=>?_) (λgr=>?_)
 ·have mg:i=S:=oa
  refine Qw ?_;have gs:=Qq.ints (L:=[]) H.m oa od;have gt:=YP.eds (L:=[]) H.e oa od;have gu:Qq 3 ↑w2 w9 vcl al:=Qd go H.st (λb G=>by have:=Q7 T b G;simp;omega);have gv:ZM [] w9.heap vcl v1 v2 ⟨al,(S:Int),M,E⟩:=⟨Qq.ints gu (by show al.length<=_;omega) od,gs,gt⟩;have hv:ZK ⟨al,(S:Int),M,E⟩:=⟨G,hi,og,og,O.mb,O.mi,O.eb,O.ei⟩;have hw:=QbP hv;have hE:sX w w9:=hB.O H.st oa;have gw:=gp.J H.st n4;have mh:=H.st.size;refine Qc<|QS H.B U U<|Qz<|(jK (a:=⟨al,(S:Int),M,E⟩) gv hv).mono ?_;rintro vr mj ⟨hH,hF⟩;obtain⟨us,hJ,hK,gx⟩:=J3 hF;refine Qn<|Zv (us:=us) (gw.I hH) U hJ hK U gx λmo hL gy=>xe ?_;have gz:=hE.size;refine Qh ⟨[sT us],⟨⟨_,U,Yc hK (gy.at (L:=[]) od).cells⟩,Z⟩,(hE.D hH).O hL oa,Xr ⟨al,(S:Int),M,E⟩,?_,hw.1,?_,hw.2.1,λ_=>⟨⟨al,(S:Int),M,E⟩,hv,og,og,U⟩⟩
  ·show JI _ _ (sT us) _;rw[<-hJ];exact(KT hF oa hL).mono gz
  have:=hw.2.2;simp only[]at this;omega
 have hz:i<S:=oa
 refine Qf<|Qe<|Qm<|QX (α:=O2×LI) [(28,39)] (λz=>[]) (λz w'=>CrI J I vcl S z.1 v2 z.2 E w'/\GrI al S i 0 z.2 E) om ?_ ?_
 ·have g2:m1 / 2 ^ i<256:=Nat.lt_of_le_of_lt (Nat.div_le_self _ _) l1;refine Qc<|Qo U (hD.J H.st n3) U g1<|Qa<|x (Qac (n:=i) U U (by show i<=8;omega))<|x (yz (a:=m1 / 2 ^ i) (b:=1) (OV (Value.int .u8) (Qbb m1 i)) U g2 ol)<|x (QT U U)<|xe<|ZI U (λg3=>?_) (λg3=>?_)
  ·refine Qf ?_;exact⟨(v1,M),Z,H,O⟩
  refine Qs<|Qo U H.B U U<|Qa<|Qn<|Za [[sS i]] λmq ms g4 mt g5=>?_;have hl:=H.I g4;refine Qn<|Q2 (news:=[sS i]) (L:=[]) hl.m U U U (g5.at od) oq oa hl.st.size λhN g6 g7 hO g8=>?_;have hP:Qq 3 ↑J g6 hN (M++[(i:Int)]):=Qq.snoc g7;refine QQ U<|Qn<|Qu (hl.B.J hO (QP hl.m hj)) U U od (Qq.ints (L:=[]) hP (by simp;omega) od).one λmu ka kb =>
   xe ?_
  exact⟨(hN,M++[(i:Int)]),Z,hl.setM hj hO hP g8 ka kb,O.mark hM hz⟩
 rintro⟨v3,M3⟩ mv mw ⟨hQ,hR⟩;simp only[]at hQ hR;refine Qc<|Qb<|Q8 (α:=Nat×O2×List Ed) [(7,8),(40,76)] (λz=>[(7,sS z.1)])
  (λz w'=>z.1<=al.length/\z.1<=5/\CrI J I vcl S v3 z.2.1 M3 z.2.2 w'/\GrI al S i z.1 M3 z.2.2) (λz=>5 - z.1) (0,v2,E) La
  ⟨Ln _,Ln _,hQ,hR⟩ ?_
 rintro⟨k,vd,F⟩ my kc ⟨hk,hT,hf,hg⟩;simp only[]at hk hT hf hg;have ke:=hC.st hf.st;have mz:=hg.en;refine Qe<|QX (α:=Unit) [(40,47)] (λz=>[(47,.bool (decide (k<al.length/\k<5)))]) (λz w'=>w'=kc) om ?_ ?_
 ·refine Qs<|Qa<|Qa<|QF ke U<|xb (YW U U) (λhU=>?_) (λhU=>?_)
  ·refine Qa<|Qa<|Ya U U<|QE U<|xe<|⟨(),⟨OV Value.bool ?_,Z⟩,U⟩;exact decide_eq_decide.2 ⟨λe=>⟨oa,oa⟩,λe=>oa⟩
  refine Qa<|Yq<|QE U<|xe ?_;exact⟨(),⟨OV Value.bool (OZ (λe=>hU oa)).symm,Z⟩,U⟩
 rintro _ m2 V rfl;refine ZI rfl (λh0=>?_) (λh0=>?_)
 ·refine Qw<|Qs<|Qa<|QG U U<|Qb<|⟨(i+1,v3,vd,M3,F),og,La,hz,hf,hg.next hT,λx hx=>by have:=hg.ml x hx;simp only[];omega⟩
 have hk1:k<al.length:=h0.1;have h1:k<5:=h0.2;have gj:=qW (ns:=ns) (j:=0+2+i*5+k*1) oa;have lj:=JF hp (0+2+i*5+k*1);refine Zh (ns.getD (0+2+i*5+k*1) 0) λq hq=>?_;rw[hq]at gj lj;have kf:=hD.J hf.st n3;have kg:0<=(q:Int) % ((S:Int)+2):=Int.emod_nonneg _ oa;refine Qf<|Qe<|Qm<|Qe<|ZA [] (YX 0 12 [])<|p Qx<|p Qx<|p (QJ U)<|p (λ_=>Z2 (i:=i) U U oa)<|p (λ_=>Z2 (i:=k) U U h1)<|pq (λ_ Y=>Ql (kf.I Y) U gj) <|
  p (λ_=>Z6 (k':=.i64) U ⟨oa,oa⟩)<|p (QJ U)<|pq (λ_ Y=>Ql (hf.B.I Y) U U)<|p (λ_=>XS U U ⟨oa,oa⟩) <|
  p (λ_=>JU (a:=(q:Int)) (b:=(S:Int)+2) U U oa oa)<|p ZG<|pe ?_
 have ha:=hf.I (O5.C [] V);refine Zh ((q:Int) % ((S:Int)+2)) λt ht=>?_;refine Qj<|Qo U ha.B U U<|Ya U U<|xe<|ZI rfl (λkh=>?_) (λkh=>?_)
 ·refine Qf<|Qs<|Qa<|QG U U<|Qb<|⟨(k+1,vd,F),og,La,hk1,h1,ha,hg.skip hk1⟩
 have ki:=Qg ha.e;have kj:QL (I::ob vd) { V with drawn:=V.drawn+1 }.heap v al:=((hC.up (L':=I::ob vd) (λb G=>by
  rcases Li.1 G with rfl|G
  ·exact .inl od
  exact .inr (ki b G).1)).J ha.st od)
 have kk:=QP ha.e hj;refine qZ (O5 (ob vd) { V with drawn:=V.drawn+1 }) [oE 0,oE 1,oE 2,oE 3,oE 4,oE 5,oE 6,oE 7,oE 8,oF 9,oF 10,oE 11,oF 12] mixed om oe (O5.C _ _) ?_
 refine p (QJ U)<|pq (λ_ Y=>Ql (ha.B.J Y kk) U U)<|p Qx<|p Qx<|p Qx <|
  pic (i:=k) U kj U U hk1 λm3 kn=>pq (λ_ Y=>Qy (kn.J Y (λb G=>Lj _ G)) U)<|p Qx<|p (λ_=>Qv ⟨U,U,U,Z⟩) <|
  pk<|Za [QA ((i:Int),O6 al k,(q:Int) % ((S:Int)+2))] λm4 m5 ko m6 kq=>?_
 have h2:=(O5.C [] { V with drawn:=V.drawn+1 }).D ko
 have hm:=ha.I h2;refine⟨h2.any,?_⟩;refine pk<|Q2 (news:=QA ((i:Int),O6 al k,(q:Int) % ((S:Int)+2))) (L:=[]) hm.e U U U (kq.at od) (λy hy=>by simp only[QA,oL,oK,or_false]at hy;rcases hy with rfl|rfl|rfl <;> rfl) oa hm.st.size λhV kr kt h3 ku=>⟨(h2.any (L:=ob vd)).Q h3,?_⟩
 have hW:YP 167 ↑J kr hV (F++[((i:Int),O6 al k,(q:Int) % ((S:Int)+2))]):=YP.snoc kt;refine p (QJ U)<|pkk<|Qu (hm.B.J h3 (QP hm.e hj)) U U od (YP.eds (L:=[]) hW (by simp;omega) od).one λm7 kv kw=>pe ?_;refine Qs<|Qa<|QG U U<|Qb<|⟨(k+1,hV,F++[((i:Int),O6 al k,(q:Int) % ((S:Int)+2))]),og,La,hk1,h1,(hm.setE hj h3 hW ku kv kw),hg.edge hk1 hi hz kg oa⟩
section
variable {pS:String}
theorem qE [Ag P t sz]{x:O3}{o:Nat}(h:QY w.heap b T cs)(hx:ev f x=.pointer (some ⟨b,o,none⟩))(G:us.length=sz)(H:∀j u,us[j]?=some u->cs[o+j]?=some u):
  (execOp (ev f) ⟨d,.load t x,ty,pS,af,gd⟩).run P w=.ok (.value (sT us)) w:=by
 refine zP hx G λj u I=>?_;rw[KM,KD,h.cell];exact H j u I
end
theorem Qnh {o:Nat}:∀j u,(bys ((ns.drop o).take n))[j]?=some u->(bys ns)[o+j]?=some u:=by
 intro j u h;simp only[bys,List.getElem?_map,List.getElem?_take,List.getElem?_drop]at h ⊢;split at h
 ·exact h
 cases h
theorem Qni (h:∀n∈ns,n<256)(o n:Nat):∀m∈(ns.drop o).take n,m<256:=λm G=>h m (L8 (LU G))
theorem Qe2 (m k:Nat):∀e∈setK m k,0<=e/\e<k:=by
 intro e G;simp only[setK,OA,OH,OB]at G;obtain⟨i,⟨hi,_⟩,rfl⟩:=G;omega
theorem Qfj (keep:Bool->Bool->Bool):∀(n:Nat) (a b:LI),a.length+b.length<=n->Y8 a->Y8 b->Y8 (mrg keep a b):=by
 intro n;induction n with
 | zero =>
  intro a b h _ _;have S:a=[]:=Lr oa;have T:b=[]:=Lr oa;subst S T;rw[K4];exact List.Pairwise.nil
 | succ n ih =>
  intro a b V ia ib;by_cases h:a=[]/\b=[]
  ·obtain⟨rfl,rfl⟩:=h;rw[K4];exact List.Pairwise.nil
  have Y:=yU h;have itl:∀(c:Bool) (l:LI),Y8 l->Y8 (tl c l):=λc l I=>by
   cases c
   ·exact I
   cases l with
   | nil=>exact I
   | cons y l=>exact I.tail
  have J:=ih (tl (JE a b) a) (tl (JE b a) b) oa (itl _ _ ia) (itl _ _ ib);rw[KC keep h];cases keep (JE a b) (JE b a)with
  | false=>simpa using J
  | true =>
   simp only[cond_true,Ow];refine L6.2 ⟨λx hx=>?_,J⟩;have H:=(zV (itl _ _ ia) (itl _ _ ib) x).1 hx;cases a with
   | nil =>
    cases b with
    | nil=>exact OW ⟨U,U⟩ h
    | cons y b =>
     simp only[JE,tl,cond_true,cond_false,Oo,oK,false_or,Lg.hx,On]at H ⊢;exact ib.lt_of H.1
   | cons u a =>
    cases b with
    | nil =>
     simp only[JE,tl,cond_true,cond_false,Oo,oK,or_false,Lg.hx,On]at H ⊢;exact ia.lt_of H.1
    | cons y b =>
     rcases Int.lt_trichotomy u y with O|O|O
     ·have e1:decide (u<=y)=true:=OX oa;have e2:decide (y<=u)=false:=OZ oa;simp only[JE,tl,e1,e2,cond_true,cond_false,Oo,Lg.hx,On]at H ⊢;rcases H.1 with G|G
      ·exact ia.lt_of G
      rcases Li.1 G with G|G
      ·omega
      have:=ib.lt_of G;omega
     ·have e1:decide (u<=y)=true:=OX oa;have e2:decide (y<=u)=true:=OX oa;simp only[JE,tl,e1,e2,cond_true,Oo,Lg.hx,On]at H ⊢;rcases H.1 with G|G
      ·have:=ia.lt_of G;omega
      have:=ib.lt_of G;omega
     have e1:decide (u<=y)=false:=OZ oa;have e2:decide (y<=u)=true:=OX oa;simp only[JE,tl,e1,e2,cond_true,cond_false,Oo,Lg.hx,On]at H ⊢;rcases H.1 with G|G
     ·rcases Li.1 G with G|G
      ·omega
      have:=ia.lt_of G;omega
     exact ib.lt_of G
theorem QeN {J O S:O2}(h:ZM L w.heap va vm ve a)(T:ZM L' w.heap J O S a):
  QZ sV 55 [.agg #[va,sS a.st,vm,ve],.agg #[J,sS a.st,O,S]] w λr w'=>r=.bool true/\sX w w':=by
 refine Zq func55 ?_;refine Qc<|Zl [va,sS a.st,vm,ve] λb2 w1 hi hl hj=>Zl [J,sS a.st,O,S] λb3 w2 hb hm G=>Qb ?_;have V:=hi.D hb;have H:=hj.I hb;refine Qc<|Qo U H U U<|Qo U G U U<|xb (QT U U) (λ_=>?_) (λh9=>OW U h9);refine Qa<|Qo U H U U<|Qo U G U U<|Qz<|(JP (h.al.I V) (T.al.I V)).mono ?_;rintro r3 w3 ⟨hc,I⟩;rw[OX rfl]at hc;subst hc;have Y:=V.D I;refine x (qD U) <|
  Qa<|Qo rfl (H.I I) U U<|QQ U<|x (Ql (G.I I) U U) <|
  Qz<|(JP (h.mr.I Y) (T.mr.I Y)).mono ?_
 rintro r4 w4 ⟨he,hf⟩;rw[OX rfl]at he;subst he;have ha:=Y.D hf;have hg:=I.D hf;refine QE rfl<|Qa<|QQ U<|x (Ql (H.I hg) U U) <|
  Qo rfl (G.I hg) U U<|Qz<|(QaD (h.ed.I ha) (T.ed.I ha)).mono ?_
 rintro r5 w5 ⟨hh,hk⟩;rw[OX rfl]at hh;subst hh;refine QE rfl<|Qb<|Qh ⟨[.bool true],La,U,ha.D hk⟩
section
variable {pS:String}
end
section
variable {w4 w'':O1}{m q:Bool}{vd:O2}{E D:LI}
end
section
variable {pS:String}
end
def grid (g:Nat->Int->Option Ed)(vs:LI)(n:Nat):List Ed:=(oS 0 n).flatMap λj=>vs.filterMap (g j)
theorem qQ (g:Nat->Int->Option Ed)(vs:LI)(n:Nat):grid g vs (n+1)=grid g vs n++vs.filterMap (g n):=by
 unfold grid;rw[Mz,Ly];simp
theorem Qc2 (l m:List Ed)(s v:Int):xo (l++m) s v=match xo l s v with|some u=>some u|none=>xo m s v:=by
 induction l with
 | nil=>rfl
 | cons e l ih =>
  rw[Mv,xo,xo];split
  ·rfl
  exact ih
def jx (g:Nat->Int->Option Ed):Prop:=∀j v e,g j v=some e->e.1=(j:Int)/\e.2.1=v
theorem Qc0 {g:Nat->Int->Option Ed}(G:jx g)(j:Nat)(v:Int):∀(vs:LI),xo (vs.filterMap (g j)) j v=if v∈vs then(g j v).map (·.2.2)else none
 | []=>by simp[xo]
 | u::vs=>by
  have ih:=Qc0 G j v vs;rw[My];cases E:g j u with
  | none =>
   simp only[];rw[ih];by_cases e:v=u
   ·subst e;simp[E]
   simp[e]
  | some e =>
   have H:=G j u e E;simp only[];rw[xo];by_cases e2:u=v
   ·subst e2;rw[OU H,OU Lq,E];rfl
   rw[OT (λh=>e2 (H.2.symm.D h.2)),ih];simp[Ne.symm e2]
theorem QcZ {g:Nat->Int->Option Ed}(E:jx g)(h:j≠i)(v:Int)(vs:LI):xo (vs.filterMap (g j)) i v=none:=by
 refine QaE λe G I=>?_;obtain⟨u,_,H⟩:=MX.1 G;have:=E j u e H;omega
theorem Qhe {g:Nat->Int->Option Ed}(E:jx g)(vs:LI)(j:Nat)(v:Int):∀n,xo (grid g vs n) j v=if j<n/\v∈vs then(g j v).map (·.2.2)else none
 | 0=>by simp[grid,xo]
 | n+1=>by
  rw[qQ,Qc2,Qhe E vs j v n];by_cases e:j=n
  ·subst e;rw[OT oa,Qc0 E];simp
  rw[QcZ E (Ne.symm e)];by_cases h:j<n/\v∈vs
  ·rw[OU h,OU ⟨oa,h.2⟩];cases(g j v).map (·.2.2) <;> rfl
  rw[OT h,OT (λG=>h ⟨oa,G.2⟩)]
theorem QcQ {g:Nat->Int->Option Ed}{vs:LI}{e:Ed}(h:e∈grid g vs n):∃j v,j<n/\v∈vs/\g j v=some e:=by
 unfold grid at h;obtain⟨j,E,G⟩:=Mc.1 h;obtain⟨v,H,I⟩:=MX.1 G;rw[MB]at E;exact⟨j,v,oa,H,I⟩
theorem QfC {g:Nat->Int->Option Ed}(E:jx g){vs:LI}(hi:Y8 vs):∀n,(grid g vs n).Pairwise λx y:Ed=>x.1<y.1\/(x.1=y.1/\x.2.1<y.2.1)
 | 0=>by simp[grid]
 | n+1=>by
  rw[qQ,MG];refine⟨QfC E hi n,JA (r:=(·<·)) (λx y u v V I J=>?_) hi,λe O S T=>?_⟩
  ·have G:=E n x u I;have H:=E n y v J;right;omega
  obtain⟨j,v,Y,_,G⟩:=QcQ O;obtain⟨v',_,H⟩:=MX.1 T;have h3:=E j v e G;have h4:=E n v' S H;left;omega
theorem QqF (l:List Q6):∀(acc:LI),(∀a∈l,Y8 a.al)->Y8 acc->Y8 (l.foldl (λacc a=>mrg (· || ·) acc a.al) acc)/\∀x,x∈l.foldl (λacc a=>mrg (· || ·) acc a.al) acc↔x∈acc\/∃a∈l,x∈a.al:=by
 induction l with
 | nil=>intro acc _ h;exact⟨h,λx=>od⟩
 | cons a l ih =>
  intro acc G h;have H:=G a Lq;obtain⟨I,J⟩:=ih (mrg (· || ·) acc a.al) (λb O=>G b (Lj _ O)) (Qfj _ _ _ _ (Lv _) h H);rw[L4];refine⟨I,λx=>?_⟩;rw[J x,zV h H];simp only[oL,exists_eq_or_imp];constructor
  ·rintro(⟨E|E,_⟩|E)
   ·exact .inl E
   ·exact .inr (.inl E)
   exact .inr (.inr E)
  rintro(E|E|E)
  ·exact .inl ⟨.inl E,by simp[E]⟩
  ·exact .inl ⟨.inr E,by simp[E]⟩
  exact .inr E
theorem QfK {l:List Q6}(h:∀a∈l,ZK a):Y8 (evs l):=(QqF l [] (λa E=>(h a E).ali) od).1
theorem QfJ {l:List Q6}(h:∀a∈l,ZK a)(x:Int):x∈evs l↔∃a∈l,x∈a.al:=by
 have:=(QqF l [] (λa E=>(h a E).ali) od).2 x;unfold evs;rw[this];simp
def syF (aa:List Q6)(tup:List (LI))(j:Nat)(v:Int):Option Ed:=(Y5 v aa (tup.getD j [])).map λu=>((j:Int),v,(tup.idxOf u:Int))
theorem Qn8 (aa:List Q6)(tup:List (LI)):jx (syF aa tup):=by
 intro j v e h;unfold syF at h;obtain⟨u,_,rfl⟩:=Mr.1 h;exact⟨U,U⟩
theorem QcU {α β:Type}{f g:α->Option β}:∀{l:List α},(∀x∈l,f x=g x)->l.filterMap f=l.filterMap g
 | [],_=>rfl
 | x::l,h=>by rw[My,My,h x Lq,QcU (λy E=>h y (Lj _ E))]
theorem QjE {f:α->Option β}{v:α}{e:β}(h:f v=some e):[v].filterMap f=[e]:=by rw[My,h];rfl
theorem QmD {f:α->Option β}{v:α}(h:f v=none):[v].filterMap f=[]:=by rw[My,h];rfl
theorem Qh7 {tup:List (LI)}{v:Int}(h:Y5 v aa (tup.getD j [])=none):syF aa tup j v=none:=by unfold syF;rw[h];rfl
theorem Qb9 {tup:List (LI)}{v:Int}(h:Y5 v aa (tup.getD j [])=some u):syF aa tup j v=some ((j:Int),v,(tup.idxOf u:Int)):=by unfold syF;rw[h];rfl
def Clo (aa:List Q6)(tup:List (LI))(j:Nat)(vs:LI):Prop:=∀v∈vs,∀u,Y5 v aa (tup.getD j [])=some u->u∈tup
theorem VF {tup r:List (LI)}(h:j<tup.length):(tup++r).getD j []=tup.getD j []:=by simp[oR,List.getElem?_append_left h]
theorem QeU {tup r:List (LI)}{vs:LI}(E:j<tup.length)(G:Clo aa tup j vs):vs.filterMap (syF aa (tup++r) j)=vs.filterMap (syF aa tup j):=by
 refine QcU λv H=>?_;unfold syF;rw[VF E];cases I:Y5 v aa (tup.getD j [])with
 | none=>rfl
 | some u =>
  simp only[Oz,Option.some.injEq,Prod.mk.injEq,true_and];rw[MA,OU (G v H u I)]
theorem Clo.pre {tup r:List (LI)}{vs:LI}(G:j<tup.length)(H:Clo aa tup j vs):Clo aa (tup++r) j vs:=by
 intro v I u E;rw[VF G]at E;exact Me _ (H v I u E)
theorem yH {l:List α}{u:α}(h:l.Nodup)(G:u∉l):(l++[u]).Nodup:=by
 rw[MC];exact⟨h,od,λa H b E=>by simp only[oJ]at E;subst E;exact λe=>G (by rw[<-e];exact H)⟩
theorem jX {aa:List Q6}{i:Nat}:∀(vs:LI) (s I:Sy),i<s.tup.length->s.tup.Nodup->yj aa i (jV s i) vs s=some I ->
  ∃r,I.tup=s.tup++r/\I.mk'=s.mk'/\I.ed=s.ed++vs.filterMap (syF aa I.tup i)/\Clo aa I.tup i vs/\I.tup.Nodup
 | [],s,I,_,hd,e=>by cases e;exact⟨[],od,rfl,od,λv hv=>(by cases hv),hd⟩
 | v::vs,s,I,hi,hd,e=>by
  rw[yj]at e;obtain⟨J,E,Y⟩:=MW.1 e;have key:∃T,J.tup=s.tup++T/\J.mk'=s.mk'/\J.ed=s.ed++[v].filterMap (syF aa J.tup i)/\Clo aa J.tup i [v]/\J.tup.Nodup:=by
   unfold syE at E;have eT:jV s i=s.tup.getD i []:=rfl;rw[eT]at E;cases O:Y5 v aa (s.tup.getD i [])with
   | none =>
    rw[O]at E;cases E
    refine⟨[],od,rfl,by rw[QmD (Qh7 O),Oy],λv' G u H=>?_,hd⟩;simp only[oJ]at G;subst G;rw[O]at H;cases H
   | some u =>
    rw[O]at E;simp only[]at E;by_cases H:u∈s.tup
    ·rw[OU H]at E;cases E
     refine⟨[],od,rfl,by rw[QjE (Qb9 O)],λv' G u' S=>?_,hd⟩;simp only[oJ]at G;subst G;simp only[]at S ⊢;rw[O]at S;cases S;exact H
    rw[OT H]at E;split at E
    ·cases E
    cases E
    have e2:(s.tup++[u]).getD i []=s.tup.getD i []:=VF hi;have e3:(s.tup++[u]).idxOf u=s.tup.length:=by rw[MA,OT H];simp
    refine⟨[u],U,U,?_,λv' G u' S=>?_,yH hd H⟩
    ·rw[QjE (Qb9 (tup:=s.tup++[u]) (u:=u) (by rw[e2];exact O)),e3]
    simp only[oJ]at G;subst G;rw[e2,O]at S;cases S;simp
  obtain⟨T,k1,k2,k3,k4,k5⟩:=key;have V:i<J.tup.length:=by rw[k1];simp;omega
  have eT:jV J i=jV s i:=by unfold jV;rw[k1];exact VF hi
  rw[<-eT]at Y;obtain⟨r2,g1,g2,g3,g4,g5⟩:=jX vs J I V k5 Y;refine⟨T++r2,by rw[g1,k1,LB],g2.D k2,?_,?_,g5⟩
  ·rw[g3,k3,LB];congr 1;rw[show v::vs=[v]++vs from rfl,List.filterMap_append];congr 1;rw[g1];exact(QeU V k4).symm
  intro v' G u H;rcases Li.1 G with rfl|G
  ·have:=k4.pre (r:=r2) V;rw[<-g1]at this;exact this v' Lq u H
  exact g4 v' G u H
structure SyG (aa:List Q6)(i:Nat)(s:Sy):Prop where
 nd:s.tup.Nodup
 le:i<=s.tup.length
 hd:s.tup.getD 0 []=oO aa.length 0/\0<s.tup.length
 mk2:s.mk'=((oS 0 i).filter λj=>JX aa (s.tup.getD j [])).map λj:Nat=>(j:Int)
 ed:s.ed=grid (syF aa s.tup) (evs aa) i
 cl:∀j,j<i->Clo aa s.tup j (evs aa)
theorem JZ {α β:Type}{f g:α->List β}:∀{l:List α},(∀x∈l,f x=g x)->l.flatMap f=l.flatMap g
 | [],_=>rfl
 | x::l,h=>by rw[LK,LK,h x Lq,JZ (λy E=>h y (Lj _ E))]
theorem SyG.next {s E:Sy}(h:SyG aa i s)(hi:i<s.tup.length)(e:yj aa i (jV s i) (evs aa) (Ym aa i (jV s i) s)=some E):SyG aa (i+1) E:=by
 have H:(Ym aa i (jV s i) s).tup=s.tup:=by unfold Ym;split <;> rfl
 have T:(Ym aa i (jV s i) s).ed=s.ed:=by unfold Ym;split <;> rfl
 have O:jV (Ym aa i (jV s i) s) i=jV s i:=by show(Ym aa i (jV s i) s).tup.getD i []=s.tup.getD i [];rw[H]
 rw[<-O]at e;obtain⟨r,g1,V,S,Y,g5⟩:=jX (evs aa) _ E (by rw[H];exact hi) (by rw[H];exact h.nd) (by rw[O]at e ⊢;exact e);rw[H]at g1;rw[T]at S;have pre:∀j,j<=i->E.tup.getD j []=s.tup.getD j []:=λj G=>by rw[g1];exact VF oa
 refine⟨g5,by rw[g1];simp;omega,⟨by rw[pre 0 oa];exact h.hd.1,by rw[g1];simp;omega⟩,?_,?_,λj G=>?_⟩
 ·rw[V,Mz,L3,Lp,LS];have e1:((oS 0 i).filter λj=>JX aa (E.tup.getD j []))=(oS 0 i).filter λj=>JX aa (s.tup.getD j []):=by
   refine List.filter_congr λj G=>?_;rw[MB]at G;rw[pre j oa]
  rw[e1];unfold Ym;by_cases I:JX aa (jV s i)=true
  ·rw[OU I];have J:JX aa (E.tup.getD i [])=true:=by rw[pre i (Lv _)];exact I
   simp only[List.filter_cons,J,if_true,List.filter_nil,oY,OL];rw[h.mk2]
  rw[OT I];have J:JX aa (E.tup.getD i [])=false:=by rw[pre i (Lv _)];exact eq_false_of_ne_true I
  rw[Mb,OT (by rw[J];simp),Nj,h.mk2];simp
 ·rw[S,qQ,h.ed];congr 1;unfold grid;refine JZ λj G=>?_;rw[MB]at G;rw[g1];exact(QeU oa (h.cl j oa)).symm
 by_cases e2:j=i
 ·subst e2;exact Y
 have:=(h.cl j oa).pre (r:=r) oa;rw[<-g1]at this;exact this
theorem Qb8 {aa:List Q6}:∀(f i:Nat) (s E:Sy),SyG aa i s->syL aa f i s=some E->∃G,SyG aa G E/\(E.tup.length=G\/G=i+f)
 | 0,i,s,E,h,e=>by cases e;exact⟨i,h,.inr U⟩
 | f+1,i,s,E,h,e=>by
  rw[syL]at e;split at e
  ·rename_i hi;obtain⟨H,I,J⟩:=MW.1 e;obtain⟨G,O,S⟩:=Qb8 f (i+1) H E (h.next hi I) J;exact⟨G,O,oa⟩
  cases e;exact⟨i,h,.inl (ov h.le)⟩
structure SyP (aa:List Q6)(A:Q6)(Q:List (LI)):Prop where
 al:A.al=evs aa
 st:A.st=(Q.length:Int)
 nd:Q.Nodup
 v:∀t∈Q,Vt aa t
 le:Q.length<=4096
 hd:0<Q.length->Q.getD 0 []=oO aa.length 0
 mk2:A.mr=((oS 0 Q.length).filter λj=>JX aa (Q.getD j [])).map λj:Nat=>(j:Int)
 ed:A.ed=grid (syF aa Q) (evs aa) Q.length
 cl:∀j,j<Q.length->Clo aa Q j (evs aa)
theorem JJ (J:∀a∈aa,ZK a){A:Q6}{Q:List (LI)}(h:xp aa=some (A,Q)):SyP aa A Q/\(Q.length=0↔∃a∈aa,a.st=0):=by
 have G:=zM J h;unfold xp at h;split at h
 ·rename_i H;cases h
  exact⟨⟨U,U,od,od,od,λh=>by simp at h,od,by simp[grid],λj I=>by simp at I⟩,oA H⟩
 rename_i H;obtain⟨s,O,S⟩:=Mr.1 h;have T:SyG aa 0 (jY aa):=⟨by simp[jY],od,⟨by simp[jY],by simp[jY]⟩,by simp[jY],by simp[jY,grid],λj I=>oa⟩;obtain⟨V,E,h4⟩:=Qb8 4096 0 (jY aa) s T O;cases S
 have Y:V=s.tup.length:=by
  have h5:=E.le;have h6:=G.2;simp only[]at h6;omega
 subst Y;refine⟨⟨rfl,U,E.nd,G.1,G.2,λ_=>E.hd.1,E.mk2,E.ed,E.cl⟩,?_⟩;have:=E.hd.2;constructor
 ·intro h;have h7:s.tup.length=0:=h;omega
 intro h;exact OW h H
theorem SyP.to {A:Q6}{Q:List (LI)}(h:SyP aa A Q)(G:j<Q.length){v:Int}(H:v∈evs aa)(I:Y5 v aa (Q.getD j [])=some u):Q.idxOf u<Q.length/\Q.getD (Q.idxOf u) []=u:=by
 have E:=MI (h.cl j G v H u I);refine⟨E,?_⟩;simp[oR,E]
theorem SyP.okay (G:∀a∈aa,ZK a){A:Q6}{Q:List (LI)}(h:SyP aa A Q):ZK A:=by
 have V:=h.le;refine⟨λe E=>?_,by rw[h.al];exact QfK G,by rw[h.st];omega,by rw[h.st];omega,λs H=>?_,?_,λe E=>?_,by rw[h.ed];exact QfC (Qn8 aa Q) (QfK G) _⟩
 ·rw[h.al]at E;obtain⟨a,O,hx⟩:=(QfJ G e).1 E;exact(G a O).al e hx
 ·rw[h.mk2]at H;simp only[OA,OH,OB]at H;obtain⟨i,⟨hi,_⟩,rfl⟩:=H;rw[h.st];omega
 ·rw[h.mk2];unfold Y8;rw[MO];refine List.Pairwise.sublist MY ?_;exact(Ng (s:=0) (n:=Q.length)).imp (λh=>oa)
 rw[h.ed]at E;obtain⟨j,v,S,I,J⟩:=QcQ E;unfold syF at J;obtain⟨u,T,rfl⟩:=Mr.1 J;have:=(h.to S I T).1;rw[h.st,h.al];exact⟨og,og,I,og,og⟩
open Go.RowKit
instance:LawfulBEq ByteArray where
 eq_of_beq h:=(MapKept.bytes_beq _ _).1 h;rfl:=(MapKept.bytes_beq _ _).2 U
def chr (s:ByteArray)(i:Nat):Nat:=(s.get! i).toNat
theorem Qpt {s:ByteArray}(h:i<s.size):(s[i]'h).toNat=chr s i:=by
 unfold chr;obtain⟨d⟩:=s;have hd:i<d.size:=h;simp[ByteArray.get!,hd,ByteArray.getElem_eq_getElem_data]
theorem Qhv {a b:ByteArray}(h:a.data.toList=b.data.toList):a=b:=by
 obtain⟨⟨x⟩⟩:=a;obtain⟨⟨y⟩⟩:=b;have E:x=y:=h;rw[E]
theorem bytes_beq (a b:ByteArray):(a.toList == b.toList)=decide (a=b):=by
 rw[ByteArray.toList_eq,ByteArray.toList_eq];by_cases h:a=b
 ·subst h;simp
 rw[OZ h];have:a.data.toList≠b.data.toList:=λe=>h (Qhv e);simpa using this
section
variable {pS:String}{t':Nat}{x:O3}
theorem QiD [h:St P t]{s:ByteArray}{k:IntKind}(hx:ev f x=.string s)(G:ev f y=.int k i)(hi:i<s.size):
  (execOp (ev f) ⟨d,.index t x y,ty,pS,af,gd⟩).run P w=.ok (.value (.int .u8 (chr s i))) w:=by
 have E:=run_index_string (P:=P) w t s k i h.u;rw[dif_pos ⟨oa,oa⟩]at E;have e:(s[(i:Int).toNat]'(oA hi)).toNat=chr s i:=Qpt hi;simp only[execOp,hx,G,Sem.run_bind,E,Result.andThen_ok,Sem.run_pure,e]
theorem Qd2 [h:St P t]{s:ByteArray}(hx:ev f x=.string s):
  (execOp (ev f) ⟨d,.call ⟨.builtin .len,#[x],#[t]⟩,ty,pS,af,gd⟩).run P w=.ok (.value (sS s.size)) w:=QiC h.u hx
theorem XR {a b:ByteArray}(hx:ev f x=.string a)(E:ev f y=.string b):
  (execOp (ev f) ⟨d,.binOp .eql t x y t',ty,pS,af,gd⟩).run P w=.ok (.value (.bool (decide (a=b)))) w:=by
 have G:(eqGuard .eql t x y (.string a) (.string b)).run P w=.ok () w:=by simp[eqGuard]
 simp only[execOp,hx,E,Sem.run_bind,G,Result.andThen_ok,binOp_string_eql,Sem.run_pure,bytes_beq]
theorem YT {a b:ByteArray}(hx:ev f x=.string a)(E:ev f y=.string b)(J:a.size+b.size<=1000000000):
  (execOp (ev f) ⟨d,.binOp .add t x y t',ty,pS,af,gd⟩).run P w=.ok (.value (.string (a++b))) w:=by
 have G:(eqGuard .add t x y (.string a) (.string b)).run P w=.ok () w:=by simp[eqGuard]
 have I:¬(((a.size+b.size:Nat):Int) > IntKind.i64.max):=by
  rw[show IntKind.i64.max=9223372036854775807 from rfl];omega
 simp only[execOp,hx,E,Sem.run_bind,G,Result.andThen_ok,binOp_string_add,Op.stringOp,OT I,Sem.run_pure]
theorem QlX {a:Nat}(hx:ev f x=.int .u16 a)(E:ev f y=.int .u16 b)(G:a<65536)(I:b<65536):
  (execOp (ev f) ⟨d,.binOp .and t x y t',ty,pS,af,gd⟩).run P w=.ok (.value (.int .u16 ((a &&& b:Nat):Int))) w:=by
 refine Jv hx E ?_;have hi:inK .u16 ((a &&& b:Nat):Int):=by
  have:a &&& b<=a:=Nat.and_le_left;exact⟨oa,oa⟩
 simp only[binOp,Op.intBits,BitVec.ofInt_natCast,ne_eq,not_true_eq_false,if_false,Sem.run_pure];rw[BitVec.toNat_and,BitVec.toNat_ofNat,BitVec.toNat_ofNat,M9 (show a<2 ^ IntKind.u16.bits from G),M9 (show b<2 ^ IntKind.u16.bits from I),YR hi]
theorem Qfa {a:Nat}(E:a<65536)(G:b<65536):a ||| b<65536:=Nat.or_lt_two_pow (n:=16) E G
theorem Qd1 {a:Nat}(hx:ev f x=.int .u16 a)(I:ev f y=.int .u16 b)(E:a<65536)(G:b<65536):
  (execOp (ev f) ⟨d,.binOp .or t x y t',ty,pS,af,gd⟩).run P w=.ok (.value (.int .u16 ((a ||| b:Nat):Int))) w:=by
 refine Jv hx I ?_;have hi:inK .u16 ((a ||| b:Nat):Int):=by
  have:=Qfa E G;exact⟨oa,oa⟩
 simp only[binOp,Op.intBits,BitVec.ofInt_natCast,ne_eq,not_true_eq_false,if_false,Sem.run_pure];rw[BitVec.toNat_or,BitVec.toNat_ofNat,BitVec.toNat_ofNat,M9 (show a<2 ^ IntKind.u16.bits from E),M9 (show b<2 ^ IntKind.u16.bits from G),YR hi]
theorem Qix {k:IntKind}{a:Int}(hx:ev f x=.int k a)(E:ev f y=.int k' n)(G:n<=k.bits)(hi:inK k (a*2 ^ n)):
  (execOp (ev f) ⟨d,.binOp .shl t x y t',ty,pS,af,gd⟩).run P w=.ok (.value (.int k (a*2 ^ n))) w:=by
 refine Jv hx E ?_;have I:¬((n:Int)<0):=oa
 simp only[binOp,Op.shift,I,if_false,Ou,Nat.min_eq_left G,Sem.run_pure];rw[YR hi]
end
section
variable {P:O4}{ops:xE}{K:xz}{f:Fr}{w:O1}{d:xF}{ty:Nat}{pS:String}{af:xD}{gd:xt}{l:xE}
 {t e sz bys:Nat} {z:O2} {x y1 y2:O3} {L:LN} {v:O2} {n:Nat} {cs:LV} {H:xC} {k k':IntKind} {hi:Nat}
theorem Qiw [h:Sl P t e sz bys z](G:Zo L H v n sz cs)(hx:ev f x=v)(I:ev f y1=.int k hi)(J:ev f y2=.int k' hi)(V:hi<=n):
  ∃v',Zo L H v' hi sz (cs.take (hi*sz))/\∀w,(execOp (ev f) ⟨d,.slice t x none (some y1) (some y2),ty,pS,af,gd⟩).run P w=.ok (.value v') w:=by
 obtain⟨ii,O,_,Y,_⟩:=Sl.info h;rcases G.2.2 with⟨rfl,rfl⟩|⟨a,cap,rfl,hc,S⟩
 ·have T:hi=0:=oa
  subst T;refine⟨nS,?_,λw=>?_⟩
  ·rw[OP,List.take_zero];exact Zo.nil _ _ _
  simp[execOp,hx,I,J,Instr.sliceAt,Instr.slice,Instr.sliceBounds,Instr.sliceBound,asIntOf,run_underlying h.u,sizeOf,typeInfo,O]
 refine⟨.slice (some a) hi hi,⟨?_,ov G.2.1,.inr ⟨a,hi,U,Lv _,λu E=>S.out u (LU E),λu E=>S.lt u (LU E),λj u E=>?_⟩⟩,λw=>?_⟩
 ·rw[LA,G.1,Mj (LY _ V)]
 ·rw[LW]at E;split at E
  ·exact S.cell j u E
  cases E
 by_cases T:hi=0
 ·subst T;simp[execOp,hx,I,J,Instr.sliceAt,Instr.slice,Instr.sliceBounds,Instr.sliceBound,asIntOf,run_underlying h.u,sizeOf,typeInfo,O]
 simp[execOp,hx,I,J,Instr.sliceAt,Instr.slice,Instr.sliceBounds,Instr.sliceBound,asIntOf,run_underlying h.u,sizeOf,typeInfo,O,Addr.add];intro h9;omega
end
section
variable {l:xE}{C:xA}{pl:xu}
theorem xB {b:Bool}(E:(execOp (ev f) o).run P w=.ok (.value (.bool b)) w)(J:b=true->XL P ops K l (QN f o.dst (.bool true)) w)(O:b=false->XL P ops K l (QN f o.dst (.bool false)) w)
  (I:Z9 ops f o=true:=by rfl):XL P ops K (o::l) f w:=by
 cases G:b with
 | true=>rw[G]at E;exact x E (J G) I
 | false=>rw[G]at E;exact x E (O G) I
theorem pB {b:Bool}(E:∀w',(execOp (ev f) (QR ops i)).run P w'=.ok (.value (.bool b)) w')(J:b=true->XP P ops C K pl (QN f (QR ops i).dst (.bool true)) w)(O:b=false->XP P ops C K pl (QN f (QR ops i).dst (.bool false)) w)
  (I:Z9 ops f (QR ops i)=true:=by rfl):XP P ops C K ((i,true)::pl) f w:=by
 cases G:b with
 | true=>rw[G]at E;exact p E (J G) I
 | false=>rw[G]at E;exact p E (O G) I
theorem QjU {G:Prop}(b:Bool)(E:b=true->G)(I:b=false->G):G:=by cases h:b with|true=>exact E h|false=>exact I h
theorem bT {q:Prop}[Decidable q](h:q):true=decide q:=(OX h).symm
theorem bF {q:Prop}[Decidable q](h:¬q):false=decide q:=(OZ h).symm
theorem bD {q r:Prop}[Decidable q][Decidable r](h:q↔r):decide q=decide r:=decide_eq_decide.2 h
end
section
variable {pS:String}{x:O3}
theorem yy {q:Prop}[Decidable q](hx:ev f x=.bool (decide q)):(execOp (ev f) ⟨d,.unOp .not t x,ty,pS,af,gd⟩).run P w=.ok (.value (.bool (decide (¬q)))) w:=by
 rw[ZC hx];simp
end
structure Ko where
 nm:ByteArray
 co:Bool
 ob:Bool
 fo:Bool
 fl:Int
structure XC where
 nm:ByteArray
 a:Q6
structure qu where
 nm:ByteArray
 ls:xx
structure xL where
 nm:ByteArray
 ts:xx
 bd:Int
structure ZF where
 ev:List Ko
 co:List XC
 rq:List XC
 ex:List qu
 cs:List xL
def Vm (n:Nat):LI:=(oV n).map λi:Nat=>(i:Int)
def nmP (i c:Nat):Prop:=((97<=c/\c<=122)\/(65<=c/\c<=90)\/c=95)\/(i≠0/\48<=c/\c<=57)
instance (i c:Nat):Decidable (nmP i c):=by unfold nmP;infer_instance
def nmQ (s:ByteArray)(i:Nat):Bool:=decide (nmP i (chr s i))
def Xj (s:ByteArray):Bool:=(oS 0 s.size).all (nmQ s) && decide (0<s.size/\s.size<=32)
def Jy (seen:List ByteArray)(e:Ko):Int:=if Xj e.nm=false then 7 else if e.nm∈seen then 8 else if e.fl<0\/4<e.fl then 2 else if e.fl≠0/\(e.co || e.ob)=true then 13 else 0
def zk:List ByteArray->List Ko->Int
 | _,[]=>0
 | seen,e::l=>if Jy seen e≠0 then Jy seen e else zk (seen++[e.nm]) l
def Kt (l:List Ko):Int:=if 32<l.length then 3 else zk [] l
def ixs {α:Type}(q:α->Bool):Nat->List α->LI
 | _,[]=>[]
 | i,e::l=>if q e=true then(i:Int)::ixs q (i+1) l else ixs q (i+1) l
def unc (l:List Ko):LI:=ixs (λe=>!e.co) 0 l
def X5 (sz:LI):Option Int->List (Int×Int)->Int
 | _,[]=>0
 | pr,l::ls=>if l.1<0\/(sz.length:Int)<=l.1 then 2 else if jH pr l.1=true then 5 else if l.2<0\/O6 sz l.1.toNat<=l.2 then 2 else X5 sz (some l.1) ls
def Jp (sz:LI)(ls:xx):Int:=if ls.length=0 then 12 else X5 sz none ls
def grt (n:Int):Bool:=decide (n < -65536) || decide (65536<n)
def Kl (sz:LI):Option Int->List (Int×Int)->Int
 | _,[]=>0
 | pr,l::ls=>if l.1<0\/(sz.length:Int)<=l.1 then 2 else if jH pr l.1=true then 5 else if l.2=0\/grt l.2=true then 2 else Kl sz (some l.1) ls
def XJ (sz:LI)(k:xL):Int:=if k.ts.length=0 then 12 else if Kl sz none k.ts≠0 then Kl sz none k.ts else if grt k.bd=true then 2 else 0
def Ks (seen:List ByteArray)(s:ByteArray):Int:=if Xj s=false then 7 else if s∈seen then 8 else 0
def Yy (sz:LI):List ByteArray->List qu->Int
 | _,[]=>0
 | seen,x::l=>if Ks seen x.nm≠0 then Ks seen x.nm else if Jp sz x.ls≠0 then Jp sz x.ls else Yy sz (seen++[x.nm]) l
def Xf (sz:LI):List ByteArray->List xL->Int
 | _,[]=>0
 | seen,x::l=>if Ks seen x.nm≠0 then Ks seen x.nm else if XJ sz x≠0 then XJ sz x else Xf sz (seen++[x.nm]) l
def KP (n:Int):Bool:=decide (n<1) || decide (4096<n)
def YE (sz:LI)(ex:List qu)(cs:List xL):Int:=if 8<sz.length then 3 else if sz.any KP=true then 2 else if 32<ex.length\/32<cs.length then 3 else if Yy sz [] ex≠0 then Yy sz [] ex else Xf sz [] cs
def mns (a b:LI):LI:=mrg (λp q=>p && !q) a b
def VD (a:Q6):Bool:=decide (Jz a=0) && decide ((Yj a).st=a.st/\(Yj a).al=a.al/\(Yj a).mr=a.mr/\(Yj a).ed=a.ed)
def Yw (nev:Nat)(amg:LI)(seen:List ByteArray)(x:XC):Int :=
 if Xj x.nm=false then 7 else if x.nm∈seen then 8 else if Jz x.a≠0 then Jz x.a else if VD x.a=false then 6 else if x.a.st=0 then 12 else
 if(x.a.al.any λe=>decide ((nev:Int)<=e))=true then 2 else if(mns x.a.al amg).length≠0 then 9 else 0
def YC (nev:Nat)(al:LI):List ByteArray->LI->List XC->Int×List ByteArray×LI
 | s,u,[]=>(0,s,u)
 | s,u,x::l=>if Yw nev al s x≠0 then(Yw nev al s x,s,u)else YC nev al (s++[x.nm]) (mrg (· || ·) u x.a.al) l
def J1 (nev:Nat)(u:LI):List ByteArray->List XC->Int
 | _,[]=>0
 | s,x::l=>if Yw nev u s x≠0 then Yw nev u s x else J1 nev u (s++[x.nm]) l
def szs (l:List XC):LI:=l.map (·.a.st)
def O7 (l:List XC):List Q6:=l.map (·.a)
def Zj (c:ZF):Int :=
 if Kt c.ev≠0 then Kt c.ev else if c.co.length=0 then 12 else if 8<c.co.length\/12<c.co.length+c.rq.length then 3 else
 if(YC c.ev.length (Vm c.ev.length) [] [] c.co).1≠0 then(YC c.ev.length (Vm c.ev.length) [] [] c.co).1 else
 if J1 c.ev.length (YC c.ev.length (Vm c.ev.length) [] [] c.co).2.2 (YC c.ev.length (Vm c.ev.length) [] [] c.co).2.1 c.rq≠0 then J1 c.ev.length (YC c.ev.length (Vm c.ev.length) [] [] c.co).2.2 (YC c.ev.length (Vm c.ev.length) [] [] c.co).2.1 c.rq else
 YE (szs c.co) c.ex c.cs
def Un (t:LI)(x:qu):Bool:=x.ls.all λl=>decide (t.getD l.1.toNat 0=l.2)
def Qp6 (t:LI)(k:xL):Int:=k.ts.foldl (λs p=>s+p.2*t.getD p.1.toNat 0) 0
def qy (t:LI)(k:xL):Bool:=decide (k.bd<Qp6 t k)
def fix {α:Type}(q:α->Bool):Nat->List α->Int
 | _,[]=>-1
 | i,e::l=>if q e=true then(i:Int)else fix q (i+1) l
def vio (c:ZF)(t:LI):Option (Int×Int):=
 if 0<=fix (Un t) 0 c.ex then some (1,fix (Un t) 0 c.ex)else if 0<=fix (qy t) 0 c.cs then some (2,fix (qy t) 0 c.cs)else none
def rfr (v:Int):Nat->List XC->LI->Int
 | i,x::l,s::ss=>if v∈x.a.al/\(xo x.a.ed s v).isSome=false then(i:Int)else rfr v (i+1) l ss
 | _,_,_=>-1
structure Rsn where
 st:Int
 kd:Int
 ix:Int
 ev:Int
def rfd (c:ZF)(rs:LI):LI->Option (Int×Int)
 | []=>none
 | v::l=>if 0<=rfr v 0 c.rq rs/\(c.ev.getD v.toNat ⟨.empty,false,false,false,0⟩).co=false then some (rfr v 0 c.rq rs,v)else rfd c rs l
def Qha (a:Q6)(s:Int):LI:=(Z7 a.ed s).map (·.2.1)
def rsn (c:ZF)(pl:Q6)(plc:Int)(i:Nat)(t:LI):Option Rsn :=
 match vio c (t.take c.co.length)with
 | some (k,j)=>some ⟨i,k,j,-1⟩
 | none=>match rfd c (t.drop c.co.length) (Qha pl plc)with
  | some (j,v)=>some ⟨i,3,j,v⟩
  | none=>none
structure Spc where
 a:Q6
 co:List (LI)
 rq:List (LI)
 pl:LI
 fb:List Rsn
def plx (ps:List (LI))(t:LI):Int:=if t∈ps then(ps.idxOf t:Int)else 0
def Qoc (c:ZF)(pl:Q6)(ps:List (LI))(s:Spc)(p:LI×Nat):Spc :=
 ⟨s.a,s.co++[p.1.take c.co.length],s.rq++[p.1.drop c.co.length],s.pl++[plx ps (p.1.take c.co.length)],
  match rsn c pl (plx ps (p.1.take c.co.length)) p.2 p.1 with|some r=>s.fb++[r]|none=>s.fb⟩
def Y2 (c:ZF):Int:=if Zj c≠0 then Zj c else if qq (O7 c.co)≠0 then qq (O7 c.co)else match xp (O7 c.co)with
 | none=>3
 | some _=>if qq (O7 c.co++O7 c.rq)≠0 then qq (O7 c.co++O7 c.rq)else match xp (O7 c.co++O7 c.rq)with
  | none=>3
  | some _=>0
def syA (l:List Q6):Q6:=match xp l with|none=>⟨[],0,[],[]⟩|some z=>z.1
def syQ (l:List Q6):List (LI):=match xp l with|none=>[]|some z=>z.2
def spc (c:ZF):Spc:=(syQ (O7 c.co++O7 c.rq)).zipIdx.foldl (Qoc c (syA (O7 c.co)) (syQ (O7 c.co))) ⟨syA (O7 c.co++O7 c.rq),[],[],[],[]⟩
def IxQ {α:Type}(q:α->Bool)(es:List α)(r:O2):Prop:=(r=sS (-1)/\∀m (E:m<es.length),q (es[m]'E)=false)\/∃(i:Nat) (hi:i<es.length),r=sS i/\q (es[i]'hi)=true/\∀m (E:m<i),q (es[m]'oa)=false
theorem Qmw [Fu sV g fn]{cap:LV}{q:Ed->Bool}{v:O2}(h:zJ L w.heap v es)
  (T:∀(e:Ed) (G:O1),sX w G->QZ sV g ([sT (QA e)]++cap) G λr w'=>r=.bool (q e)/\sX G w'):
  QZ sV 333 [v,.func (.func g) #[] cap.toArray] w λr w'=>sX w w'/\IxQ q es r:=by
 have hb:=h.le;refine Zq func333 ?_;refine Qc<|Qb<|Qe<|Qj<|QF h U<|Qa<|xe<|Q8 (α:=Nat) [(4,5),(8,18)] (λz=>[(8,sS z)]) (λz w'=>z<=es.length/\sX w w'/\∀m (E:m<es.length),m<z->q (es[m]'E)=false) (λz=>es.length - z) 0 La ⟨Ln _,O5.Z _ _,λm _ V=>OW V (Nh m)⟩ ?_;rintro k g1 G ⟨hk1,H,J⟩;refine Zn rfl U (λY=>?_) (λY=>?_)
 ·refine Qw<|Qc<|Qb<|Qh ⟨[sS (-1)],La,H,.inl ⟨U,λm E=>J m E oa⟩⟩
 have I:k<es.length:=oa
 refine Qf<|Qe<|Qm<|Qj<|Qb<|Qj<|Qa<|Qa<|xie (h.I H) U U I λhc ha=>x (Qr ha U U)<|Qn<|xc (first:=[]) (capt:=cap) U<|(T (es[k]'I) G H).mono ?_;rintro r2 w2 ⟨rfl,S⟩;refine xe<|QU rfl (λO=>?_) (λO=>?_)
 ·refine Qj<|Qb<|Qh ⟨[sS k],La,H.D S,.inr ⟨k,I,U,O,λm E=>J m oa E⟩⟩
 refine Qf<|Qs<|QG U U<|Qa<|xe<|⟨k+1,oa,La,I,H.D S,λm E he=>?_⟩;by_cases e:m=k
 ·subst e;exact O
 exact J m E oa
theorem Qmv [Fu sV g fn]{cap:LV}{q:Int->Bool}{v:O2}{es:LI}(h:QL L w.heap v es)
  (T:∀(e:Int) (G:O1),sX w G->QZ sV g ([sS e]++cap) G λr w'=>r=.bool (q e)/\sX G w'):
  QZ sV 74 [v,.func (.func g) #[] cap.toArray] w λr w'=>sX w w'/\IxQ q es r:=by
 have hb:=h.le;refine Zq func74 ?_;refine Qc<|Qb<|Qe<|Qj<|QF h U<|Qa<|xe<|Q8 (α:=Nat) [(4,5),(8,18)] (λz=>[(8,sS z)]) (λz w'=>z<=es.length/\sX w w'/\∀m (E:m<es.length),m<z->q (es[m]'E)=false) (λz=>es.length - z) 0 La ⟨Ln _,O5.Z _ _,λm _ V=>OW V (Nh m)⟩ ?_;rintro k g1 G ⟨hk1,H,J⟩;refine Zn rfl U (λY=>?_) (λY=>?_)
 ·refine Qw<|Qc<|Qb<|Qh ⟨[sS (-1)],La,H,.inl ⟨U,λm E=>J m E oa⟩⟩
 have I:k<es.length:=oa
 refine Qf<|Qe<|Qm<|Qj<|Qb<|Qj<|Qa<|Qa<|xii (h.I H) U U I λhc ha=>x (Qy ha U)<|Qn<|xc (first:=[]) (capt:=cap) U<|(T (es[k]'I) G H).mono ?_;rintro r2 w2 ⟨rfl,S⟩;refine xe<|QU rfl (λO=>?_) (λO=>?_)
 ·refine Qj<|Qb<|Qh ⟨[sS k],La,H.D S,.inr ⟨k,I,U,O,λm E=>J m oa E⟩⟩
 refine Qf<|Qs<|QG U U<|Qa<|xe<|⟨k+1,oa,La,I,H.D S,λm E he=>?_⟩;by_cases e:m=k
 ·subst e;exact O
 exact J m E oa
theorem QfW [Fu sV g fn]{cap:LV}{q:Int->Bool}{v:O2}{es:LI}(h:QL L w.heap v es)
  (I:∀(e:Int) (G:O1),sX w G->QZ sV g ([sS e]++cap) G λr w'=>r=.bool (q e)/\sX G w'):
  QZ sV 150 [v,.func (.func g) #[] cap.toArray] w λr w'=>r=.bool (es.any q)/\sX w w':=by
 refine Zq func150 ?_;refine Qc<|Qb<|Qj<|Qa<|jB<|(Qmv h I).mono ?_;rintro T G ⟨H,E⟩;refine Or.elim E (λE=>?_) (λE=>?_)
 ·obtain⟨rfl,J⟩:=E;have e:es.any q=false:=by
   rw[NB];intro z O;obtain⟨i,hi,rfl⟩:=LP O;rw[J i hi];simp
  refine x (YA U U)<|Qb<|Qh ⟨[.bool false],La,by rw[e];rfl,H⟩
 obtain⟨i,hi,rfl,S,_⟩:=E;have e:es.any q=true:=Nq.2 ⟨_,Ll hi,S⟩;have e2:decide ((0:Int)<=(i:Int))=true:=od
 refine x (YA U U)<|Qb<|Qh ⟨[.bool (decide ((0:Int)<=(i:Int)))],La,by rw[e,e2];rfl,H⟩
theorem Qfe (es:List Ed)(s v:Int):xj es s v=xj (Z7 es s) s v:=by
 induction es with
 | nil=>rfl
 | cons e es ih =>
  unfold Z7 at *;rw[Mb];by_cases h:e.1=s
  ·rw[OU (oA h),xj,xj,ih]
  rw[OT (oA h),xj,OT (λc=>h c.1),ih]
theorem Qd6:∀(l:List Ed) (s v:Int) (i:Nat) (hi:i<l.length),(∀e∈l,e.1=s)->(l[i]'hi).2.1=v->(∀m (E:m<i),(l[m]'oa).2.1≠v)->xj l s v=(l[i]'hi).2.2
 | e::l,s,v,0,_,G,H,_=>by rw[xj,OU ⟨G e Lq,H⟩];rfl
 | e::l,s,v,i+1,hi,G,H,E=>by
  rw[xj,OT (λc=>E 0 oa c.2)];exact Qd6 l s v i (oA hi) (λe I=>G e (Lj _ I)) H (λm J=>E (m+1) oa)
theorem QiU:∀(l:List Ed) (s v:Int),(∀e∈l,e.2.1≠v)->xj l s v=-1
 | [],_,_,_=>rfl
 | e::l,s,v,h=>by rw[xj,OT (λc=>h e Lq c.2)];exact QiU l s v (λe E=>h e (Lj _ E))
theorem Qi1 {n:Int}(e:Ed)(w:O1)(G:QY w.heap b T [sS n]):
  QZ sV 334 ([sT (QA e)]++[sP b]) w λr w'=>r=.bool (decide (e.2.1=n))/\sX w w':=by
 refine Zq func334 ?_;refine Qc<|Zl (QA e) λb2 I E J H=>Qb<|Qc<|Qo U H U U<|Xn (G.I E) U U<|x (QT U U)<|Qb<|Qh ⟨[_],La,U,E⟩
theorem Qdv {st:Int}(h:zJ L w.heap ve a.ed)(H:ZK a)(s v:Int)(ha:0<=s)(J:s<a.st):
  QZ sV 300 [.agg #[va,sS st,vm,ve],sS s,sS v] w λr w'=>r=sS (xj a.ed s v)/\sX w w':=by
 have hh:=H.st1;refine Zq func300 ?_;refine Qc<|Zl [va,sS st,vm,ve] λb3 w1 J hj hb=>Zl [sS v] λb5 w2 O hk hc=>Qb<|Qc<|QS (hb.I O) U U<|Qa<|Qz<|(Qbn ((h.I J).I O) H.eds (λe E=>⟨(H.ed e E).1,ov (H.ed e E).2.1⟩) s ha oa).mono ?_;rintro vo w3 ⟨S,hE⟩;refine Qb ?_;have hf:∀e∈Z7 a.ed s,e.1=s:=λe E=>(ZV E).2;rw[Qfe];refine Qj<|x (ZD (l:=[]) (l':=[.tmp 5]))<|Qz<|(Qmw (q:=λe=>decide (e.2.1=v)) (cap:=[sP b5]) hE (λe T I=>Qi1 e T ((hc.I S).I I))).mono ?_;rintro r4 T ⟨I,G⟩;have V:=((J.D O).D S).D I;refine Or.elim G (λG=>?_) (λG=>?_)
 ·obtain⟨rfl,hq⟩:=G;have e1:xj (Z7 a.ed s) s v=-1:=QiU _ _ _ λe E=>by
   obtain⟨i,hi,rfl⟩:=LP E;simpa using hq i hi
  rw[e1];refine Qb<|Qe<|Qj<|Ya U U<|xe<|jq U ?_;refine Qc<|Qb<|Qh ⟨[sS (-1)],La,U,V⟩
 obtain⟨i,hi,rfl,h1,h2⟩:=G;have e1:xj (Z7 a.ed s) s v=((Z7 a.ed s)[i]'hi).2.2:=Qd6 _ s v i hi hf (oA h1) (λm hm=>oA (h2 m hm));rw[e1];refine Qb<|Qe<|Qj<|Ya U U<|xe<|QO U (λY=>OW Y oa) (λY=>?_);refine Qf<|Qj<|Qa<|xie (hE.I I) U U hi λhl hg=>x (Zf U)<|x (Qy (hg.fld 2 _ U) U)<|Qb<|Qh ⟨[_],La,U,V⟩
def flw (a:Q6):Int->LI->Int×Nat
 | s,[]=>(s,0)
 | s,v::u=>if xj a.ed s v<0 then(s,0)else((flw a (xj a.ed s v) u).1,(flw a (xj a.ed s v) u).2+1)
theorem Qov (E:ZK a){s v:Int}(h:¬xj a.ed s v<0):xj a.ed s v<a.st:=(E.ed _ (Qbp oa)).2.2.2.2
theorem Qg5 {vw:O2}{st:Int}(h:zJ L w.heap ve a.ed)(H:QL L' w.heap vw u)(S:ZK a)(s:Int)(ha:0<=s)(T:s<a.st):
  QZ sV 263 [.agg #[va,sS st,vm,ve],sS s,vw] w λr w'=>r=.tuple #[sS (flw a s u).1,sS (flw a s u).2]/\sX w w':=by
 have hi:=H.le;refine Zq func263 ?_;refine Qc<|Zl [va,sS st,vm,ve] λb3 w1 T hj hb=>x Qi<|Qb<|Qe<|Qj<|QF H U<|Qa<|xe<|Q8 (α:=Nat×Int) [(1,1),(6,10),(13,27)] (λz=>[(1,sS z.2),(13,sS z.1)]) (λz w'=>z.1<=u.length/\0<=z.2/\z.2<a.st/\sX w1 w'/\flw a s u=((flw a z.2 (u.drop z.1)).1,(flw a z.2 (u.drop z.1)).2+z.1)) (λz=>u.length - z.1) (0,s) oB ⟨Ln _,ha,by assumption,O5.Z _ _,od⟩ ?_;rintro⟨k,t⟩ g w2 ⟨hk,hc,he,O,E⟩;have I:=T.D O;refine Zn rfl U (λV=>?_) (λV=>?_)
 ·refine Qw<|Qj<|Qa<|QF H U<|x Qi<|Qb ?_;rw[Ls oa]at E;have hg:k=u.length:=by have hl:¬(k:Int)<(u.length:Int):=V;omega
  refine Qh ⟨[sS t,sS u.length],oB,?_,I⟩;rw[E,hg];simp[flw,tup]
 have G:k<u.length:=oa
 rw[Zc G,flw]at E;refine Qf<|Qe<|Qm<|Qj<|xii (H.I I) U U G λhm hh=>x (Qy hh U)<|x Qi<|Qb<|Qc<|QS (hb.I O) U U<|Qa<|Qa<|Qz<|(Qdv (h.I I) S t (u[k]'G) hc he).mono ?_;rintro r3 w3 ⟨rfl,Y⟩;refine Qb<|Qe<|Qj<|Ya U U<|xe<|QO rfl (λJ=>?_) (λJ=>?_)
 ·rw[OU J]at E;refine Qj<|Qa<|x Qi<|Qb<|Qh ⟨[sS t,sS k],oB,?_,I.D Y⟩;rw[E];simp[tup]
 rw[OT J]at E;refine Qf<|Qs<|Qa<|Qb<|Qs<|QG U U<|Qa<|xe<|⟨(k+1,xj a.ed t (u[k]'G)),og,oB,G,og,(Qov S J),O.D Y,?_⟩;simp only[];rw[E];simp;omega
def cks (a:Q6)(s:Int):Int:=if Jz a≠0 then Jz a else if s<0\/a.st<=s then 2 else 0
theorem Ku (h:ZM L w.heap va vm ve a)(s:Int):
  QZ sV 259 [.agg #[va,sS a.st,vm,ve],sS s] w λr w'=>r=sS (cks a s)/\sX w w':=by
 refine Zq func259 ?_;refine Qc<|Zl [va,sS a.st,vm,ve] λb2 V J Y O=>Qb<|Qe<|Qc<|QS O U U<|Qz<|(Jq (h.I J)).mono ?_;rintro r2 T ⟨rfl,S⟩;refine Qb ?_;unfold cks;have E:=J.D S;refine Qj<|Zx U U<|xe<|QO rfl (λG=>?_) (λG=>?_)
 ·refine Qj<|Qb<|Qh ⟨[_],La,by rw[OU G];rfl,E⟩
 rw[OT G];refine Qf<|Qe<|QX (α:=Unit) [(11,18)] (λz=>[(18,.bool (decide (s<0\/a.st<=s)))]) (λz w'=>w'=T) om ?_ ?_
 ·refine Qs<|Qa<|xb (YW U U) (λH=>?_) (λH=>?_)
  ·refine Qa<|Zu<|Kz<|QE U<|xe ?_;exact⟨(),⟨by rw[OX (Or.inl H)];rfl,Z⟩,U⟩
  refine Qa<|Qa<|Qo U (O.I S) U U<|x (YA U U)<|QE U<|xe ?_;exact⟨(),⟨by show Value.bool (decide (a.st<=s))=_;simp[H],Z⟩,rfl⟩
 rintro z g w3 rfl;refine QO rfl (λI=>?_) (λI=>?_)
 ·refine Qc<|Qb<|Qh ⟨[_],La,by rw[OU I];rfl,E⟩
 refine Qf<|Qc<|Qb<|Qh ⟨[_],La,by rw[OT I];rfl,E⟩
theorem Qde {s:Int}(h:cks a s=0):ZK a/\0<=s/\s<a.st:=by
 unfold cks at h;split at h
 ·rename_i E;exact OW h E
 rename_i E;split at h
 ·cases h
 rename_i G;exact⟨(Z5 a).1 (Lo.1 E),oa,oa⟩
theorem QlR (e:Int)(w:O1)(E:QY w.heap b T (va::us))(G:QL L w.heap va al):
  QZ sV 262 ([sS e]++[sP b]) w λr w'=>r=.bool (decide (e∉al))/\sX w w':=by
 refine Zq func262 ?_;refine Qc<|Qb<|Qc<|Qo U E U U<|Qa<|Qz<|(Yp G e).mono ?_;rintro H I ⟨rfl,rfl⟩;refine x (ZC U)<|Qb<|Qh ⟨[_],La,?_,O5.Z _ _⟩;show Value.bool (!decide (e∈al))=_;rw[decide_not]
def QlQ (a:Q6)(s:Int)(u:LI):Int:=if cks a s≠0 then cks a s else if(u.any λe=>decide (e∉a.al))=true then 9 else 0
theorem QpI {vw:O2}(h:ZM L w.heap va vm ve a)(T:QL L' w.heap vw u)(s:Int):
  QZ sV 201 [.agg #[va,sS a.st,vm,ve],sS s,vw] w λr w'=>sX w w'/\r=if QlQ a s u≠0 then .tuple #[sS 0,sS 0,sS (QlQ a s u)]else .tuple #[sS (flw a s u).1,sS (flw a s u).2,sS 0]:=by
 refine Zq func201 ?_;refine Qc<|Zl [va,sS a.st,vm,ve] λb3 w1 V hb J=>x Qi<|x Qi<|Qb<|Qe<|Qc<|QS J U U<|Qa<|Qz<|(Ku (h.I V) s).mono ?_;rintro r2 w2 ⟨rfl,O⟩;refine Qb ?_;have G:=V.D O;unfold QlQ;refine Qj<|Zx U U<|xe<|QO rfl (λE=>?_) (λE=>?_)
 ·refine Qj<|x Qi<|x Qi<|Qb<|Qh ⟨[_,_,_],oC,G,by rw[OU E,OU E];rfl⟩
 have hc:cks a s=0:=Lo.1 E;obtain⟨ho,h0,h1⟩:=Qde hc;rw[OT E];refine Qf<|Qe<|Qj<|x (ZD (l:=[]) (l':=[.tmp 3]))<|Qz<|(QfW (q:=λe=>decide (e∉a.al)) (cap:=[sP b3]) (T.I G) (λe Y H=>QlR e Y ((J.I O).I H) ((h.al.I G).I H))).mono ?_;rintro r3 w3 ⟨rfl,ha⟩;refine xe ?_;have I:=G.D ha;refine QU rfl (λS=>?_) (λS=>?_)
 ·rw[OU S];refine Qc<|x Qi<|x Qi<|Qb<|Qh ⟨[_,_,_],oC,I,by rw[OU ol];rfl⟩
 rw[OT (by rw[S];simp)];refine Qf<|Qc<|QS ((J.I O).I ha) U U<|Qa<|Qa<|Qz<|(Qg5 (h.ed.I I) (T.I I) ho s h0 h1).mono ?_;rintro r4 Y ⟨rfl,H⟩;refine Qa<|x (Zi U U) <|
  QW rfl rfl<|x Qi<|Qb<|Qj<|Qa<|x Qi<|x Qi<|Qb<|Qh ⟨[_,_,_],oC,I.D H,U⟩
def enb (a:Q6)(s:Int):LI:=(Z7 a.ed s).map (·.2.1)
theorem Qj0 {l:List Ed}{k:Nat}(h:k<l.length):(l.take (k+1)).map (·.2.1)=(l.take k).map (·.2.1)++[(l[k]'h).2.1]:=by
 rw[List.take_add_one,LF h,Lp];rfl
theorem QeO (h:ZM L w.heap va vm ve a)(s:Int):
  QZ sV 194 [.agg #[va,sS a.st,vm,ve],sS s] w λr w'=>sX w w'/\∃v,r=.tuple #[v,sS (cks a s)]/\(cks a s≠0->v=ZE)/\(cks a s=0->Qq 3 ↑w w' v (enb a s)):=by
 refine Zq func194 ?_;refine Qc<|Zl [va,sS a.st,vm,ve] λb2 w1 ha hz hf=>x Qi<|Qb<|Qe<|Qc<|QS hf U U<|Qa<|Qz<|(Ku (h.I ha) s).mono ?_;rintro r2 w2 ⟨rfl,hg⟩;refine Qb ?_;have O:=ha.D hg;refine Qj<|Zx U U<|xe<|QO rfl (λS=>?_) (λS=>?_)
 ·refine Qj<|x Qi<|Qb<|Qh ⟨[ZE,_],oB,O,ZE,U,λ_=>U,λe=>OW e S⟩
 have hc:cks a s=0:=Lo.1 S;obtain⟨G,h0,h1⟩:=Qde hc;have h2:=G.st1;rw[hc];refine Qf<|Qc<|Qb<|Qe<|Qc<|QS (hf.I hg) U U<|Qa<|Qz<|(Qbn (h.ed.I O) G.eds (λe he=>⟨(G.ed e he).1,ov (G.ed e he).2.1⟩) s h0 oa).mono ?_;rintro vo w3 ⟨hi,hE⟩;refine QF hE U<|Qa<|xe ?_;have hh:=O.D hi;have hj:=hh.size;have hl:=Vx a.ed s;have h3:=G.ed_le;refine Zh (Z7 a.ed s) λos H=>?_;rw[H]at hE hl;refine Q8 (α:=Nat×O2) [(7,7),(9,9),(20,29)] (λz=>[(7,z.2),(20,sS z.1)]) (λz w'=>z.1<=os.length/\sX w3 w'/\Qq 3 ↑w3 w' z.2 ((os.take z.1).map (·.2.1))) (λz=>os.length - z.1) (0,nS) ⟨U,by rw[H];rfl,Z⟩ ⟨Ln _,O5.Z _ _,QD _ _ _ _⟩ ?_;rintro⟨k,v⟩ g w4 ⟨hk,J,I⟩;simp only[]at hk I;have h4:=J.size;refine Zn rfl U (λT=>?_) (λT=>?_)
 ·refine Qw<|Qj<|x Qi<|Qb ?_;rw[Lt (by rw[H]at T;omega)]at I;refine Qh ⟨[v,_],oB,hh.D J,v,U,λe=>OW U e,λ_=>?_⟩;unfold enb;rw[H];exact Zz I hj
 have E:k<os.length:=by rw[H]at T;omega
 refine Qf<|Qe<|Qm<|Qc<|xie (hE.I J) U U E λh5 hm=>x (Qr hm U U)<|QM [sS 0,sS 0,sS 0] λb9 w5 hn hp hq=>QI (QA (os[k]'E)) hq oC λw6 hr hs =>
  xe ?_
 have V:sX w4 w6:=hn.O hr hp;have ht:=Qk I V;refine Qs<|Qa<|Qo U hs U U<|Qn<|Xx (us:=[[sS (os[k]'E).2.1]]) U U ol od ⟨rfl,rfl,Z⟩ λh6 w7 Y h7 hu=>?_;have hv:=Qk ht Y;have h8:=(V.D Y).size;have h9:((os.take k).map (·.2.1)).length<=131072:=by simp;omega
 refine Qn<|Q2 (news:=[sS (os[k]'E).2.1]) (L:=[]) hv U U U (hu.at od) oq oa oa λv8 w8 hw hy hA=>Qb<|Qs<|QG rfl rfl<|Qa<|xe<|⟨(k+1,v8),og,oB,E,((J.D V).D Y).then hy (λb hb=>.inr ((Qg I) b hb).1),?_⟩;simp only[];rw[Qj0 E];exact Qq.snoc hw
theorem QdF {v:O2}(h:QL L w.heap v l)(n:Int):
  QZ sV 196 [v,sS n] w λr w'=>r=sS (KK n none l)/\w'=w:=by
 have hc:=h.le;refine Zq func196 ?_;refine Qc<|Qb<|Qe<|Qj<|QF h U<|Qa<|xe<|Q8 (α:=Nat) [(4,6),(9,32)] (λk=>[(9,sS k)]) (λk w'=>w'=w/\k<=l.length/\KK n (pv l k) (l.drop k)=KK n none l) (λk=>l.length - k) 0 La ⟨U,Ln _,U⟩ ?_;rintro k g S ⟨rfl,hk,E⟩;refine Zn rfl U (λT=>?_) (λT=>?_)
 ·refine Qw<|Qc<|Qb<|Qh ⟨[sS 0],La,?_,U⟩;rw[<-E,Ls oa];rfl
 have G:k<l.length:=oa
 rw[(Zc G),KK]at E;refine Qf<|Qe<|Qm<|Qj<|xii h U U G λhe V=>x (Qy V U)<|x Qi<|Qb<|Qe<|QX (α:=Bool) [(14,20)] (λz=>[(20,.bool z)]) (λz w'=>w'=S/\z=decide (l[k]<0\/n<=l[k])) om ?_ ?_
 ·refine Qs<|Qa<|xb (YW U U) (λH=>?_) (λH=>?_)
  ·refine Qa<|Zu<|QE U<|xe ?_;exact⟨true,La,U,by simp[H]⟩
  refine Qa<|Qa<|Qa<|x (YA U U)<|QE U<|xe ?_;exact⟨_,La,U,by simp[H]⟩
 rintro z g Y ⟨rfl,rfl⟩;refine QO rfl (λI=>?_) (λI=>?_)
 ·refine Qc<|Qb<|Qh ⟨[sS 2],La,?_,U⟩;rw[<-E,OU I];rfl
 rw[OT I]at E;refine Qf<|QX (α:=Bool) [(21,31)] (λz=>[(31,.bool z)]) (λz w'=>w'=Y/\z=jH (pv l k) l[k]) om ?_ ?_
 ·refine Qs<|Qa<|xb (Yd U U) (λha=>?_) (λha=>?_)
  ·have hk1:((k:Int) - 1)=((k - 1:Nat):Int):=oa
   refine Qa<|Qa<|Qa<|Qa<|x (Jk U U ⟨oa,oa⟩)<|xii (i:=k - 1) h U (by show Value.int _ ((k:Int) - 1)=_;rw[hk1]) oa λhf hb=>x (Qy hb rfl)<|x (Vg rfl rfl)<|QE rfl<|xe<|⟨_,La,U,?_⟩;have:pv l k=some l[k - 1]:=by
    have J:k≠0:=oa
    simp[pv,J,show k - 1<l.length by omega]
   rw[this];rfl
  refine Qa<|Zu<|Zu<|Kz<|QE U<|xe ?_;have J:k=0:=oa
  exact⟨false,La,U,by simp[pv,J,jH]⟩
 rintro z g w3 ⟨rfl,rfl⟩;refine QU rfl (λO=>?_) (λO=>?_)
 ·refine Qc<|Qb<|Qh ⟨[sS 5],La,?_,U⟩;rw[<-E,OU O];rfl
 rw[OT (by simp[O])]at E;refine Qf<|Qs<|QG U U<|Qa<|xe ?_;exact⟨k+1,oa,La,U,oa,by rw[VS G];exact E⟩
open Go.RowKit
def upY (P:O4)(m:Nat)(dst:xF)(f:Fr)(K:xz):Result Next->Prop
 | .ok (.value v) w'=>K (QN f dst v) w'
 | .ok .skip w'=>K (QN f dst undef) w'
 | .ok (.enter g args) w'=>Calls P g args w' λe E=>match e with| .returned v=>K (QN f dst v) E|_=>False
 | .ok (.round l fn tmps assign body) w'=>RoundIn (fen none) (m - 1) P l fn tmps assign body w' λe E=>match e with| .returned v=>K (QN f dst v) E|_=>False
 | _=>False
def XOY (P:O4)(m:Nat)(o:Oper)(f:Fr)(w:O1)(K:xz):Prop:=upY P m o.dst f K ((execOp (ev f) o).run P w)
def J7 (P:O4)(m:Nat)(ops:xE)(K:xz):xE->Fr->O1->Prop
 | [],f,w=>K f w
 | o::l,f,w=>bif Z9 ops f o then XOY P m o f w (J7 P m ops K l)else J7 P m ops K l (QN f o.dst undef) w
section
variable {m:Nat}
theorem XOY.of_XO {K':xz}(hK:∀f w,K f w->K' f w)(h:XO P o f w K):XOY P m o f w K':=by
 unfold XO at h;unfold XOY;generalize (execOp (ev f) o).run P w=r at h;cases r with
 | ok nx w' =>
  cases nx <;> simp only[upF]at h <;> simp only[upY]
  case value v=>exact hK _ _ h
  case skip=>exact hK _ _ h
  case enter g args =>
   refine Calls.mono h λe G E=>?_;cases e with
   | returned v=>exact hK _ _ E
   | panicked c=>exact E.elim
   | outgrown=>exact E.elim
 | halt x w'=>exact h.elim
theorem J7.pre {ops:xE}{K:xz}{l2:xE}:∀(E:xE) (f:Fr) (w:O1),XL P ops (λf w=>J7 P m ops K l2 f w) E f w->J7 P m ops K (E++l2) f w
 | [],f,w,h=>by unfold XL at h;exact h
 | o::E,f,w,h=>by
  unfold XL at h;show(bif Z9 ops f o then XOY P m o f w (J7 P m ops K (E++l2))else J7 P m ops K (E++l2) (QN f o.dst undef) w);cases G:Z9 ops f o with
  | false=>rw[G]at h;exact J7.pre E _ _ h
  | true=>rw[G]at h;exact XOY.of_XO (λf w h=>J7.pre E f w h) h
theorem J7.pre2 {o1 o2:Oper}{l2:xE}(h:XL P ops (λf w=>J7 P m ops K l2 f w) [o1,o2] f w):J7 P m ops K (o1::o2::l2) f w:=J7.pre [o1,o2] f w h
theorem J7.of_XL {l:xE}(h:XL P ops K l f w):J7 P m ops K l f w:=by
 have:=J7.pre (m:=m) (l2:=[]) l f w h
 rwa [LR]at this
theorem QkP {a:Act}{K':Act->O1->Prop}{Q:Exit->Act->O1->Prop}(h:Xm n ds a f)
  (hK:∀v w',K (QN f o.dst v) w'->K' (a.put o.dst v) w') (hx:XOY P m o f w K):o.wpIn (fen none) m P a w K' Q:=by
 unfold XOY at hx;refine⟨λ_ _=>trivial,?_⟩;have e:Oper.semAt (fen none).round a.eval o=execOp (ev f) o:=by rw[h.eval];rfl
 rw[e];generalize (execOp (ev f) o).run P w=r at hx;cases r with
 | ok nx w' =>
  cases nx <;> simp only[upY]at hx <;> simp only[Oper.uponIn]
  case value v=>exact hK v w' hx
  case skip=>exact hK _ w' hx
  case enter g args =>
   refine⟨λh=>by simp[Fence.wide]at h,?_⟩;refine(callsIn_wide (n:=m - 1)).2 (Calls.mono hx λe G E=>?_);cases e with
   | returned v=>exact hK v G E
   | panicked c=>exact E.elim
   | outgrown=>exact E.elim
  case round l fn tmps assign body =>
   refine⟨λh=>by simp[Fence.wide]at h,?_⟩;refine RoundIn.mono hx λe G E=>?_;cases e with
   | returned v=>exact hK v G E
   | panicked c=>exact E.elim
   | outgrown=>exact E.elim
 | halt x w'=>exact hx.elim
theorem Qdx {Q:Exit->LN->Fr->O1->Prop}{all:xE}(G:∀o∈all,∀d,o.dst=some d->d<n)(f0:Fr):
  ∀(l:xE) (k:Nat) (a:Act) (f:Fr) (w:O1),(∀j,l[j]?=all[k+j]?)->Xm n ds a f->(∀t,Yl all t=false->f t=f0 t) ->
   J7 P m all (λf w=>Q .normal ds f w) l f w ->
   wpOpsIn (fen none) m P all.toArray (λe V w'=>∃ds' f',Xm n ds' V f'/\(∀t,Yl all t=false->f' t=f0 t)/\Q e ds' f' w') (oS k l.length) a w
 | [],_,a,f,w,_,E,H,h=>⟨ds,f,E,H,by unfold J7 at h;exact h⟩
 | o::l,k,a,f,w,J,E,H,h=>by
  have O:all[k]?=some o:=by simpa using(J 0).symm
  have I:o∈all:=Ms O;have ih:=λa f w=>Qdx (Q:=Q) G f0 l (k+1) a f w (λj=>by have:=J (j+1);simpa[ON,Nat.add_comm 1 j]using this);have next:∀v,(∀t,Yl all t=false->QN f o.dst v t=f0 t):=λv t S=>(Y1 (JS I S) v).D (H t S);simp only[oX,OC,wpOpsIn,o0,O];rw[Um E G o];unfold J7 at h;cases T:Z9 all f o with
  | false =>
   rw[T]at h;exact⟨λ_ _=>trivial,ih _ _ _ (E.put (G o I) _) (next _) h⟩
  | true =>
   rw[T]at h;exact QkP E (λv w' hx=>ih _ _ _ (E.put (G o I) v) (next v) hx) h
theorem V7 {Q:Exit->LN->Fr->O1->Prop}{l:xE}(E:XI n l=true)(h:J7 P m l (λf w=>Q .normal ds f w) l f w):WG none m P n (.region id l.toArray false) Q ds f w:=by
 unfold WG;intro a G;refine wpIn_region ?_;have:=Qdx (m:=m) (Xy E) f l 0 a f w od G (λ_ _=>rfl) h;simpa[List.range_eq_range',Js]using this
theorem xy {rest:xE}{pS:String}{x:O3}{l:Nat}{R:Ending->O1->Prop}
  (hx:ev f x=.func (.yield l) #[] #[]) (E:YieldAt (fen none) (m - 1) P l #[ev f y] w R) (hK:∀e w',R e w'->∃v,e=.returned v/\J7 P m ops K rest (QN f d v) w')
  (G:Z9 ops f ⟨d,.call ⟨.value x,#[y],at_⟩,ty,pS,af,gd⟩=true:=by rfl):
  J7 P m ops K (⟨d,.call ⟨.value x,#[y],at_⟩,ty,pS,af,gd⟩::rest) f w:=by
 obtain⟨fn,tmps,assign,body,H,I⟩:=E;have J:(execOp (ev f) ⟨d,.call ⟨.value x,#[y],at_⟩,ty,pS,af,gd⟩).run P w=.ok (.round l fn tmps assign body) w:=by
  simp[execOp,resolve,hx,Deferred.ofValue,invoke,H]
 unfold J7;rw[G];simp only[XOY,J,upY,cond_true];exact I.mono λe w' h=>by obtain⟨v,rfl,O⟩:=hK e w' h;exact O
end
attribute [irreducible] J7
structure Lw (B:Nat)(L:LN)(w w':O1):Prop where
 os:w'.os=w.os
 tape:w'.tape=w.tape
 output:w'.output=w.output
 size:w.heap.size<=↑w'
 low:∀k,k<B->k∉L->w'.heap[k]?=w.heap[k]?
theorem Lw.refl (B:Nat)(L:LN)(w:O1):Lw B L w w:=⟨U,U,U,Lv _,λ_ _ _=>U⟩
theorem Lw.D {B:Nat}{L:LN}{E w w':O1}(h:Lw B L E w)(k:Lw B L w w'):Lw B L E w' :=
 ⟨k.os.D h.os,k.tape.D h.tape,k.output.D h.output,LH h.size k.size,λi hi G=>(k.low i hi G).D (h.low i hi G)⟩
theorem O5.lw {E:O1}(h:O5 L w w')(k:Lw ↑w L w' E):O5 L w E :=
 ⟨k.os.D h.os,k.tape.D h.tape,k.output.D h.output,LH h.size k.size,λi hi G=>(k.low i hi G).D (h.block i hi G)⟩
structure Ve (B:Nat)(L:LN)(W W':O1):Prop where
 lw:Lw B L W W'
 other:∀(k:Nat) (o:Obj),W.heap[k]?=some o->o.isCells=false->W'.heap[k]?=some o
theorem Ve.refl (B:Nat)(L:LN)(w:O1):Ve B L w w:=⟨Lw.refl _ _ _,λ_ _ h _=>h⟩
theorem Ve.D {B:Nat}{L:LN}{E w w':O1}(h:Ve B L E w)(k:Ve B L w w'):Ve B L E w':=⟨h.lw.D k.lw,λi o hi G=>k.other i o (h.other i o hi G) G⟩
theorem Ve.J {W:O1}(h:O5 X W W')(S:B<=↑W)(H:∀b∈X,(b∈L\/B<=b)/\∃o:Obj,W.heap[b]?=some o/\o.isCells=true):Ve B L W W':=by
 refine⟨⟨h.os,h.tape,h.output,h.size,λk G J=>h.block k oa (λhx=>?_)⟩,λk o G O=>?_⟩
 ·rcases(H k hx).1 with E|E
  ·exact J E
  omega
 refine(h.block k (LJ.1 G).1 (λhx=>?_)).D G;obtain⟨T,E,I⟩:=(H k hx).2;rw[G]at E;cases E;rw[O]at I;cases I
theorem Ve.I {W:O1}(h:sX W W')(E:B<=↑W):Ve B L W W':=Ve.J h E (λ_ G=>by cases G)
theorem QY.cells (h:QY H b T cs):∃o:Obj,H[b]?=some o/\o.isCells=true:=⟨_,h,U⟩
theorem Ve.blk {W:O1}(h:O5 [b] W W')(E:B<=↑W)(G:QY W.heap b T cs)(H:b∈L\/B<=b):Ve B L W W' :=
 Ve.J h E (λc I=>by
  have e:c=b:=by simpa using I
  subst e;exact⟨H,G.cells⟩)
def YH (B:Nat)(I:xA):Prop:=∀W W' X,I W->O5 X W W'->(∀r∈X,B<=r/\∃o:Obj,W.heap[r]?=some o/\o.isCells=false)->I W'
theorem YH.own {I:β->O1->Prop}(h:∀s,YH B (I s)):OwnFrom B I:=λs W W' row G H J =>
 h s W W' _ G (O5.of_grown H) (λr E=>J r (by cases row <;> simp at E ⊢;exact E.symm))
theorem YH.blk :YH B (λW=>QY W.heap b T cs):=λW W' X h G H=>h.J G (λI=>by
 obtain⟨_,o,E,J⟩:=H b I;unfold QY at h;rw[h]at E;cases E;cases J)
theorem YH.and {I J:xA}(h:YH B I)(k:YH B J):YH B (λW=>I W/\J W):=λW W' X hi E G=>⟨h W W' X hi.1 E G,k W W' X hi.2 E G⟩
theorem YH.ex {I:β->O1->Prop}(h:∀z,YH B (I z)):YH B (λW=>∃z,I z W):=λW W' X ⟨z,hi⟩ E G=>⟨z,h z W W' X hi E G⟩
theorem YH.pure (p:Prop):YH B (λ_=>p):=λ_ _ _ h _ _=>h
theorem YH.J (I:↑w<=B):YH B (λW=>O5 L w W):=λW W' X h E G=>h.then E (λb H=>.inr (ov (G b H).1))
theorem QV {base e:Nat}{v:O2}(h:w.ownsRow base e sz v n cs):∀b∈ob v,∃o:Obj,w.heap[b]?=some o/\o.isCells=true:=by
 intro b E;rcases h.2 with⟨G,_⟩|⟨g,cap,cur,G,I,H,_⟩
 ·subst G;simp[ob]at E
 subst G;simp[ob]at E;subst E;exact⟨_,H,U⟩
theorem YH.row {base e:Nat}{v:O2}:YH B (λW=>W.ownsRow base e sz v n cs):=λW W' X h H I=>Qd h H (λb J hx=>by
 obtain⟨_,o,O,S⟩:=I b hx;obtain⟨T,E,G⟩:=QV h b J;rw[O]at E;cases E;rw[S]at G;cases G)
theorem Qnu {m:Nat}{Q:Exit->LN->Fr->O1->Prop}{g:O3}{p:Nat}{assign body:Code}(L:LN)(V:1<=m)
    [hF:Fu P gf fn]  (hg:ev f g=.func (.func gf) #[] capt.toArray) {enc:α->O2} {S:List α->Prop}  (hp:p<n)
  (he:SeqStopsK (fen none) (m - 1) P gf capt.toArray (λx=>#[enc x]) (Lw ↑w L) S (λ_=>True) N w)
  (I:List α->O1->Prop) (hI:∀s,YH ↑w (I s)) (h0:I [] w) (A:Fr->α->Fr->O1->Prop) (hA:∀x E,YH ↑w (A f x E))
  (hb:∀l pre x W,I pre W->WG (some l) (m - 1 - 1) P n assign (QdO (λY E W'=>Y=[]/\Ve ↑w L W W'/\I pre W'/\A f x E W') (λ_ _ _ _=>False)) [] (upd f p (enc x)) W)
  (hc:∀l pre x E W,I pre W->A f x E W->pre.length<N->WG (some l) (m - 1 - 1) P n body (QdO (λ_ _ W'=>Ve ↑w L W W'/\I (pre++[x]) W') (λ_ _ _ _=>False)) [] E W)
  (hf:∀D xs W,↑w<=D->S xs->I xs W->W.heap[D]?=some (.deferred (some []))->Q .normal (D::ds) f W):
  WG none m P n (.rangeFunc g #[p] assign body) Q ds f w:=by
 unfold WG at hb hc ⊢;intro a O;have eg:∀args w,(callFunc gf args).run P w=.ok (.enter gf args) w:=by
  intro args w;have V:¬fn.name = "runtime.NumGoroutine" := by simpa using hF.nm
  have J:¬fn.body=none:=by have:=hF.b;intro e;rw[e]at this;cases this
  simp[callFunc,hF.f,V,J]
 have keep:∀{W W':O1},Ve ↑w L W W'->KeepsFrom ↑w W W':=λh=>⟨h.lw.size,λk o _ hk ho=>h.other k o hk ho⟩;refine wpIn_rangeFunc_ownH (F:=fen none) U V (gf:=gf) (lb:=capt.toArray) (by rw[O.eval];exact hg) Z eg he (λh k=>h.D k)
  (λW l o o' hl ho _ _=>⟨U,U,U,od,λk hk _=>World.putObj_heap_other oa⟩) (Below.refl _ _) (λ_=>rfl) I (λ_ _ _=>False) (YH.own hI) (λ_ _ _ _ _ hs _ _=>hs) h0
  (λx T W=>∃E,Xm n [] T E/\A f x E W) (λx T=>YH.own λ_=>YH.ex λE=>YH.and (YH.pure _) (hA x E)) ?_ ?_ ?_ ?_
 ·intro l pre x W K hi hK;have hr:Xm n [] { tmps:=((#[p]:Array Nat).zip #[enc x]).foldl (λt (p,v)=>t.setIfInBounds p v) a.tmps,defers:=[] } (upd f p (enc x)):=by
   have J:Xm n [] { a with defers:=[] } f:=⟨O.size,U,O.get⟩
   have G:=J.put (dst:=some p) (λd e=>by cases e;exact hp) (enc x);have e:((#[p]:Array Nat).zip #[enc x]).foldl (λt (p,v)=>t.setIfInBounds p v) a.tmps=a.tmps.setIfInBounds p (enc x):=od
   rw[e];exact G
  refine wpIn_mono (hb l pre x W hi _ hr) ?_;rintro e T W' ⟨Y,E,J,_,G⟩;cases e with
  | normal=>obtain⟨rfl,h4,H,h6⟩:=G;exact hK T W' (keep h4) h4.lw H ⟨E,J,h6⟩
  | exit id=>exact G.elim
  | goto l=>exact G.elim
  | ret=>exact G.elim
  | panic ch=>exact G.elim
  | outgrown=>exact G.elim
 ·rintro l pre x T W _ _ hi ⟨E,J,G⟩ hh;refine wpIn_mono (hc l pre x E W hi G hh T J) ?_;rintro e hj W' ⟨Y,hm,h4,_,H⟩;cases e with
  | normal=>exact⟨keep H.1,H.1.lw,H.2⟩
  | exit id=>exact H.elim
  | goto l=>exact H.elim
  | ret=>exact H.elim
  | panic ch=>exact H.elim
  | outgrown=>exact H.elim
 ·intro D xs W hD hS hi hd;exact⟨D::ds,f,⟨O.size,by rw[show coll (D::ds)={ target:=.collected D,args:=#[] }::coll ds from rfl,O.defers],O.get⟩,λ_ _=>rfl,hf D xs W hD hS hi hd⟩
 intro D c pre W _ _ h _;exact h.elim
def Qpx (P:O4)(t:Nat):Option (LV×xw):=match P.info? t,P.underlying t with
 | some it,some (.struct fs)=>match it.zero,fs.toList.mapM (λf=>(P.info? f.type).map λi=>(f.offset,i.size))with
  | some (.agg zs),some pl=>some (zs.toList,pl)
  | _,_=>none
 | _,_=>none
class Bw (P:O4)(t:Nat)(zs:outParam (LV))(pl:outParam xw):Prop where
 h:Qpx P t=some (zs,pl):=by first|kernel_rfl|decide|rfl|exact sY (by kernel_rfl)
 b:pl.all (λx=>x.1+x.2<=zs.length)=true:=by first|kernel_rfl|decide|rfl|exact sY (by kernel_rfl)
def Qch:LV->Nat->LV->LV
 | zs,_,[]=>zs
 | zs,o,u::us=>Qch (zs.set o u) (o+1) us
def QkK (pl:xw)(zs:LV):List (Nat×LV)->LV
 | []=>zs
 | (j,us)::ps=>QkK pl (Qch zs (pl.getD j (0,0)).1 us) ps
def QnA:List (Nat×O2)->List (Nat×LV)->Prop
 | [],[]=>True
 | (j,v)::vs,(j',us)::uss=>v.cells=us.toArray/\j=j'/\QnA vs uss
 | _,_=>False
theorem Qcg:∀(us zs:LV) (o:Nat),(Qch zs o us).length=zs.length
 | [],_,_=>rfl
 | u::us,zs,o=>by rw[Qch,Qcg us,L9]
theorem j8 (o:Nat):∀(us:LV) (k:Nat) (zs:LV),(us.zipIdx k).foldl (λ(cs:Array O2) (x:O2×Nat)=>cs.setIfInBounds (o+x.2) x.1) zs.toArray=(Qch zs (o+k) us).toArray
 | [],_,_=>rfl
 | u::us,k,zs=>by
  rw[NI,L4,Qch];have:=j8 o us (k+1) (zs.set (o+k) u);rw[<-List.setIfInBounds_toArray]at this;exact this
theorem QjG {pl:xw}:∀(vs:List (Nat×O2)) (uss:List (Nat×LV)) (zs:LV),QnA vs uss->uss.all (λp=>p.1<pl.length && (p.2.length == (pl.getD p.1 (0,0)).2))=true ->
  (∀x∈pl,x.1+x.2<=zs.length)->Instr.fill (pl.toArray[·]?) zs.toArray vs=some (QkK pl zs uss).toArray
 | [],[],zs,_,_,_=>rfl
 | [],_::_,_,h,_,_=>h.elim
 | _::_,[],_,h,_,_=>h.elim
 | (j,v)::vs,(j',us)::uss,zs,H,G,I=>by
  obtain⟨S,rfl,H⟩:=H;simp only[oU,oM,decide_eq_true_eq,beq_iff_eq]at G;obtain⟨⟨E,J⟩,G⟩:=G;have O:pl.getD j (0,0)=pl[j]'E:=by simp[oR,E]
  have T:=I _ (Ll E);unfold Instr.fill;simp only[o0,Og E,S];rw[O]at J;rw[OT (by simp only[Od,J,ne_eq,not_true,decide_false,Bool.false_or,decide_eq_true_eq];omega)];have e:=j8 (pl[j]'E).1 us 0 zs;rw[Nl]at e;have e2:(us.toArray.zipIdx).foldl (λ(cs:Array O2) (x:O2×Nat)=>cs.setIfInBounds ((pl[j]'E).1+x.2) x.1) zs.toArray=(Qch zs (pl[j]'E).1 us).toArray:=by
   rw[<-e];simp
  rw[e2,QkK,O];simpa only[o0]using(QjG vs uss (Qch zs (pl[j]'E).1 us) H G (λx hx=>by rw[Qcg];exact I x hx))
theorem QeB {zs:LV}{pl:xw}(h:Qpx P t=some (zs,pl))(I:pl.all (λx=>x.1+x.2<=zs.length)=true)(vs:List (Nat×O2))(uss:List (Nat×LV))(J:QnA vs uss)
  (O:uss.all (λp=>p.1<pl.length && (p.2.length == (pl.getD p.1 (0,0)).2))=true):P.built t vs=some (QkK pl zs uss).toArray:=by
 have S:∀x∈pl,x.1+x.2<=zs.length:=λo T=>oA (Mg.1 I o T)
 unfold Qpx at h;unfold Program.built;cases hi:P.info? t with
 | none=>simp[hi]at h
 | some it =>
  cases H:P.underlying t with
  | none=>simp[hi,H]at h
  | some dd =>
   simp only[hi,H]at h;cases dd <;> simp only[]at h <;> try (cases h)
   case struct fs =>
    cases E:it.zero with
    | none=>simp[E]at h
    | some z =>
     cases z <;> simp only[E]at h <;> try (cases h)
     rename_i za;cases G:fs.toList.mapM (λf=>(P.info? f.type).map λi=>(f.offset,i.size))with
     | none=>simp[G]at h
     | some pl' =>
      simp only[G,Option.some.injEq,Prod.mk.injEq]at h;obtain⟨rfl,rfl⟩:=h;simp only[E,G,Value.cells];exact QjG vs uss za.toList J O S
theorem Q5 {pS:String}{zs:LV}{pl:xw}[h:Bw P t zs pl]{parts:List (Nat×O3)}(uss:List (Nat×LV))
  (E:QnA (parts.map λx=>(x.1,ev f x.2)) uss) (G:uss.all (λp=>p.1<pl.length && (p.2.length == (pl.getD p.1 (0,0)).2))=true:=by rfl):
  (execOp (ev f) ⟨d,.build t parts.toArray,ty,pS,af,gd⟩).run P w=.ok (.value (sT (QkK pl zs uss))) w:=by
 simp only[execOp,Sem.run_bind,(run_build (P:=P) w t (parts.toArray.map λ(i,x)=>(i,ev f x)) _ (by simpa using(QeB h.h h.b _ uss E G))),Result.andThen_ok,Sem.run_pure]
def cnE (p:Ed->Bool)(es:List Ed):Int:=((es.filter p).length:Int)
def gA (n:Nat)(f:Nat->Int):LI:=(oV n).map f
theorem Qo6 (n:Nat)(f:Nat->Int):(gA n f).length=n:=by simp[gA]
theorem QjB {f:Nat->Int}(h:i<(gA n f).length):(gA n f)[i]'h=f i:=by simp[gA]
theorem Qo5 {f g:Nat->Int}{u:Int}(G:u=g i)(h:∀j,j<n->j≠i->g j=f j):(gA n f).set i u=gA n g:=by
 apply Mu
 ·simp[gA]
 intro k H E;rw[M7,QjB E];by_cases e:i=k
 ·rw[OU e,G,e]
 rw[OT e,QjB];exact(h k (by simpa[gA]using E) (Ne.symm e)).symm
def fS (es:List Ed)(s:Nat):Int:=cnE (λe=>decide (e.1<(s:Int))) es
section
variable {pS:String}
theorem QiR [h1:X6 P t]{x:O3}{g E:Nat->Int}{u:Int}(G:QY w.heap b T ((gA n g).map (.int .i64)))(hx:ev f x=.pointer (some ⟨b,0+i*1,none⟩))(H:ev f y=sS u)(hi:i<n)(I:(gA n g).set i u=gA n E)
  (hK:∀w',O5 [b] w w'->QY w'.heap b T ((gA n E).map (.int .i64))->K (QN f d undef) w'):XO P ⟨d,.store t x y,ty,pS,af,gd⟩ f w K :=
 KB G hx H (by rw[Qo6];exact hi) λw' J O=>hK w' J (by rw[<-I];exact O)
end
open Go.RowKit
section
variable {pS:String}{l:xE}
end
def Uo {α:Type}(f:Nat->α)(i:Nat)(x:α):Nat->α:=λj=>if j=i then x else f j
theorem Yz (f:Nat->α)(i:Nat)(x:α):Uo f i x i=x:=by simp[Uo]
theorem Y4 (f:Nat->α)(x:α)(h:j≠i):Uo f i x j=f j:=by simp[Uo,h]
theorem Qh2 (k:α->β)(n:Nat)(f:Nat->α)(i:Nat)(x:α):((oV n).map λj=>k (f j)).set i (k x)=(oV n).map λj=>k (Uo f i x j):=by
 apply Mu
 ·simp
 intro j E G;rw[M7];by_cases e:i=j
 ·subst e;simp[Yz]
 rw[OT e];simp[Y4 _ _ (Ne.symm e)]
structure Uk (base:Nat)(w:O1)(n:Nat)(f:Nat->O2)(g:Nat->LI):Prop where
 own:∀i,i<n->Qq 3 base w (f i) (g i)
 dj:∀i j,i<n->j<n->i≠j->Dj (f i) (f j)
theorem Uk.app {base:Nat}{f:Nat->O2}{g:Nat->LI}(h:Uk base w n f g)(hi:i<n)(O:Qq 3 base w' v' l)(S:O5 (ob (f i)) w w')
  (T:∀b∈ob v',b∈ob (f i)\/↑w<=b):Uk base w' n (Uo f i v') (Uo g i l):=by
 refine⟨λj E=>?_,λj k E H G=>?_⟩
 ·by_cases e:j=i
  ·subst e;rw[Yz,Yz];exact O
  rw[Y4 _ _ e,Y4 _ _ e];exact Qd (h.own j E) S (h.dj j i E hi e)
 have key:∀j,j<n->j≠i->Dj v' (f j):=λj E e b V I=>by
  rcases T b V with J|J
  ·exact h.dj i j hi E (Ne.symm e) b J I
  have:=Q7 (h.own j E) b I;omega
 by_cases e1:j=i
 ·subst e1;rw[Yz,Y4 _ _ (Ne.symm G)];exact key k H (Ne.symm G)
 rw[Y4 _ _ e1];by_cases e2:k=i
 ·subst e2;rw[Yz];exact(key j E e1).symm
 rw[Y4 _ _ e2];exact h.dj j k E H G
theorem Uk.J {base:Nat}{f:Nat->O2}{g:Nat->LI}(h:Uk base w n f g)(E:O5 X w w')(G:∀i,i<n->∀b∈ob (f i),b∉X):Uk base w' n f g :=
 ⟨λi hi=>Qd (h.own i hi) E (G i hi),h.dj⟩
theorem Uk.I {base:Nat}{f:Nat->O2}{g:Nat->LI}(h:Uk base w n f g)(E:sX w w'):Uk base w' n f g:=h.J E (λ_ _ _ _=>od)
def Xd (es:List Ed)(s:Nat):LI:=(es.filter λe=>decide (e.2.2=(s:Int))).map (·.1)
theorem Qei (es:List Ed)(e:Ed)(E:0<=e.2.2):∀s,Uo (Xd es) e.2.2.toNat (Xd es e.2.2.toNat++[e.1]) s=Xd (es++[e]) s:=by
 intro s;unfold Xd;rw[L3,Lp];by_cases h:s=e.2.2.toNat
 ·subst h;rw[Yz];have:e.2.2=(e.2.2.toNat:Int):=oa
  simp[<-this]
 rw[Y4 _ _ h];have:¬e.2.2=(s:Int):=oa
 simp[this]
theorem Qg1 {s:Nat}{p:Int}(h:p∈Xd es s):∃e∈es,e.1=p/\e.2.2=(s:Int):=by
 unfold Xd at h;simp only[OA,OH,decide_eq_true_eq]at h;obtain⟨e,⟨E,G⟩,H⟩:=h;exact⟨e,E,H,G⟩
theorem qO (es:List Ed)(s:Nat):(Xd es s).length<=es.length:=by
 unfold Xd;rw[Lh];exact Mf _ _
def bwE (s:Int)(st:LI×LI)(p:Int):LI×LI:=if O6 st.1 p.toNat<0 then(st.1.set p.toNat (O6 st.1 s.toNat+1),st.2++[p])else st
def zC (n:Nat)(to:LI):LI:=(oV n).map λi:Nat=>if(i:Int)∈to then 0 else -1
structure Qld (n:Nat)(o q:LI):Prop where
 len:o.length=n
 q:∀x∈q,0<=x/\x<(n:Int)
 le:∀x∈o,-1<=x/\x+(neg o:Int)<=n
theorem QoC (l:LI):neg l<=l.length:=Mf _ _
theorem Qpy {s p:Int}{st:LI×LI}(h:Qld n st.1 st.2)(Y:0<=s/\s<(n:Int))(E:0<=O6 st.1 s.toNat)(J:0<=p/\p<(n:Int)):
  Qld n (bwE s st p).1 (bwE s st p).2/\neg (bwE s st p).1+(bwE s st p).2.length=neg st.1+st.2.length/\0<=O6 (bwE s st p).1 s.toNat:=by
 unfold bwE;have O:=h.len;have G:p.toNat<st.1.length:=oa
 have S:s.toNat<st.1.length:=oa
 by_cases H:O6 st.1 p.toNat<0
 ·rw[OU H];have T:st.1[p.toNat]'G<0:=by rw[ZL G];exact H
  have hv:=h.le _ (KL S);have ha:=UZ st.1 p.toNat (O6 st.1 s.toNat+1) G T oa;refine⟨⟨by simp[O],λx hx=>?_,λx hx=>?_⟩,?_,?_⟩
  ·simp only[oW,oJ]at hx;rcases hx with hx|rfl
   ·exact h.q x hx
   exact J
  ·simp only[]at hx ⊢;rcases MS hx with I|I
   ·have:=h.le x I;omega
   subst I;omega
  ·simp only[oN,oP];omega
  simp only[];have V:s.toNat≠p.toNat:=λe=>by rw[e]at E;omega
  have:O6 (st.1.set p.toNat (O6 st.1 s.toNat+1)) s.toNat=O6 st.1 s.toNat:=by
   unfold O6;simp[oR,List.getElem?_set_ne (Ne.symm V)]
  rw[this];exact E
 rw[OT H];exact⟨h,rfl,E⟩
theorem qi (n:Nat)(to:LI):(zC n to).length=n:=by simp[zC]
theorem Qpz {to:LI}(h:∀x∈to,0<=x/\x<(n:Int)):Qld n (zC n to) to:=by
 refine⟨qi n to,h,λx hx=>?_⟩;have E:=QoC (zC n to);rw[qi]at E;unfold zC at hx;simp only[OA]at hx;obtain⟨i,_,rfl⟩:=hx;split <;> omega
theorem Qnj {to:LI}{x:Int}(h:0<=x/\x<(n:Int))(hx:x∈to):O6 (zC n to) x.toNat=0:=by
 have E:x.toNat<(zC n to).length:=by rw[qi];omega
 rw[<-ZL E];have:((x.toNat:Nat):Int)=x:=oa
 simp[zC,this,hx]
def QpH (o q:LI):Prop:=∀x∈q,0<=O6 o x.toNat
theorem QkG {s p:Int}{st:LI×LI}(h:Qld n st.1 st.2)(I:0<=O6 st.1 s.toNat)(J:0<=p/\p<(n:Int))(E:QpH st.1 st.2):QpH (bwE s st p).1 (bwE s st p).2:=by
 unfold bwE;have H:p.toNat<st.1.length:=by have:=h.len;omega
 by_cases G:O6 st.1 p.toNat<0
 ·rw[OU G];intro x hx;have e1:O6 (st.1.set p.toNat (O6 st.1 s.toNat+1)) x.toNat=if x.toNat=p.toNat then O6 st.1 s.toNat+1 else O6 st.1 x.toNat:=by
   by_cases e:x.toNat=p.toNat
   ·rw[OU e,e];unfold O6;simp[oR,H]
   rw[OT e];unfold O6;simp[oR,List.getElem?_set_ne (Ne.symm e)]
  rw[e1];split
  ·omega
  rename_i e;simp only[oW,oJ]at hx;rcases hx with hx|rfl
  ·exact E x hx
  exact OW U e
 rw[OT G];exact E
theorem Qir (n:Nat):(oO n (nS).cells.toList).flatten=(oV n).map (λ_=>nS):=by
 apply Mu
 ·simp[Value.cells]
 intro i E G;simp[Value.cells]
theorem Qg0 (n:Nat):(oO n (sS 0).cells.toList).flatten=(gA n (λj=>if j<0 then -1 else 0)).map (Value.int .i64):=by
 apply Mu
 ·simp[Value.cells,gA]
 intro i E G;simp[Value.cells,gA]
theorem Qco {rv:Nat->O2}(hi:i<n):((oV n).map rv)[0+i*1]?=some (rv i):=by simp[hi]
abbrev Lf:=List Bool
def lft (l:Lf)(s:Int):Bool:=l.getD s.toNat false
def cut (l:Lf)(s:Int):Lf:=l.set s.toNat false
def VB (ul:LI)(lf:Lf)(out:xx)(e:Ed):xx:=
 if lft lf e.1=false\/lft lf e.2.2=true\/e.2.1∉ul then out else if out.getLast?.map (·.1)=some e.1 then out else out++[(e.1,e.2.1)]
def lost (a:Q6)(ul:LI)(lf:Lf):xx:=a.ed.foldl (VB ul lf) []
def dsE (lf:Lf)(x:Int)(z:LI×LI)(y:Int):LI×LI:=if lft lf y=true/\O6 z.1 y.toNat<0 then(z.1.set y.toNat (O6 z.1 x.toNat+1),z.2++[y])else z
def dsL (es:List Ed)(lf:Lf):Nat->Nat->LI×LI->LI×LI
 | 0,_,z=>z
 | f+1,i,z=>if i<z.2.length then dsL es lf f (i+1) ((Xd es (O6 z.2 i).toNat).foldl (dsE lf (O6 z.2 i)) z)else z
def ds1 (lf:Lf)(z:LI×LI)(x:Int):LI×LI:=if lft lf x=true then(z.1.set x.toNat 0,z.2++[x])else z
def ds0 (a:Q6)(lf:Lf):LI×LI:=a.mr.foldl (ds1 lf) (oO a.st.toNat (-1),[])
def dsts (a:Q6)(lf:Lf):LI:=(dsL a.ed lf a.st.toNat 0 (ds0 a lf)).1
def Ub (lf:Lf):Nat->LI->LI
 | _,[]=>[]
 | i,d::l=>if lf.getD i false=true/\d<0 then(i:Int)::Ub lf (i+1) l else Ub lf (i+1) l
def nxs (a:Q6)(ul:LI)(lf:Lf):LI:=if(lost a ul lf).length≠0 then(lost a ul lf).map (·.1)else Ub lf 0 (dsts a lf)
def yw (a:Q6)(ul:LI):Nat->Lf->Lf
 | 0,lf=>lf
 | f+1,lf=>if(nxs a ul lf).length=0 then lf else yw a ul f ((nxs a ul lf).foldl cut lf)
def lf0 (n:Nat)(fb:LI):Lf:=fb.foldl cut (oO n true)
def Qbi (a:Q6)(fb ul:LI):Lf:=yw a ul (a.st.toNat+1) (lf0 a.st.toNat fb)
def rstr (a:Q6)(lf:Lf):Q6:=⟨a.al,a.st,a.mr,a.ed.filter λe=>lft lf e.2.2⟩
def Qid (a:Q6)(lf:Lf):Q6:=if a.st=0\/lft lf 0=false then⟨a.al,0,[],[]⟩else Yj (rstr a lf)
def Qa6 (a:Q6)(fb ul:LI):Q6:=Qid a (Qbi a fb ul)
def fbs (s:Spc):LI:=s.fb.map (·.st)
def suA (c:ZF):Q6:=Qa6 (spc c).a (fbs (spc c)) (unc c.ev)
def orB (b:Nat)(k:Nat):Nat:=b ||| (1 <<< k)
def rqB (x:XC):Nat->Nat->List XC->Nat
 | _,b,[]=>b
 | k,b,y::l=>rqB x (k+1) (if(y.a.al.any λe=>decide (e∈x.a.al))=true then orB b k else b) l
def prB (ls:xx):Nat:=ls.foldl (λb l=>orB b l.1.toNat) 0
def srR (c:ZF):LN:=c.rq.map λx=>rqB x 0 0 c.co
def srX (c:ZF):LN:=c.ex.map λx=>prB x.ls
def srC (c:ZF):LN:=c.cs.map λx=>prB x.ts
def srK (c:ZF)(k:Int):LN:=if k=1 then srR c else if k=2 then srX c else srC c
structure qt where
 kd:Int
 ix:Int
 co:LI
def V9 (k:Int):Nat->LN->List qt
 | _,[]=>[]
 | i,b::l=>⟨k,i,setK b 8⟩::V9 k (i+1) l
def O9 (c:ZF):List qt:=V9 1 0 (srR c)++(V9 2 0 (srX c)++V9 3 0 (srC c))
def sets (c:ZF):LN:=srR c++(srX c++srC c)
def Qrt (c:ZF):Nat:=(sets c).foldl (λl b=>l &&& (65535 ^^^ b)) (2 ^ c.co.length - 1)
def rem (c:ZF):LI:=setK (Qrt c) 8
def mdE (c:ZF)(m:qt):Int:=if Zj c≠0 then Zj c else if m.kd<1\/3<m.kd then 11 else if m.ix<0\/((srK c m.kd).length:Int)<=m.ix then 10 else if m.co=setK ((srK c m.kd).getD m.ix.toNat 0) 8 then 0 else 13
structure Prt where
 co:LI
 rq:LI
 ex:LI
 cs:LI
def chs (l:List XC)(ix:LI):List XC:=ix.map λi=>l.getD i.toNat ⟨.empty,⟨[],0,[],[]⟩⟩
def ixP (co:LI)(ls:xx):xx:=ls.map λl=>((co.idxOf l.1:Int),l.2)
def mis (co:LI)(ls:xx):Bool:=ls.any λl=>decide (l.1∉co)
def QlM (c:ZF)(p:Prt):List qu:=p.ex.map λi=>⟨(c.ex.getD i.toNat ⟨.empty,[]⟩).nm,ixP p.co (c.ex.getD i.toNat ⟨.empty,[]⟩).ls⟩
def QlO (c:ZF)(p:Prt):List xL:=p.cs.map λi=>⟨(c.cs.getD i.toNat ⟨.empty,[],0⟩).nm,ixP p.co (c.cs.getD i.toNat ⟨.empty,[],0⟩).ts,(c.cs.getD i.toNat ⟨.empty,[],0⟩).bd⟩
def Qgx (c:ZF)(p:Prt):ZF:=⟨c.ev,chs c.co p.co,chs c.rq p.rq,QlM c p,QlO c p⟩
def Qp8 (c:ZF)(p:Prt):Bool:=(p.ex.any λi=>mis p.co (c.ex.getD i.toNat ⟨.empty,[]⟩).ls) || (p.cs.any λi=>mis p.co (c.cs.getD i.toNat ⟨.empty,[],0⟩).ts)
def Qbc (c:ZF)(p:Prt):Int :=
 if Zj c≠0 then Zj c else if KK c.co.length none p.co≠0 then KK c.co.length none p.co else if KK c.rq.length none p.rq≠0 then KK c.rq.length none p.rq else
 if KK c.ex.length none p.ex≠0 then KK c.ex.length none p.ex else if KK c.cs.length none p.cs≠0 then KK c.cs.length none p.cs else if Qp8 c p=true then 13 else Zj (Qgx c p)
def prt (m:qt):Prt:=⟨m.co,if m.kd=1 then[m.ix]else[],if m.kd=2 then[m.ix]else[],if m.kd≠1/\m.kd≠2 then[m.ix]else[]⟩
def zY (c:ZF)(m:qt):Int:=if mdE c m≠0 then mdE c m else Qbc c (prt m)
def Jt (c:ZF)(m:qt):ZF:=Qgx c (prt m)
def msA (c:ZF)(m:qt):Q6:=suA (Jt c m)
def Qrp (c:ZF):List Q6:=(O9 c).map (msA c)++(rem c).map λi=>(c.co.getD i.toNat ⟨.empty,⟨[],0,[],[]⟩⟩).a
def Qca (l:List Q6):Int:=if qq l≠0 then qq l else match xp l with|none=>3|some _=>0
def tgA (c:ZF):Q6:=syA (Qrp c)
section
variable (k:α->Int)
def Qej (x:α):List α->List α
 | []=>[x]
 | y::l=>if k x<=k y then x::y::l else y::Qej x l
def isrt (l:List α):List α:=l.foldr (Qej k) []
theorem qP (x:α):∀l,(Qej k x l).Perm (x::l)
 | []=>.refl _
 | y::l=>by
  rw[Qej];split
  ·exact .refl _
  exact((qP x l).cons y).D (.swap _ _ _)
theorem qN:∀l,(isrt k l).Perm l
 | []=>.refl _
 | x::l=>(qP k x _).D ((qN l).cons x)
theorem Qav (x:α):∀{l:List α},l.Pairwise (λa b=>k a<=k b)->(Qej k x l).Pairwise (λa b=>k a<=k b)
 | [],_=>by rw[Qej];simp
 | y::l,h=>by
  rw[Qej];obtain⟨H,I⟩:=L6.1 h;split
  ·rename_i G;refine L6.2 ⟨λz E=>?_,h⟩;rcases Li.1 E with rfl|E
   ·exact G
   exact Int.le_trans G (H z E)
  rename_i G;refine L6.2 ⟨λz E=>?_,Qav x I⟩;rcases Li.1 ((qP k x l).mem_iff.1 E)with rfl|E
  ·omega
  exact H z E
theorem Qat:∀l:List α,(isrt k l).Pairwise (λa b=>k a<=k b)
 | []=>.nil
 | x::l=>Qav k x (Qat l)
theorem QeX:∀{l m:List α},l.Perm m->l.Pairwise (λa b=>k a<=k b)->m.Pairwise (λa b=>k a<=k b)->(l.map k).Nodup->l=m
 | [],m,E,_,_,_=>(List.Perm.nil_eq E)
 | x::l,[],E,_,_,_=>by have:=E.length_eq;simp at this
 | x::l,y::m,E,H,I,J=>by
  obtain⟨O,l2⟩:=L6.1 H;obtain⟨m1,S⟩:=L6.1 I;have T:(k x::l.map k).Nodup:=J;obtain⟨n1,V⟩:=NA.1 T;have e:x=y:=by
   have hx:x∈y::m:=E.mem_iff.1 Lq;have Y:y∈x::l:=E.mem_iff.2 Lq;rcases Li.1 hx with h|h
   ·exact h
   rcases Li.1 Y with G|G
   ·exact G.symm
   exact OW (LC.2 ⟨y,G,Int.le_antisymm (m1 x h) (O y G)⟩) n1
  subst e;rw[QeX ((List.perm_cons x).1 E) l2 S V]
theorem Qmy {l m:List α}(E:m.Perm l)(G:m.Pairwise (λa b=>k a<=k b))(H:(l.map k).Nodup):m=isrt k l :=
 QeX k (E.D (qN k l).symm) G (Qat k l) ((E.map _).nodup_iff.2 H)
end
structure Yi where
 kd:Int
 nm:ByteArray
 a:Q6
 ls:List (ByteArray×Int)
 ts:List (ByteArray×Int)
 bd:Int
abbrev Vo:Q6:=⟨[],0,[],[]⟩
abbrev VJ:ZF:=⟨[],[],[],[],[]⟩
def Ux (k:Int)(n:ByteArray)(x:Yi):Bool:=decide (x.kd=k) && decide (x.nm=n)
def YF (l:List Yi)(k:Int)(n:ByteArray):Nat:=l.findIdx (Ux k n)
def Va (l:List Yi)(k:Int)(n:ByteArray):Bool:=decide (YF l k n<l.length)
def QaW (a:Q6):Bool:=decide (a.st=0) && decide ((a.al.length:Int)+(a.mr.length:Int)+(a.ed.length:Int)=0)
def Qcw (x:Yi):Bool:=if x.kd=3 then QaW x.a && decide ((x.ts.length:Int)=0) && decide (x.bd=0)else if x.kd=4 then QaW x.a && decide ((x.ls.length:Int)=0)else decide ((x.ls.length:Int)+(x.ts.length:Int)=0) && decide (x.bd=0)
def dk1 (l:List Yi)(i:Nat)(x:Yi):Int :=
 if x.kd<1\/4<x.kd then 11 else if Xj x.nm=false then 7 else if Va (l.take i) x.kd x.nm=true then 8 else if 0<i/\x.kd<(l.getD (i - 1) ⟨0,.empty,Vo,[],[],0⟩).kd then 5 else if Qcw x=false then 6 else 0
def dkL (l:List Yi):Nat->List Yi->Int
 | _,[]=>0
 | i,x::r=>if dk1 l i x≠0 then dk1 l i x else dkL l (i+1) r
def KW (l:List Yi):Int:=if 76<l.length then 3 else dkL l 0 l
def jF (co:List XC)(i:Int):Option ByteArray:=if i<0\/(co.length:Int)<=i then none else some (co.getD i.toNat ⟨.empty,Vo⟩).nm
def Uj (co:List XC):xx->Option (List (ByteArray×Int))
 | []=>some []
 | y::l=>match jF co y.1 with
  | none=>none
  | some n=>(Uj co l).map ((n,y.2)::·)
def J5 (co:List XC):List qu->Option (List Yi)
 | []=>some []
 | x::l=>match Uj co x.ls with
  | none=>none
  | some r=>(J5 co l).map (⟨3,x.nm,Vo,r,[],0⟩::·)
def Kr (co:List XC):List xL->Option (List Yi)
 | []=>some []
 | x::l=>match Uj co x.ts with
  | none=>none
  | some r=>(Kr co l).map (⟨4,x.nm,Vo,[],r,x.bd⟩::·)
def K9 (k:Int)(x:XC):Yi:=⟨k,x.nm,x.a,[],[],0⟩
def QfN (c:ZF):Option (List Yi):=match J5 c.co c.ex,Kr c.co c.cs with
 | some a,some b=>some (c.co.map (K9 1)++(c.rq.map (K9 2)++(a++b)))
 | _,_=>none
def ZR (c:ZF):Int×List Yi:=match QfN c with
 | none=>(2,[])
 | some l=>if KW l≠0 then(KW l,[])else(0,l)
def YD (l:List Yi):List (ByteArray×Int)->LI->List (Int×Int)->Int×xx
 | [],_,o=>(0,isrt (·.1) o)
 | y::r,tk,o=>if Va l 1 y.1=false then(9,[])else if(YF l 1 y.1:Int)∈tk then(8,[])else YD l r (tk++[(YF l 1 y.1:Int)]) (o++[((YF l 1 y.1:Int),y.2)])
def KJ (all:List Yi)(x:Yi)(c:ZF):Int×ZF :=
 if x.kd=1 then(0,{ c with co:=c.co++[⟨x.nm,x.a⟩] })else if x.kd=2 then(0,{ c with rq:=c.rq++[⟨x.nm,x.a⟩] })else
 if x.kd=3 then(if(YD all x.ls [] []).1≠0 then((YD all x.ls [] []).1,VJ)else(0,{ c with ex:=c.ex++[⟨x.nm,(YD all x.ls [] []).2⟩] }))else
 if x.kd=4 then(if(YD all x.ts [] []).1≠0 then((YD all x.ts [] []).1,VJ)else(0,{ c with cs:=c.cs++[⟨x.nm,(YD all x.ts [] []).2,x.bd⟩] }))else(0,c)
def Qhn (all:List Yi):List Yi->ZF->Int×ZF
 | [],c=>(0,c)
 | x::l,c=>if(KJ all x c).1≠0 then((KJ all x c).1,VJ)else Qhn all l (KJ all x c).2
def J6 (ev:List Ko)(l:List Yi):Int×ZF:=if KW l≠0 then(KW l,VJ)else Qhn l l ⟨ev,[],[],[],[]⟩
def zx (l:List Yi)(x:Yi):Int×List Yi :=
 if KW l≠0 then(KW l,[])else if KW [x]≠0 then(KW [x],[])else if Va l x.kd x.nm=true then(0,l.set (YF l x.kd x.nm) x)else if l.length=76 then(3,[])else
 (0,l.take (l.findIdx λy=>decide (x.kd<y.kd))++x::l.drop (l.findIdx λy=>decide (x.kd<y.kd)))
def zy (l:List Yi)(k:Int)(n:ByteArray):Int×List Yi :=
 if KW l≠0 then(KW l,[])else if Va l k n=false then(10,[])else(0,l.take (YF l k n)++l.drop (YF l k n+1))
def jI (l:List Yi)(e:Bool×Yi):Int×List Yi:=if e.1=true then zy l e.2.kd e.2.nm else zx l e.2
def QbM:List (Bool×Yi)->List Yi->Int×List Yi
 | [],l=>(0,l)
 | e::r,l=>if(jI l e).1≠0 then((jI l e).1,[])else QbM r (jI l e).2
def zz (l:List Yi)(es:List (Bool×Yi)):Int×List Yi:=if KW l≠0 then(KW l,[])else QbM es l
def cnF (ord:LI)(j:Nat)(e:Ed):Ed:=((j:Int),e.2.1,(ord.idxOf e.2.2:Int))
def cnR (a:Q6)(ord:LI)(j:Nat):List Ed:=(Z7 a.ed (Yg ord j)).map (cnF ord j)
theorem QcS {r:LI}(h:j<l.length):Yg (l++r) j=Yg l j:=by unfold Yg;rw[MN];exact jl h
structure NuI (st:Int)(ord num:LI):Prop where
 nd:ord.Nodup
 bd:∀s∈ord,0<=s/\s<st
 nl:num.length=st.toNat
 nu:∀k,0<=k->k<st->Yg num k=if k∈ord then(ord.idxOf k:Int)else -1
theorem QdS {st:Int}{c:Cs}(h:NuI st c.ord c.num){e:Ed}(O:0<=e.2.2)(S:e.2.2<st):NuI st (ZB i c e).ord (ZB i c e).num/\(∃r,(ZB i c e).ord=c.ord++r)/\(ZB i c e).mk'=c.mk'/\(ZB i c e).ed=c.ed++[cnF (ZB i c e).ord i e]/\e.2.2∈(ZB i c e).ord:=by
 have G:=h.nu e.2.2 O S;have V:e.2.2.toNat<c.num.length:=by rw[h.nl];omega
 unfold ZB;by_cases H:e.2.2∈c.ord
 ·rw[OU H]at G;rw[OT (by rw[G];omega)];refine⟨h,⟨[],od⟩,rfl,?_,H⟩;simp only[cnF];rw[G]
 rw[OT H]at G;rw[OU (by rw[G];decide)];have T:(c.ord++[e.2.2]).idxOf e.2.2=c.ord.length:=by rw[MA,OT H];simp
 refine⟨⟨yH h.nd H,λs E=>?_,by simp[h.nl],λk Y k1=>?_⟩,⟨[e.2.2],rfl⟩,rfl,?_,od⟩
 ·rcases Lc.1 E with E|E
  ·exact h.bd s E
  simp only[oJ]at E;subst E;exact⟨O,S⟩
 ·simp only[];by_cases ek:k=e.2.2
  ·subst ek;rw[OU od,T];unfold Yg;simp[oR,List.getElem?_set_self V]
  have ha:e.2.2.toNat≠k.toNat:=oa
  have e1:Yg (c.num.set e.2.2.toNat c.ord.length) k=Yg c.num k:=by unfold Yg;simp[oR,List.getElem?_set_ne ha]
  rw[e1,h.nu k Y k1];by_cases I:k∈c.ord
  ·rw[OU I,OU (Me _ I),MA,OU I]
  rw[OT I,OT (λhb=>by
   rcases Lc.1 hb with J|J
   ·exact I J
   simp only[oJ]at J;exact ek J)]
 simp only[cnF];rw[T]
theorem yl {st:Int}{i:Nat}:∀(es:List Ed) (c:Cs),NuI st c.ord c.num->(∀e∈es,0<=e.2.2/\e.2.2<st)->NuI st (es.foldl (ZB i) c).ord (es.foldl (ZB i) c).num/\(∃r,(es.foldl (ZB i) c).ord=c.ord++r)/\(es.foldl (ZB i) c).mk'=c.mk' /\
  (es.foldl (ZB i) c).ed=c.ed++es.map (cnF (es.foldl (ZB i) c).ord i)/\∀e∈es,e.2.2∈(es.foldl (ZB i) c).ord
 | [],c,h,_=>⟨h,⟨[],od⟩,rfl,od,λe H=>by cases H⟩
 | e::es,c,h,E=>by
  obtain⟨I,b1⟩:=E e Lq;obtain⟨J,⟨O,S⟩,T,V,G⟩:=QdS (i:=i) h I b1;obtain⟨k1,⟨r2,k2⟩,k3,Y,k5⟩:=yl (i:=i) es (ZB i c e) J (λd hd=>E d (Lj _ hd));rw[L4];refine⟨k1,⟨O++r2,by rw[k2,S,LB]⟩,k3.D T,?_,λd hd=>?_⟩
  ·rw[Y,V,LB,LG];have:cnF (ZB i c e).ord i e=cnF (es.foldl (ZB i) (ZB i c e)).ord i e:=by
    unfold cnF;rw[k2,MA,OU G]
   rw[this];rfl
  rcases Li.1 hd with rfl|hd
  ·rw[k2];exact Me _ G
  exact k5 d hd
structure CnG (a:Q6)(i:Nat)(c:Cs):Prop where
 nu:NuI a.st c.ord c.num
 le:i<=c.ord.length
 hd:Yg c.ord 0=0/\0<c.ord.length
 mk2:c.mk'=((oS 0 i).filter λj:Nat=>decide (Yg c.ord j∈a.mr)).map λj:Nat=>(j:Int)
 ed:c.ed=(oS 0 i).flatMap (cnR a c.ord)
 cl:∀j,j<i->∀e∈Z7 a.ed (Yg c.ord j),e.2.2∈c.ord
theorem Qna {ord r:LI}(E:j<ord.length)(G:∀e∈Z7 a.ed (Yg ord j),e.2.2∈ord):cnR a (ord++r) j=cnR a ord j:=by
 unfold cnR;rw[QcS E];refine Nk λe H=>?_;unfold cnF;rw[MA,OU (G e H)]
theorem CnG.next (S:ZK a){c:Cs}(h:CnG a i c)(hi:i<c.ord.length):CnG a (i+1) (zt a i c):=by
 unfold zt;have I:(Yo a i c).ord=c.ord:=by unfold Yo;split <;> rfl
 have T:(Yo a i c).num=c.num:=by unfold Yo;split <;> rfl
 have V:(Yo a i c).ed=c.ed:=by unfold Yo;split <;> rfl
 obtain⟨k1,⟨r,k2⟩,k3,H,J⟩:=yl (st:=a.st) (i:=i) (Z7 a.ed (Yg c.ord i)) (Yo a i c) (by rw[I,T];exact h.nu) (λe Y=>(S.ed e (ZV Y).1).2.2.2);generalize (Z7 a.ed (Yg c.ord i)).foldl (ZB i) (Yo a i c)=d at k1 k2 k3 H J;rw[I]at k2;rw[V]at H;have pre:∀j:Nat,j<=i->Yg d.ord j=Yg c.ord j:=λj E=>by rw[k2];exact QcS oa
 refine⟨k1,by rw[k2];simp;omega,⟨by have:=pre 0 oa;rw[show((0:Nat):Int)=0 from rfl]at this;rw[this];exact h.hd.1,by rw[k2];simp;omega⟩,?_,?_,λj E=>?_⟩
 ·rw[k3,Mz,L3,Lp,LS];have e1:((oS 0 i).filter λj:Nat=>decide (Yg d.ord j∈a.mr))=(oS 0 i).filter λj:Nat=>decide (Yg c.ord j∈a.mr):=by
   refine List.filter_congr λj E=>?_;rw[MB]at E;rw[pre j oa]
  rw[e1];unfold Yo;by_cases G:Yg c.ord i∈a.mr
  ·rw[OU G];simp only[];rw[Mb,OU (by rw[pre i (Lv _)];exact OX G),Nj,h.mk2];rfl
  rw[OT G];rw[Mb,OT (by rw[pre i (Lv _),OZ G];simp),Nj,h.mk2];simp
 ·rw[H,Mz,Ly,LS,h.ed];congr 1
  ·refine JZ λj E=>?_;rw[MB]at E;rw[k2];exact(Qna oa (h.cl j oa)).symm
  simp only[Of,OM,Oy];unfold cnR;rw[pre i (Lv _)]
 by_cases e:j=i
 ·subst e;rw[pre j (Lv _)];exact J
 intro d' O;rw[pre j oa]at O;rw[k2];exact Me _ (h.cl j oa d' O)
theorem QaP {a:Q6}(G:ZK a):∀(f i:Nat) (c:Cs),CnG a i c->∃E,CnG a E (Jd a f i c)/\((Jd a f i c).ord.length=E\/E=i+f)
 | 0,i,c,h=>⟨i,h,.inr U⟩
 | f+1,i,c,h=>by
  rw[Jd];split
  ·rename_i hi;obtain⟨E,H,I⟩:=QaP G f (i+1) _ (h.next G hi);exact⟨E,H,oa⟩
  exact⟨i,h,.inl (ov h.le)⟩
structure CnP (a:Q6)(ord:LI):Prop where
 nd:ord.Nodup
 bd:∀s∈ord,0<=s/\s<a.st
 hd:Yg ord 0=0/\0<ord.length
 al:(Yj a).al=a.al
 st:(Yj a).st=(ord.length:Int)
 mk2:(Yj a).mr=((oS 0 ord.length).filter λj:Nat=>decide (Yg ord j∈a.mr)).map λj:Nat=>(j:Int)
 ed:(Yj a).ed=(oS 0 ord.length).flatMap (cnR a ord)
 cl:∀j,j<ord.length->∀e∈Z7 a.ed (Yg ord j),e.2.2∈ord
theorem Qht (I:ZK a)(h0:0<a.st):∃ord,CnP a ord:=by
 have J:0<a.st.toNat:=oa
 have O:CnG a 0 (YY a):=by
  refine⟨⟨by simp[YY],λs H=>by simp[YY]at H;subst H;omega,by simp[YY],λk k0 k1=>?_⟩,Ln _,⟨by simp[YY,Yg],by simp[YY]⟩,by simp[YY],by simp[YY],λj hj=>oa⟩;by_cases ek:k=0
  ·subst ek;rw[OU (by simp[YY])];unfold Yg YY;simp[oR,J]
  rw[OT (by simpa[YY]using ek)];unfold YY;have S:0≠k.toNat:=oa
  have T:k.toNat<a.st.toNat:=oa
  unfold Yg;rw[Ns,NC S];simp[T]
 obtain⟨V,E,h2⟩:=QaP I a.st.toNat 0 (YY a) O;have ha:(Jd a a.st.toNat 0 (YY a)).ord.length<=a.st.toNat:=xH _ _ E.nu.nd (λx hx=>ov (E.nu.bd x hx));have Y:V=(Jd a a.st.toNat 0 (YY a)).ord.length:=by have:=E.le;omega
 subst Y;have G:Yj a=⟨a.al,((Jd a a.st.toNat 0 (YY a)).ord.length:Int),(Jd a a.st.toNat 0 (YY a)).mk',(Jd a a.st.toNat 0 (YY a)).ed⟩:=by unfold Yj;rw[OT oa]
 refine⟨(Jd a a.st.toNat 0 (YY a)).ord,E.nu.nd,E.nu.bd,E.hd,by rw[G],by rw[G],?_,?_,E.cl⟩
 ·rw[G];exact E.mk2
 rw[G];exact E.ed
section
variable {p s:Q6}{pn xn v:Int}
end
def qv (lo hi:Nat)(ds:LN)(W:O1):Prop:=ds.Nodup/\∀D∈ds,lo<=D/\D<hi/\W.heap[D]?=some (.deferred (some []))
theorem qv.J {W:O1}(h:qv lo hi ds W)(H:O5 X W W')(I:∀b∈X,∃o:Obj,W.heap[b]?=some o/\o.isCells=true):qv lo hi ds W':=by
 refine⟨h.1,λD hD=>⟨(h.2 D hD).1,(h.2 D hD).2.1,?_⟩⟩;have E:=(h.2 D hD).2.2;refine(H.block D (LJ.1 E).1 (λhx=>?_)).D E;obtain⟨o,G,J⟩:=I D hx;rw[E]at G;cases G;cases J
theorem qv.I {W:O1}(h:qv lo hi ds W)(E:sX W W'):qv lo hi ds W':=h.J E (λ_ G=>by cases G)
theorem qv.blk {W:O1}(h:qv lo hi ds W)(E:O5 [b] W W')(G:QY W.heap b T cs):qv lo hi ds W' :=
 h.J E (λc H=>by
  have e:c=b:=by simpa using H
  subst e;exact G.cells)
theorem qv.up {W:O1}(h:qv lo hi ds W)(G:hi<=E):qv lo E ds W:=⟨h.1,λD hD=>⟨(h.2 D hD).1,ov (h.2 D hD).2.1,(h.2 D hD).2.2⟩⟩
theorem qv.cons {W:O1}{D:Nat}(h:qv lo hi ds W)(I:lo<=hi)(hD:hi<=D)(hd:W.heap[D]?=some (.deferred (some []))):qv lo ↑W (D::ds) W:=by
 have G:=(LJ.1 hd).1;refine⟨NA.2 ⟨λH=>ov (h.2 D H).2.1,h.1⟩,λE hE=>?_⟩;rcases Li.1 hE with rfl|hE
 ·exact⟨oa,G,hd⟩
 have:=h.2 E hE;exact⟨this.1,(LJ.1 this.2.2).1,this.2.2⟩
theorem qv.stb (I:hi<=B):YH B (λW=>qv lo hi ds W):=λW W' X h G H=>by
 refine⟨h.1,λD hD=>⟨(h.2 D hD).1,(h.2 D hD).2.1,?_⟩⟩;have E:=(h.2 D hD).2.2;refine(G.block D (LJ.1 E).1 (λhx=>?_)).D E;have:=(H D hx).1;have:=(h.2 D hD).2.1;omega
def Jn (k:Nat):LI:=(oV k).map λi:Nat=>(i:Int)
theorem yI (k:Nat):(Jn k).length=k:=by simp[Jn]
theorem Qal (k:Nat):Jn (k+1)=Jn k++[(k:Int)]:=by unfold Jn;rw[Nz,Lp];rfl
theorem QcE (k:Nat)(x:Int):x∈Jn k↔0<=x/\x<(k:Int):=by
 unfold Jn;simp only[OA,List.mem_range];constructor
 ·rintro⟨i,hi,rfl⟩;omega
 intro h;exact⟨x.toNat,oa,oa⟩
theorem Qi2 (k:Nat):Y8 (Jn k):=by
 induction k with
 | zero=>exact List.Pairwise.nil
 | succ k ih =>
  rw[Qal];refine MG.2 ⟨ih,NH _ _,λx hx y E=>?_⟩;have:=(QcE k x).1 hx;simp at E;omega
theorem Qpg (lf:Lf)(x:Int)(z:LI×LI)(y:Int):dsE lf x z y=if lft lf y=true then bwE x z y else z:=by
 unfold dsE bwE;by_cases h:lft lf y=true <;> by_cases E:O6 z.1 y.toNat<0 <;> simp[h,E]
structure DsI (n:Nat)(z:LI×LI):Prop where
 ok:Qld n z.1 z.2
 cnt:neg z.1+z.2.length=n
 s0:QpH z.1 z.2
theorem DsI.le {z:LI×LI}(h:DsI n z):z.2.length<=n:=by have:=h.cnt;omega
theorem Qj8 {lf:Lf}{x y:Int}{z:LI×LI}(h:DsI n z)(hx:0<=x/\x<(n:Int))(E:0<=O6 z.1 x.toNat)(G:0<=y/\y<(n:Int)):
  DsI n (dsE lf x z y)/\0<=O6 (dsE lf x z y).1 x.toNat:=by
 rw[Qpg];split
 ·obtain⟨H,J,I⟩:=Qpy h.ok hx E G;exact⟨⟨H,ov h.cnt,QkG h.ok E G h.s0⟩,I⟩
 exact⟨h,E⟩
theorem QmV (lf:Lf)(x:Int)(z:LI×LI)(y:Int):∃r,(dsE lf x z y).2=z.2++r:=by
 unfold dsE;split
 ·exact⟨[y],U⟩
 exact⟨[],od⟩
theorem QmU {n:Nat}{lf:Lf}{x:Int}(hx:0<=x/\x<(n:Int)):∀(l:LI) (z:LI×LI),DsI n z->0<=O6 z.1 x.toNat->(∀y∈l,0<=y/\y<(n:Int)) ->
  DsI n (l.foldl (dsE lf x) z)/\∃r,(l.foldl (dsE lf x) z).2=z.2++r
 | [],z,h,_,_=>⟨h,[],od⟩
 | y::l,z,h,G,E=>by
  obtain⟨H,I⟩:=Qj8 (lf:=lf) h hx G (E y Lq);obtain⟨J,r2,O⟩:=QmU hx l _ H I (λy S=>E y (Lj _ S));obtain⟨T,V⟩:=QmV lf x z y;exact⟨J,T++r2,by rw[L4,O,V,LB]⟩
theorem Qj7 {lf:Lf}{f:Nat}{z:LI×LI}(h:¬i<z.2.length):dsL es lf f i z=z:=by
 cases f with
 | zero=>rfl
 | succ f=>rw[dsL,OT h]
theorem Qf7 {x:Int}(E:0<=x):(zC n l).set x.toNat 0=zC n (l++[x]):=by
 apply Mu
 ·simp[zC]
 intro i G H;rw[M7];by_cases e:x.toNat=i
 ·have:(i:Int)=x:=oa
  rw[OU e];simp[zC,this]
 have:(i:Int)≠x:=oa
 rw[OT e];simp[zC,this]
theorem Qc6 {lf:Lf}(H:∀x∈a.mr,0<=x)(k:Nat):(a.mr.take k).foldl (ds1 lf) (oO a.st.toNat (-1),[])=(zC a.st.toNat ((a.mr.take k).filter (lft lf)),(a.mr.take k).filter (lft lf)):=by
 induction k with
 | zero =>
  simp only[List.take_zero,List.foldl_nil,List.filter_nil];congr 1;apply Mu
  ·simp[zC]
  intro i I J;simp[zC]
 | succ k ih =>
  by_cases G:k<a.mr.length
  ·rw[Lm G,MD,ih,L3];simp only[List.foldl_cons,List.foldl_nil,ds1];by_cases E:lft lf (a.mr[k]'G)=true
   ·rw[OU E,Qf7 (H _ (Ll G))];simp[E]
   rw[OT E];simp[E]
  have e:a.mr.take (k+1)=a.mr.take k:=by rw[Lt oa,Lt oa]
  rw[e];exact ih
theorem Qpi {lf:Lf}(E:∀x∈a.mr,0<=x):ds0 a lf=(zC a.st.toNat (a.mr.filter (lft lf)),a.mr.filter (lft lf)):=by
 have:=Qc6 (lf:=lf) E a.mr.length;rw[M1]at this;exact this
theorem Qma (l:LI)(G:l.Nodup)(H:∀x∈l,0<=x/\x<(n:Int)):neg (zC n l)+l.length=n:=by
 have key:∀k,k<=l.length->neg (zC n (l.take k))+k=n:=by
  intro k;induction k with
  | zero =>
   intro _;have e:zC n (l.take 0)=oO n (-1):=by
    apply Mu
    ·simp[zC]
    intro i I V;simp[zC]
   rw[e];unfold neg;simp
  | succ k ih =>
   intro Y;have I:=ih oa;have hx:=H _ (Ll (show k<l.length by omega));rw[Lm (show k<l.length by omega),<-Qf7 hx.1];have J:(l[k]'oa).toNat<(zC n (l.take k)).length:=by rw[qi];omega
   have ha:=UZ (zC n (l.take k)) (l[k]'oa).toNat 0 J (by
    have e:(((l[k]'oa).toNat:Nat):Int)=l[k]'oa:=oa
    have O:(l[k]'oa)∉l.take k:=λh=>by
     obtain⟨j,S,E⟩:=LP h;rw[Nf]at E;have T:j<k:=by simp at S;omega
     have:=(MR.1 G) j k oa oa T;exact this E
    simp[zC,e,O]) (NK _)
   omega
 have:=key l.length (Lv _)
 rwa [M1]at this
theorem Qph {lf:Lf}(E:ZK a)(H:a.st=(n:Int)):DsI n (ds0 a lf):=by
 have G:∀x∈a.mr.filter (lft lf),0<=x/\x<(n:Int):=λx hx=>by rw[<-H];exact E.mr x (L5.1 hx).1
 have e:a.st.toNat=n:=oa
 rw[Qpi (λx hx=>(E.mr x hx).1),e];refine⟨Qpz G,Qma _ ((E.mri.imp (λh=>oa)).filter _) G,λx hx=>?_⟩;rw[Qnj (G x hx) hx];exact NK _
def Uy (l:Lf):Nat:=l.countP (· == true)
theorem Qm9 (l:Lf):Uy l<=l.length:=List.countP_le_length
theorem QfS (l:Lf)(s:Int):(cut l s).length=l.length:=by simp[cut]
theorem jh:∀(xs:LI) (l:Lf),(xs.foldl cut l).length=l.length
 | [],_=>rfl
 | x::xs,l=>by rw[L4,jh xs,QfS]
theorem QfU:∀(l:Lf) (i:Nat),Uy (l.set i false)+(if l.getD i false=true then 1 else 0)=Uy l
 | [],i=>by simp[Uy]
 | b::l,0=>by cases b <;> simp[Uy]
 | b::l,i+1=>by
  have ih:=QfU l i;unfold Uy at *;simp only[List.set_cons_succ,List.countP_cons,List.getD_cons_succ];omega
theorem QfV (l:Lf)(s:Int):Uy (cut l s)+(if lft l s=true then 1 else 0)=Uy l:=QfU l s.toNat
theorem Qdd:∀(xs:LI) (l:Lf),Uy (xs.foldl cut l)<=Uy l
 | [],_=>Lv _
 | x::xs,l=>by
  have E:=Qdd xs (cut l x);have G:=QfV l x;rw[L4];omega
theorem Qkk {xs:LI}{l:Lf}(h:0<xs.length)(E:∀x∈xs,lft l x=true):Uy (xs.foldl cut l)<Uy l:=by
 cases xs with
 | nil=>simp at h
 | cons x xs =>
  have H:=Qdd xs (cut l x);have G:=QfV l x;rw[OU (E x Lq)]at G;rw[L4];omega
def Qk5 (a:Q6)(lf:Lf)(out:xx):Prop:=∀p∈out,lft lf p.1=true/\∃e∈a.ed,e.1=p.1/\e.2.1=p.2
theorem Qmg {lf:Lf}{out:xx}{e:Ed}(h:Qk5 a lf out)(G:e∈a.ed):Qk5 a lf (VB ul lf out e)/\(VB ul lf out e).length<=out.length+1:=by
 unfold VB;split
 ·exact⟨h,oa⟩
 rename_i H;split
 ·exact⟨h,oa⟩
 refine⟨λp E=>?_,od⟩;simp only[oW,oJ]at E;rcases E with E|rfl
 ·exact h p E
 exact⟨by cases I:lft lf e.1 with|true=>rfl|false=>exact OW (.inl I) H,e,G,rfl,rfl⟩
theorem yN {a:Q6}{ul:LI}{lf:Lf}:∀(l:List Ed) (out:xx),(∀e∈l,e∈a.ed)->Qk5 a lf out->Qk5 a lf (l.foldl (VB ul lf) out)/\(l.foldl (VB ul lf) out).length<=out.length+l.length
 | [],out,_,h=>⟨h,od⟩
 | e::l,out,E,h=>by
  obtain⟨G,J⟩:=Qmg (ul:=ul) h (E e Lq);obtain⟨H,O⟩:=yN l _ (λe I=>E e (Lj _ I)) G;exact⟨H,by rw[L4,LT];omega⟩
theorem Qbv (a:Q6)(ul:LI)(lf:Lf):Qk5 a lf (lost a ul lf)/\(lost a ul lf).length<=a.ed.length:=by
 have:=yN (ul:=ul) (lf:=lf) a.ed [] (λ_ h=>h) (λp E=>by cases E);unfold lost;simpa using this
theorem qj (lf:Lf):∀(l:LI) (i:Nat),(∀x∈Ub lf i l,lft lf x=true/\(i:Int)<=x/\x<(i:Int)+l.length)/\(Ub lf i l).length<=l.length
 | [],i=>⟨λx hx=>(by cases hx),Lv _⟩
 | d::l,i=>by
  obtain⟨E,H⟩:=qj lf l (i+1);unfold Ub;split
  ·rename_i G;refine⟨λx hx=>?_,by simp;omega⟩;rcases Li.1 hx with rfl|hx
   ·exact⟨by unfold lft;simpa using G.1,NK _,by simp;omega⟩
   have:=E x hx;exact⟨this.1,oa,by simp only[oX];omega⟩
  refine⟨λx hx=>?_,by simp;omega⟩;have:=E x hx;exact⟨this.1,oa,by simp only[oX];omega⟩
theorem QiW {lf:Lf}(x:Int)(hx:x∈nxs a ul lf):lft lf x=true:=by
 unfold nxs at hx;split at hx
 ·obtain⟨p,E,rfl⟩:=LC.1 hx;exact((Qbv a ul lf).1 p E).1
 exact((qj lf (dsts a lf) 0).1 x hx).1
theorem QgE {f:Nat}{lf:Lf}(h:(nxs a ul lf).length=0):yw a ul f lf=lf:=by
 cases f with
 | zero=>rfl
 | succ f=>rw[yw,OU h]
theorem QgD {f:Nat}{lf:Lf}(h:(nxs a ul lf).length≠0):yw a ul (f+1) lf=yw a ul f ((nxs a ul lf).foldl cut lf):=by rw[yw,OT h]
theorem QiX {lf:Lf}(h:(nxs a ul lf).length≠0):Uy ((nxs a ul lf).foldl cut lf)<Uy lf:=Qkk oa (λx hx=>QiW x hx)
theorem Qgz (h:ZK a)(lf:Lf):ZK (rstr a lf):=
 ⟨h.al,h.ali,h.st0,h.st1,h.mr,h.mri,λe E=>h.ed e (L5.1 E).1,h.edi.filter _⟩
def pst (v:Int)(a:Q6)(x:Int):Option Int:=if v∈a.al then xo a.ed x v else some x
def nx (v:Int)(A:Nat->Q6)(x:Nat->Int)(i:Nat):Int:=(pst v (A i) (x i)).getD 0
abbrev QC (p:Int×Int):LV:=[sS p.1,sS p.2]
theorem YJ (p:Int×Int):(QC p).length=2:=rfl
abbrev jP (L:LN)(H:xC)(v:O2)(l:xx):Prop:=Zo L H v l.length 2 (l.flatMap QC)
abbrev Zt (e:Ko):LV:=[.string e.nm,.bool e.co,.bool e.ob,.bool e.fo,sS e.fl]
theorem U8 (e:Ko):(Zt e).length=5:=rfl
abbrev JD (s:ByteArray):Prop:=s.size<=9223372036854775807
structure Ud (L:LN)(H:xC)(v:O2)(l:List Ko):Prop where
 arr:Zo L H v l.length 5 (l.flatMap Zt)
 nm:∀e∈l,JD e.nm
theorem Ud.I {L:LN}{w w':O1}{v:O2}{l:List Ko}(h:Ud L w.heap v l)(E:sX w w'):Ud L w'.heap v l:=⟨h.arr.I E,h.nm⟩
theorem Ud.st {L:LN}{w w':O1}{v:O2}{l:List Ko}(h:Ud L w.heap v l)(E:O5 L w w'):Ud L w'.heap v l:=⟨h.arr.st E,h.nm⟩
theorem Ud.up {L L':LN}{H:xC}{v:O2}{l:List Ko}(h:Ud L H v l)(E:∀b∈L',b∈L\/H.size<=b):Ud L' H v l:=⟨h.arr.up E,h.nm⟩
structure IV where
 nm:ByteArray
 p:AV
def IV.it (q:IV):XC:=⟨q.nm,q.p.a⟩
abbrev QK (q:IV):LV:=[.string q.nm,q.p.va,sS q.p.a.st,q.p.vm,q.p.ve]
theorem Ys (q:IV):(QK q).length=5:=rfl
structure X3 (L:LN)(H:xC)(v:O2)(qs:List IV):Prop where
 arr:Zo L H v qs.length 5 (qs.flatMap QK)
 each:∀q∈qs,ZM L H q.p.va q.p.vm q.p.ve q.p.a
 nm:∀q∈qs,JD q.nm
structure XV where
 nm:ByteArray
 v:O2
 ls:xx
def XV.x (q:XV):qu:=⟨q.nm,q.ls⟩
abbrev Q3 (q:XV):LV:=[.string q.nm,q.v]
theorem Xw (q:XV):(Q3 q).length=2:=rfl
structure jA (L:LN)(H:xC)(v:O2)(qs:List XV):Prop where
 arr:Zo L H v qs.length 2 (qs.flatMap Q3)
 each:∀q∈qs,jP L H q.v q.ls
 nm:∀q∈qs,JD q.nm
structure KV where
 nm:ByteArray
 v:O2
 ts:xx
 bd:Int
def KV.k (q:KV):xL:=⟨q.nm,q.ts,q.bd⟩
abbrev Q9 (q:KV):LV:=[.string q.nm,q.v,sS q.bd]
theorem Xq (q:KV):(Q9 q).length=3:=rfl
structure jw (L:LN)(H:xC)(v:O2)(qs:List KV):Prop where
 arr:Zo L H v qs.length 3 (qs.flatMap Q9)
 each:∀q∈qs,jP L H q.v q.ts
 nm:∀q∈qs,JD q.nm
theorem X3.I {L:LN}{w w':O1}{v:O2}{qs:List IV}(h:X3 L w.heap v qs)(E:sX w w'):X3 L w'.heap v qs:=⟨h.arr.I E,λq G=>(h.each q G).I E,h.nm⟩
theorem X3.st {L:LN}{w w':O1}{v:O2}{qs:List IV}(h:X3 L w.heap v qs)(E:O5 L w w'):X3 L w'.heap v qs:=⟨h.arr.st E,λq G=>(h.each q G).st E,h.nm⟩
theorem X3.up {L L':LN}{H:xC}{v:O2}{qs:List IV}(h:X3 L H v qs)(E:∀b∈L',b∈L\/H.size<=b):X3 L' H v qs:=⟨h.arr.up E,λq G=>(h.each q G).up E,h.nm⟩
theorem jA.I {L:LN}{w w':O1}{v:O2}{qs:List XV}(h:jA L w.heap v qs)(E:sX w w'):jA L w'.heap v qs:=⟨h.arr.I E,λq G=>(h.each q G).I E,h.nm⟩
theorem jA.st {L:LN}{w w':O1}{v:O2}{qs:List XV}(h:jA L w.heap v qs)(E:O5 L w w'):jA L w'.heap v qs:=⟨h.arr.st E,λq G=>(h.each q G).st E,h.nm⟩
theorem jA.up {L L':LN}{H:xC}{v:O2}{qs:List XV}(h:jA L H v qs)(E:∀b∈L',b∈L\/H.size<=b):jA L' H v qs:=⟨h.arr.up E,λq G=>(h.each q G).up E,h.nm⟩
theorem jw.I {L:LN}{w w':O1}{v:O2}{qs:List KV}(h:jw L w.heap v qs)(E:sX w w'):jw L w'.heap v qs:=⟨h.arr.I E,λq G=>(h.each q G).I E,h.nm⟩
theorem jw.st {L:LN}{w w':O1}{v:O2}{qs:List KV}(h:jw L w.heap v qs)(E:O5 L w w'):jw L w'.heap v qs:=⟨h.arr.st E,λq G=>(h.each q G).st E,h.nm⟩
theorem jw.up {L L':LN}{H:xC}{v:O2}{qs:List KV}(h:jw L H v qs)(E:∀b∈L',b∈L\/H.size<=b):jw L' H v qs:=⟨h.arr.up E,λq G=>(h.each q G).up E,h.nm⟩
structure CL where
 ve:O2
 vc:O2
 vr:O2
 vx:O2
 vk:O2
 ev:List Ko
 co:List IV
 rq:List IV
 ex:List XV
 cs:List KV
def CL.V (c:CL):ZF:=⟨c.ev,c.co.map (·.it),c.rq.map (·.it),c.ex.map (·.x),c.cs.map (·.k)⟩
abbrev CL.cells (c:CL):LV:=[c.ve,c.vc,c.vr,c.vx,c.vk]
abbrev CL.val (c:CL):O2:=.agg #[c.ve,c.vc,c.vr,c.vx,c.vk]
structure ZH (L:LN)(H:xC)(c:CL):Prop where
 ev:Ud L H c.ve c.ev
 co:X3 L H c.vc c.co
 rq:X3 L H c.vr c.rq
 ex:jA L H c.vx c.ex
 cs:jw L H c.vk c.cs
theorem ZH.I {L:LN}{w w':O1}{c:CL}(h:ZH L w.heap c)(E:sX w w'):ZH L w'.heap c:=⟨h.ev.I E,h.co.I E,h.rq.I E,h.ex.I E,h.cs.I E⟩
theorem ZH.st {L:LN}{w w':O1}{c:CL}(h:ZH L w.heap c)(E:O5 L w w'):ZH L w'.heap c:=⟨h.ev.st E,h.co.st E,h.rq.st E,h.ex.st E,h.cs.st E⟩
theorem ZH.up {L L':LN}{H:xC}{c:CL}(h:ZH L H c)(E:∀b∈L',b∈L\/H.size<=b):ZH L' H c:=⟨h.ev.up E,h.co.up E,h.rq.up E,h.ex.up E,h.cs.up E⟩
theorem ZH.ones {c:CL}(h:ZH L H c):Zb c.cells:=⟨h.ev.arr.one,h.co.arr.one,h.rq.arr.one,h.ex.arr.one,h.cs.arr.one,Z⟩
def QeQ (N:Nat)(H:xC)(v:O2)(k:ZF):Prop:=∃c:CL,v=c.val/\c.V=k/\∀L:LN,(∀b∈L,b<N)->ZH L H c
theorem V6 (s:ByteArray)(ha:JD s)(w:O1):QZ sV 147 [.string s] w λr w'=>r=.bool (Xj s)/\w'=w:=by
 unfold JD at ha;refine Zq func147 ?_;refine Qc<|Qb<|Qe<|Qj<|x (Qd2 U)<|Qa<|xe<|Q8 (α:=Nat) [(2,5),(8,46)] (λz=>[(8,sS z)]) (λz w'=>w'=w/\z<=s.size/\(oS z (s.size - z)).all (nmQ s)=(oS 0 s.size).all (nmQ s)) (λz=>s.size - z) 0 La ⟨U,Ln _,by rw[NN]⟩ ?_;rintro k g Y ⟨rfl,hk,E⟩;refine Zn rfl U (λG=>?_) (λG=>?_)
 ·refine Qw ?_;have hb:s.size<=k:=by have he:¬(k:Int)<(s.size:Int):=G;omega
  rw[QlS hb]at E;have H:Xj s=decide (0<s.size/\s.size<=32):=by unfold Xj;rw[<-E];simp
  rw[H];refine QX (α:=Bool) [(2,2),(47,54)] (λz=>[(2,.bool z)]) (λz w'=>w'=Y/\z=decide (0<s.size/\s.size<=32)) om ?_ ?_
  ·refine Qs<|Qa<|x (Qd2 U)<|xb (Yd U U) (λhf=>?_) (λhf=>?_)
   ·refine Qa<|Qa<|x (Qd2 U)<|x (Vg U U)<|QE U<|Qb<|⟨_,La,U,by first|exact bT oa|exact bF oa|exact bD oa⟩
   refine Qa<|Zu<|QE U<|Qb<|⟨_,La,U,by first|exact bT oa|exact bF oa|exact bD oa⟩
  rintro z g w2 ⟨rfl,rfl⟩;exact Qh ⟨[_],La,U,U⟩
 have I:k<s.size:=by have he:(k:Int)<(s.size:Int):=G;omega
 rw[Qis I,L7]at E;refine Qf<|Qe<|Qm<|Qj<|Qb<|Qj<|Qa<|x (QiD (i:=k) U U I)<|Qb ?_;have J:nmQ s k=decide (nmP k (chr s k)):=rfl;refine Zh (chr s k) λc O=>?_;rw[O]at J;refine QX (α:=Bool) [(5,5),(14,31)] (λz=>[(5,.bool z)]) (λz w'=>w'=Y/\z=decide ((97<=c/\c<=122)\/(65<=c/\c<=90)\/c=95)) om ?_ ?_
 ·rw[<-O];refine Qs<|Qa<|xb (YA U U) (λhg=>?_) (λhg=>?_)
  ·refine Qa<|Qa<|xb (Vg U U) (λhh=>?_) (λhh=>?_)
   ·refine QE U<|Qa<|Zu<|Zu<|QE U<|Qa<|Yq<|x (qD U) <|
     Qb<|⟨_,La,U,by first|exact bT oa|exact bF oa|exact bD oa⟩
   refine QE U<|Qa<|Qa<|xb (YA U U) (λS=>?_) (λS=>?_)
   ·refine Qa<|Qa<|xb (Vg U U) (λT=>?_) (λT=>?_)
    ·refine QE U<|QE U<|Qa<|Yq<|QE U<|Qb<|⟨_,La,U,by first|exact bT oa|exact bF oa|exact bD oa⟩
    refine QE U<|QE U<|Qa<|Qa<|x (QT U U)<|QE U<|Qb<|⟨_,La,U,by first|exact bT oa|exact bF oa|exact bD oa⟩
   refine Qa<|Yq<|QE U<|QE U<|Qa<|Qa<|x (QT U U)<|QE U<|x Qi <|
    xe ?_
   exact⟨_,La,U,by first|exact bT oa|exact bF oa|exact bD oa⟩
  refine Qa<|Yq<|QE U<|Qa<|Qa<|xb (YA U U) (λS=>?_) (λS=>?_)
  ·refine Qa<|Qa<|xb (Vg U U) (λT=>?_) (λT=>?_)
   ·refine QE U<|QE U<|Qa<|Yq<|QE U<|Qb<|⟨_,La,U,by first|exact bT oa|exact bF oa|exact bD oa⟩
   refine QE U<|QE U<|Qa<|Qa<|x (QT U U)<|QE U<|Qb<|⟨_,La,U,by first|exact bT oa|exact bF oa|exact bD oa⟩
  refine Qa<|Yq<|QE U<|QE U<|Qa<|Qa<|x (QT U U)<|QE U<|x Qi <|
   xe ?_
  exact⟨_,La,U,by first|exact bT oa|exact bF oa|exact bD oa⟩
 rintro z g w4 ⟨rfl,rfl⟩;refine QX (α:=Bool) [(32,45)] (λz=>[(45,.bool z)]) (λz w'=>w'=w4/\z=decide (¬nmP k c)) om ?_ ?_
 ·unfold nmP;rw[<-O];refine Qs<|Qa<|xb (yy U) (λhi=>?_) (λhi=>?_)
  ·refine Qa<|Qa<|xb (QT U U) (λhj=>?_) (λhj=>?_)
   ·refine Qa<|Yq<|QE U<|Qa<|Yq<|QE U<|QE U<|xe ?_;exact⟨_,La,U,by first|exact bT oa|exact bF oa|exact bD oa⟩
   refine Qa<|Qa<|xb (YW U U) (λhl=>?_) (λhl=>?_)
   ·refine QE U<|Qa<|Yq<|QE U<|QE U<|xe ?_;exact⟨_,La,U,by first|exact bT oa|exact bF oa|exact bD oa⟩
   refine QE U<|Qa<|Qa<|x (Yd U U)<|QE U<|QE U<|xe ?_;exact⟨_,La,U,by first|exact bT oa|exact bF oa|exact bD oa⟩
  refine Qa<|Zu<|Zu<|Zu<|Kz<|QE U<|xe ?_;exact⟨_,La,U,by first|exact bT oa|exact bF oa|exact bD oa⟩
 rintro z g w5 ⟨rfl,rfl⟩;refine QO rfl (λV=>?_) (λV=>?_)
 ·refine Qc<|Qb ?_;have H:Xj s=false:=by
   unfold Xj;rw[<-E,J,OZ V];rfl
  exact Qh ⟨[_],La,by rw[H];rfl,U⟩
 refine Qf ?_;have hm:nmP k c:=Lo.1 V;refine Qs<|QG U U<|Qa<|xe ?_;rw[J,OX hm,OO]at E;exact⟨k+1,oa,La,U,I,E⟩
def nmM (l:List ByteArray):List (ByteArray×O2):=l.map λs=>(s,.bool true)
theorem Ql9 (l:List ByteArray)(s:ByteArray):xd (nmM l) s=if s∈l then some (.bool true)else none:=by
 induction l with
 | nil=>rfl
 | cons a l ih =>
  show(if a=s then some (Value.bool true)else xd (nmM l) s)=_
  rw[ih];by_cases h:a=s
  ·subst h;simp
  have:s≠a:=λe=>h e.symm;simp[h,this]
theorem Qff {l:List ByteArray}{s:ByteArray}(h:s∉l):xh (nmM l) s (.bool true)=nmM (l++[s]):=by
 induction l with
 | nil=>rfl
 | cons a l ih =>
  have E:a≠s:=λe=>h (by subst e;exact Lq);show(if a=s then(a,Value.bool true)::nmM l else(a,Value.bool true)::xh (nmM l) s (.bool true))=_
  rw[OT E,ih (λG=>h (Lj _ G))];rfl
section
variable {pS:String}
theorem Qcu [hm:Mp P t kt et (.bool false)][hk:Key P kt JY]{x:O3}{l:List ByteArray}{s:ByteArray}(h:Yr JY w.heap b (nmM l))(hx:ev f x=.map (some b))(E:ev f y=.string s):
  (execOp (ev f) ⟨d,.lookup t x y false,ty,pS,af,gd⟩).run P w=.ok (.value (.bool (decide (s∈l)))) w:=by
 rw[JL h hx E,Ql9];by_cases G:s∈l <;> simp[G]
end
theorem Qey {s:List ByteArray}{l:List Ko}{k:Nat}(h:k<l.length):zk s (l.drop k)=if Jy s (l[k]'h)≠0 then Jy s (l[k]'h)else zk (s++[(l[k]'h).nm]) (l.drop (k+1)):=by
 rw[Zc h];rfl
theorem jc {v:O2}{l:List Ko}(h:Ud L w.heap v l):QZ sV 81 [v] w λr w'=>r=sS (Kt l)/\sX w w':=by
 have h0:=h.arr.le;refine Zq func81 ?_;refine Qc<|Qb<|Qe<|Qj<|QF h.arr U<|x (Yd U U)<|xe<|QO rfl (λh8=>?_) (λh8=>?_)
 ·refine Qc<|Qb<|Qh ⟨[_],La,by unfold Kt;rw[OU (by have h9:(32:Int)<(l.length:Int):=h8;omega)];rfl,O5.Z _ _⟩
 have hl:Kt l=zk [] l:=by unfold Kt;rw[OT (by have h9:¬(32:Int)<(l.length:Int):=h8;omega)]
 rw[hl];refine Qf<|Qc<|Qn<|YL JY λb9 w1 hg hm ho=>Qb<|Qe<|Qj<|QF (h.arr.I hg) U<|Qa<|xe<|Q8 (α:=Nat×List ByteArray) [(2,2),(5,5),(12,50)] (λz=>[(12,sS z.1)]) (λz w'=>z.1<=l.length/\sX w w'/\Yr JY w'.heap b9 (nmM z.2)/\zk z.2 (l.drop z.1)=zk [] l) (λz=>l.length - z.1) (0,[]) La
  ⟨Ln _,hg,ho,U⟩ ?_
 rintro⟨k,sn⟩ g w2 ⟨hk,I,hp,G⟩;refine Zn rfl U (λha=>?_) (λha=>?_)
 ·refine Qw ?_;have hq:l.length<=k:=by have hr:¬(k:Int)<(l.length:Int):=ha;omega
  rw[Ls hq]at G;refine Qc<|Qb<|Qh ⟨[_],La,by rw[<-G];rfl,I⟩
 have T:k<l.length:=by have hr:(k:Int)<(l.length:Int):=ha;omega
 rw[Qey T]at G;have hh:=h.nm _ (Ll T);refine Qf<|Qe<|Qm<|Qc<|O8 U8 (h.arr.I I) U U T λh2 hi=>?_;refine Zh (l[k]'T) λe he=>?_;rw[he]at hi G hh;refine x (Qr hi U U)<|QM [.string .empty,.bool false,.bool false,.bool false,sS 0] λb5 w3 hs ht H=>QI (Zt e) H ⟨U,U,U,U,U,Z⟩ λw4 hu H =>
  xe ?_
 have J:sX w2 w4:=hs.O hu ht;have hj:=hp.I J;refine Qe<|Qm<|Qc<|Qo U H U U<|Qz<|(V6 e.nm hh _).mono ?_;rintro r5 w5 ⟨rfl,rfl⟩;refine x (ZC U)<|Qb<|QU U (λhb=>?_) (λhb=>?_)
 ·have O:Xj e.nm=false:=by simpa using hb
  have E:Jy sn e=7:=by unfold Jy;rw[OU O]
  refine Qc<|Qb<|Qh ⟨[_],La,by rw[<-G,E];rfl,I.D J⟩
 have O:¬Xj e.nm=false:=by simpa using hb
 refine Qj<|Qo U H U U<|x (Qcu hj U U)<|Qb<|QO U (λS=>?_) (λS=>?_)
 ·have E:Jy sn e=8:=by unfold Jy;rw[OT O,OU S]
  refine Qc<|Qb<|Qh ⟨[_],La,by rw[<-G,E];rfl,I.D J⟩
 refine QX (α:=Bool) [(26,34)] (λz=>[(26,.bool z)]) (λz w'=>w'=w5/\z=decide (e.fl<0\/4<e.fl)) om ?_ ?_
 ·refine Qs<|Qo U H U U<|xb (YW U U) (λhv=>?_) (λhv=>?_)
  ·refine Qa<|Zu<|QE U<|Qb<|⟨_,La,U,by first|exact bT oa|exact bF oa|exact bD oa⟩
  refine Qa<|Qo U H U U<|x (Yd U U)<|QE U<|Qb<|⟨_,La,U,by first|exact bT oa|exact bF oa|exact bD oa⟩
 rintro z g w6 ⟨rfl,rfl⟩;refine QO rfl (λV=>?_) (λV=>?_)
 ·have E:Jy sn e=2:=by unfold Jy;rw[OT O,OT S,OU V]
  refine Qc<|Qb<|Qh ⟨[_],La,by rw[<-G,E];rfl,I.D J⟩
 refine QX (α:=Bool) [(35,46)] (λz=>[(35,.bool z)]) (λz w'=>w'=w6/\z=decide (e.fl≠0/\(e.co || e.ob)=true)) om ?_ ?_
 ·refine Qs<|Qo U H U U<|xb (XM U U) (λY=>?_) (λY=>?_)
  ·refine Qa<|QQ U<|xB (Ql H U U) (λhc=>?_) (λhc=>?_)
   ·refine Qa<|Yq<|QE U<|QE U<|Qb<|⟨_,La,U,by rw[hc,OX ⟨Y,od⟩]⟩
   refine Qa<|Qo U H U U<|QE U<|QE U<|Qb<|⟨_,La,U,?_⟩;show e.ob=_;rw[hc];cases e.ob <;> simp[show ¬e.fl=0 from Y]
  refine Qa<|Zu<|Zu<|QE U<|Qb<|⟨_,La,U,bF (λE=>Y E.1)⟩
 rintro z g w7 ⟨rfl,rfl⟩;refine QO rfl (λhf=>?_) (λhf=>?_)
 ·have E:Jy sn e=13:=by unfold Jy;rw[OT O,OT S,OT V,OU hf]
  refine Qc<|Qb<|Qh ⟨[_],La,by rw[<-G,E];rfl,I.D J⟩
 have E:Jy sn e=0:=by unfold Jy;rw[OT O,OT S,OT V,OT hf]
 rw[E,OT (λh=>h rfl)]at G;refine Qf<|Qs<|Qa<|Qo U H U U<|Qn<|XW (k:=e.nm) hj U U λw8 hw hy=>xe ?_;refine Qs<|QG U U<|Qa<|xe ?_;have hz:Yr JY w8.heap b9 (nmM (sn++[e.nm])):=by rw[<-Qff S];exact hy
 exact⟨(k+1,sn++[e.nm]),og,La,T,(I.D J).O hw hm,hz,G⟩
theorem QcM {α:Type}(q:α->Bool)(x:α):∀(l:List α) (i:Nat),ixs q i (l++[x])=ixs q i l++if q x=true then[((i+l.length:Nat):Int)]else[]
 | [],i=>by simp[ixs]
 | a::l,i=>by
  simp only[Oh,ixs,(QcM q x l (i+1)),oX];rw[show i+1+l.length=i+(l.length+1) by omega];split <;> simp
theorem QbC {α:Type}(q:α->Bool):∀(l:List α) (i:Nat),(ixs q i l).length<=l.length
 | [],i=>by simp[ixs]
 | a::l,i=>by
  have ih:=QbC q l (i+1);unfold ixs;split <;> simp <;> omega
theorem Qjs (q:α->Bool){l:List α}{k:Nat}(h:k<l.length):ixs q 0 (l.take (k+1))=ixs q 0 (l.take k)++if q (l[k]'h)=true then[(k:Int)]else[]:=by
 rw[Lm h,QcM];simp[Nat.min_eq_left (Nat.le_of_lt h)]
theorem Qhr [Fu sV g fn]{q:Ko->Bool}(hq:∀(e:Ko) (w:O1),QZ sV g [sT (Zt e)] w λr w'=>r=.bool (q e)/\sX w w'){v:O2}{l:List Ko}(h:Ud L w.heap v l):
  QZ sV 237 [v,.func (.func g) #[] #[]] w λr w'=>sX w w'/\Qq 3 ↑w w' r (ixs q 0 l):=by
 have hr:=h.arr.le;refine Zq func237 ?_;refine Qc<|Qb<|Qc<|Qb<|Qe<|Qj<|QF h.arr U<|Qa<|xe<|Q8 (α:=Nat×O2) [(5,7),(10,22)] (λz=>[(5,z.2),(10,sS z.1)]) (λz w'=>z.1<=l.length/\sX w w'/\Qq 3 ↑w w' z.2 (ixs q 0 (l.take z.1))) (λz=>l.length - z.1) (0,nS) oB
  ⟨Ln _,O5.Z _ _,QD _ _ _ _⟩ ?_
 rintro⟨k,vo⟩ g w1 ⟨hk,E,I⟩;simp only[]at hk I;refine Zn rfl U (λO=>?_) (λO=>?_)
 ·refine Qw ?_;have hc:l.length<=k:=by have hf:¬(k:Int)<(l.length:Int):=O;omega
  rw[Lt hc]at I;refine Qj<|Qb<|Qh ⟨[_],La,E,I⟩
 have G:k<l.length:=by have hf:(k:Int)<(l.length:Int):=O;omega
 have H:=Qjs q G;have hs:=QbC q (l.take k) 0;have ht:(l.take k).length=k:=by simp;omega
 refine Qf<|Qe<|Qm<|Qj<|O8 U8 (h.arr.I E) U U G λhu ha=>?_;refine Zh (l[k]'G) λe he=>?_;rw[he]at ha H;refine x (Qr ha U U)<|QM [.string .empty,.bool false,.bool false,.bool false,sS 0] λb7 w2 hg hh S=>x Qi <|
  QI (Zt e) S ⟨U,U,U,U,U,Z⟩ λw3 hi S=>xe ?_
 have hj:sX w1 w3:=hg.O hi hh;refine Qj<|QS S U U<|Qn<|xc (first:=[]) (capt:=[]) U<|(hq e w3).mono ?_;rintro r4 w4 ⟨rfl,hl⟩;have J:=hj.D hl;have T:=Qk I J;have hv:=(E.D J).size;refine xe<|QU rfl (λV=>?_) (λV=>?_)
 ·rw[OU V]at H;refine Qs<|Qa<|Qa<|Qn<|Za [[sS k]] λhw w5 Y hy hm=>?_;have hn:=Qk T Y;have hz:=Y.size;refine Qn<|Q2 (news:=[sS k]) (L:=[]) hn U U U (hm.at od) oq oa oa λv6 w6 ho hp h0 =>
   Qb<|Qs<|QG U U<|Qa<|xe ?_
  refine⟨(k+1,v6),og,oB,G,((E.D J).D Y).then hp (λb hb=>.inr ((Qg T) b hb).1),?_⟩;simp only[];rw[H];exact Qq.snoc ho
 rw[OT (by rw[V];decide),LR]at H;refine Qf<|Qs<|QG U U<|Qa<|xe ?_;exact⟨(k+1,vo),og,oB,G,E.D J,by simp only[];rw[H];exact T⟩
theorem QeG (e:Ko)(w:O1):QZ sV 232 [sT (Zt e)] w λr w'=>r=.bool (!e.co)/\sX w w':=by
 refine Zq func232 ?_;refine Qc<|Zl (Zt e) λb1 H E I G=>Qb<|Qc<|Qo U G U U<|x (ZC U)<|Qb<|Qh ⟨[_],La,U,E⟩
theorem QhF {v:O2}{l:List Ko}(h:Ud L w.heap v l):QZ sV 163 [v,sS 2] w λr w'=>sX w w' /\
  ∃vo,r=.tuple #[vo,sS (Kt l)]/\Qq 3 ↑w w' vo (if Kt l=0 then unc l else[]):=by
 refine Zq func163 ?_;refine Qc<|x Qi<|Qb<|Qe<|Qj<|Qz<|(jc h).mono ?_;rintro r1 O ⟨rfl,I⟩;refine Qb<|Qj<|Zx U U<|xe<|QO rfl (λG=>?_) (λG=>?_)
 ·refine Qj<|x Qi<|Qb<|Qh ⟨[_,_],oB,I,_,U,by rw[OT G];exact QD _ _ _ _⟩
 have J:Kt l=0:=Lo.1 G;refine Qf<|Qc<|Qn<|YL Uv λho w2 S E T=>Qn<|Jl (k:=1) T U U λw3 V Y=>Qn<|Jl (k:=2) Y U U λw4 ha hb =>
  Qn<|Jl (k:=3) hb U U λw5 hc he=>Qn<|Jl (k:=4) he U U λw6 hf hg=>Qn<|Jl (k:=5) hg U U λw7 hh hi=>Qn<|Jl (k:=6) hi U U λw8 hj hk =>
  Qa<|Qb ?_
 have hl:sX O w8:=(((((S.O V E).O ha E).O hc E).O hf E).O hh E).O hj E;refine Qj<|Qa<|x (Qad (k:=(2:Int)) hk U U U)<|Qa<|QW U U<|QW U U<|x Qi<|Qb<|Qe<|Qj<|x (ZC U)<|xe<|ZO rfl<|Qf ?_;have H:=I.D hl;refine Qj<|Qa<|Qz<|(Qhr QeG (h.I H)).mono ?_;rintro r9 w9 ⟨hm,hn⟩;refine x Qi<|Qb<|Qh ⟨[_,_],oB,H.D hm,_,by rw[J];rfl,?_⟩;rw[OU J];exact Zz hn H.size
theorem QcR (n:Int)(w:O1):QZ sV 222 [sS n] w λr w'=>r=.bool (grt n)/\w'=w:=by
 refine Zq func222 ?_;refine Qc<|Qb<|QX (α:=Bool) [(2,8)] (λz=>[(2,.bool z)]) (λz w'=>w'=w/\z=grt n) om ?_ ?_
 ·refine Qs<|Qa<|xb (YW U U) (λE=>?_) (λE=>?_)
  ·refine Qa<|Yq<|QE U<|Qb<|⟨_,La,U,by unfold grt;rw[OX E];rfl⟩
  refine Qa<|Qa<|x (Yd U U)<|QE U<|Qb<|⟨_,La,U,by unfold grt;rw[OZ E];rfl⟩
 rintro z g G ⟨rfl,rfl⟩;exact Qh ⟨[_],La,U,U⟩
theorem Qex {sz:LI}{ls:xx}{k:Nat}(h:k<ls.length):X5 sz (pv (ls.map (·.1)) k) (ls.drop k)=if(ls[k]'h).1<0\/(sz.length:Int)<=(ls[k]'h).1 then 2 else if jH (pv (ls.map (·.1)) k) (ls[k]'h).1=true then 5 else if(ls[k]'h).2<0\/O6 sz (ls[k]'h).1.toNat<=(ls[k]'h).2 then 2 else X5 sz (pv (ls.map (·.1)) (k+1)) (ls.drop (k+1)):=by
 rw[Zc h,VS (oA h),Mq];rfl
theorem qg {sz:LI}{ls:xx}{nm:ByteArray}(hS:QL [] w.heap vs sz)(O:jP [] w.heap vl ls):
  QZ sV 157 [.agg #[vs,vx,vk],.agg #[.string nm,vl]] w λr w'=>r=sS (Jp sz ls)/\sX w w':=by
 have hG:=O.le;refine Zq func157 ?_;refine Qc<|Zl [vs,vx,vk] λb2 w1 hz hH Y=>Zl [.string nm,vl] λb3 w2 hq hI ha=>Qb ?_;have H:=hz.D hq
 replace Y:=Y.I hq;refine Qe<|Qc<|Qo U ha U U<|QF (O.I H) U<|x (QT U U)<|xe<|QO rfl (λhb=>?_) (λhb=>?_)
 ·refine Qc<|Qb<|Qh ⟨[_],La,by unfold Jp;rw[OU (by have h0:(ls.length:Int)=0:=hb;omega)];rfl,H⟩
 have h1:ls.length≠0:=by have h0:¬(ls.length:Int)=0:=hb;omega
 have h2:Jp sz ls=X5 sz none ls:=by unfold Jp;rw[OT h1]
 rw[h2];refine Qf<|Qe<|Qc<|Qo U ha U U<|QF (O.I H) U<|Qa<|xe<|Q8 (α:=Nat) [(4,6),(14,61)] (λz=>[(14,sS z)]) (λz w'=>z<=ls.length/\sX w2 w'/\X5 sz (pv (ls.map (·.1)) z) (ls.drop z)=X5 sz none ls) (λz=>ls.length - z) 0 La
  ⟨Ln _,O5.Z _ _,U⟩ ?_
 rintro k g w3 ⟨hk,S,G⟩;have hf:=H.D S;have hr:=Y.I S;have hs:=O.I hf;have ht:=hS.I hf;refine Zn rfl U (λhg=>?_) (λhg=>?_)
 ·refine Qw ?_;have h3:ls.length<=k:=by have h4:¬(k:Int)<(ls.length:Int):=hg;omega
  rw[Ls h3]at G;refine Qc<|Qb<|Qh ⟨[_],La,by rw[<-G];rfl,hf⟩
 have T:k<ls.length:=by have h4:(k:Int)<(ls.length:Int):=hg;omega
 rw[Qex T]at G;refine Qf<|Qe<|Qm<|Qj<|O8 YJ hs U U T λhJ hu=>?_;refine Zh (ls[k]'T) λe he=>?_;rw[he]at hu G;refine x (Qr hu U U)<|QM [sS 0,sS 0] λb6 w4 h5 h6 J=>x Qi<|QI (QC e) J oB λw5 h7 J=>xe ?_;have I:sX w3 w5:=h5.O h7 h6;have hv:=S.D I;refine Qm<|QX (α:=Bool) [(19,30)] (λz=>[(19,.bool z)]) (λz w'=>w'=w5/\z=decide (e.1<0\/(sz.length:Int)<=e.1)) om ?_ ?_
 ·refine Qs<|Qo U J U U<|xb (YW U U) (λh8=>?_) (λh8=>?_)
  ·refine Qa<|Zu<|Zu<|QE U<|Qb<|⟨_,La,U,by first|exact bT oa|exact bF oa|exact bD oa⟩
  refine Qa<|Qo U J U U<|Qo U (hr.I I) U U<|QF (ht.I I) U<|x (YA U U) <|
   QE rfl<|Qb<|⟨_,La,U,by first|exact bT oa|exact bF oa|exact bD oa⟩
 rintro z g w6 ⟨rfl,rfl⟩;refine QO rfl (λhh=>?_) (λhh=>?_)
 ·rw[OU hh]at G;refine Qc<|Qb<|Qh ⟨[_],La,by rw[<-G];rfl,H.D hv⟩
 rw[OT hh]at G;have h9:e.1=((e.1.toNat:Nat):Int):=oa
 have hA:e.1.toNat<sz.length:=oa
 refine QX (α:=Bool) [(31,45)] (λz=>[(31,.bool z)]) (λz w'=>sX w6 w'/\z=jH (pv (ls.map (·.1)) k) e.1) om ?_ ?_
 ·refine ZA [] (YX 0 15 [])<|p Qx<|pb (λ_=>Yd U U) (λhi=>?_) (λhi=>?_)
  ·have hj:k≠0:=by have hB:(0:Int)<(k:Int):=hi;omega
   have hk1:((k:Int) - 1)=((k - 1:Nat):Int):=oa
   have hm:k - 1<ls.length:=oa
   refine p Qx<|p (QJ U)<|pq (λ_ E=>Ql (J.I E) U U)<|p (QJ U)<|pq (λ_ E=>Ql (((ha.I S).I I).I E) U U) <|
    p Qx<|p (λ_=>Jk U U ⟨oa,oa⟩)<|Lg.pig (g:=QC) (i:=k - 1) U YJ (hs.I I) U (OV sS hk1) hm λhK hC=>p (λ_=>Zf U) <|
    pq (λ_ E=>Qy ((hC.fld 0 _ U).I E) U)<|p (λ_=>Vg U U)<|p (Y7 U)<|p ZG<|pe ?_
   refine⟨_,La,O5.C _ _,?_⟩;have:pv (ls.map (·.1)) k=some (ls[k - 1]'hm).1:=by simp[pv,hj,hm]
   rw[this];rfl
  have hj:k=0:=by have hB:¬(0:Int)<(k:Int):=hi;omega
  refine p Qx<|ps<|ps<|ps<|ps<|ps<|ps<|ps<|ps<|ps<|ps<|p (Y7 U)<|p ZG<|pe ?_;exact⟨false,La,O5.C _ _,by simp[pv,hj,jH]⟩
 rintro z g w7 ⟨V,rfl⟩;have hw:=hv.D V;refine QU rfl (λhn=>?_) (λhn=>?_)
 ·rw[OU hn]at G;refine Qc<|Qb<|Qh ⟨[_],La,by rw[<-G];rfl,H.D hw⟩
 rw[OT (by simp[hn])]at G;have ho:=J.I V;refine QX (α:=Bool) [(46,60)] (λz=>[(46,.bool z)]) (λz w'=>sX w7 w'/\z=decide (e.2<0\/O6 sz e.1.toNat<=e.2)) om ?_ ?_
 ·refine ZA [] (YX 0 15 [])<|p (QJ U)<|pq (λ_ E=>Ql (ho.I E) U U)<|pb (λ_=>YW U U) (λhD=>?_) (λhD=>?_)
  ·refine p Qx<|ps<|ps<|ps<|ps<|ps<|ps<|ps<|ps<|ps<|p (Y7 U)<|p ZG<|pe ?_;exact⟨_,La,O5.C _ _,by first|exact bT oa|exact bF oa|exact bD oa⟩
  refine p Qx<|p (QJ U)<|pq (λ_ E=>Ql (ho.I E) U U)<|p (QJ U)<|pq (λ_ E=>Ql (((hr.I I).I V).I E) U U) <|
   p (QJ rfl)<|pq (λ_ E=>Ql (ho.I E) U U)<|pic (i:=e.1.toNat) U ((ht.I I).I V) U (OV sS h9) hA λhL hE=>pq (λ_ E=>Qy (hE.I E) U) <|
   p (λ_=>YA U U)<|p (Y7 U)<|p ZG<|pe ?_
  exact⟨_,La,O5.C _ _,by first|exact bT oa|exact bF oa|exact bD oa⟩
 rintro z g w8 ⟨hF,rfl⟩;have hy:=hw.D hF;refine QO rfl (λhp=>?_) (λhp=>?_)
 ·rw[OU hp]at G;refine Qc<|Qb<|Qh ⟨[_],La,by rw[<-G];rfl,H.D hy⟩
 rw[OT hp]at G;refine Qf<|Qs<|QG U U<|Qa<|xe ?_;exact⟨k+1,oa,La,T,hy,G⟩
theorem Qew {sz:LI}{ls:xx}{k:Nat}(h:k<ls.length):Kl sz (pv (ls.map (·.1)) k) (ls.drop k)=if(ls[k]'h).1<0\/(sz.length:Int)<=(ls[k]'h).1 then 2 else if jH (pv (ls.map (·.1)) k) (ls[k]'h).1=true then 5 else if(ls[k]'h).2=0\/grt (ls[k]'h).2=true then 2 else Kl sz (pv (ls.map (·.1)) (k+1)) (ls.drop (k+1)):=by
 rw[Zc h,VS (oA h),Mq];rfl
theorem UE {sz:LI}{ls:xx}{nm:ByteArray}{bd:Int}(hS:QL [] w.heap vs sz)(O:jP [] w.heap vl ls):
  QZ sV 159 [.agg #[vs,vx,vk],.agg #[.string nm,vl,sS bd]] w λr w'=>r=sS (XJ sz ⟨nm,ls,bd⟩)/\sX w w':=by
 have hF:=O.le;refine Zq func159 ?_;refine Qc<|Zl [vs,vx,vk] λb2 w1 h1 hG Y=>Zl [.string nm,vl,sS bd] λb3 w2 hr hH ha=>Qb ?_;have G:=h1.D hr
 replace Y:=Y.I hr;refine Qe<|Qc<|Qo U ha U U<|QF (O.I G) U<|x (QT U U)<|xe<|QO rfl (λhb=>?_) (λhb=>?_)
 ·refine Qc<|Qb<|Qh ⟨[_],La,by unfold XJ;rw[OU (by have h2:(ls.length:Int)=0:=hb;show ls.length=0;omega)];rfl,G⟩
 have h3:ls.length≠0:=by have h2:¬(ls.length:Int)=0:=hb;omega
 have h4:XJ sz ⟨nm,ls,bd⟩=if Kl sz none ls≠0 then Kl sz none ls else if grt bd=true then 2 else 0:=by unfold XJ;rw[OT h3]
 rw[h4];refine Qf<|Qe<|Qc<|Qo U ha U U<|QF (O.I G) U<|Qa<|xe<|Q8 (α:=Nat) [(4,6),(14,55)] (λz=>[(14,sS z)]) (λz w'=>z<=ls.length/\sX w2 w'/\Kl sz (pv (ls.map (·.1)) z) (ls.drop z)=Kl sz none ls) (λz=>ls.length - z) 0 La
  ⟨Ln _,O5.Z _ _,U⟩ ?_
 rintro k g w3 ⟨hk,S,E⟩;have T:=G.D S;have hs:=ha.I S;have ht:=O.I T;refine Zn rfl U (λhf=>?_) (λhf=>?_)
 ·refine Qw ?_;have h5:ls.length<=k:=by have h6:¬(k:Int)<(ls.length:Int):=hf;omega
  rw[Ls h5]at E;have h7:Kl sz none ls=0:=E.symm;rw[h7,OT (λh=>h rfl)];refine Qe<|Qc<|Qo U hs U U<|Qz<|(QcR bd _).mono ?_;rintro r4 w4 ⟨rfl,rfl⟩;refine xe<|QU U (λhh=>?_) (λhh=>?_)
  ·rw[OU hh];refine Qc<|Qb<|Qh ⟨[_],La,U,T⟩
  rw[OT (by simp[hh])];refine Qf<|Qc<|Qb<|Qh ⟨[_],La,U,T⟩
 have V:k<ls.length:=by have h6:(k:Int)<(ls.length:Int):=hf;omega
 rw[Qew V]at E;refine Qf<|Qe<|Qm<|Qj<|O8 YJ ht U U V λhI hu=>?_;refine Zh (ls[k]'V) λe he=>?_;rw[he]at hu E;refine x (Qr hu U U)<|QM [sS 0,sS 0] λb6 w4 h8 h9 H=>x Qi<|QI (QC e) H oB λw5 hA H=>xe ?_;have I:sX w3 w5:=h8.O hA h9;have hv:=S.D I;refine Qm<|QX (α:=Bool) [(19,30)] (λz=>[(19,.bool z)]) (λz w'=>w'=w5/\z=decide (e.1<0\/(sz.length:Int)<=e.1)) om ?_ ?_
 ·refine Qs<|Qo U H U U<|xb (YW U U) (λhB=>?_) (λhB=>?_)
  ·refine Qa<|Zu<|Zu<|QE U<|Qb<|⟨_,La,U,by first|exact bT oa|exact bF oa|exact bD oa⟩
  refine Qa<|Qo U H U U<|Qo U ((Y.I S).I I) U U<|QF ((hS.I T).I I) U<|x (YA U U) <|
   QE rfl<|Qb<|⟨_,La,U,by first|exact bT oa|exact bF oa|exact bD oa⟩
 rintro z g w6 ⟨rfl,rfl⟩;refine QO rfl (λhi=>?_) (λhi=>?_)
 ·rw[OU hi]at E;refine Qc<|Qb<|Qh ⟨[_],La,by rw[<-E,OU ol];rfl,G.D hv⟩
 rw[OT hi]at E;refine QX (α:=Bool) [(31,45)] (λz=>[(31,.bool z)]) (λz w'=>sX w6 w'/\z=jH (pv (ls.map (·.1)) k) e.1) om ?_ ?_
 ·refine ZA [] (YX 0 15 [])<|p Qx<|pb (λ_=>Yd U U) (λhj=>?_) (λhj=>?_)
  ·have hm:k≠0:=by have hC:(0:Int)<(k:Int):=hj;omega
   have hk1:((k:Int) - 1)=((k - 1:Nat):Int):=oa
   have hn:k - 1<ls.length:=oa
   refine p Qx<|p (QJ U)<|pq (λ_ J=>Ql (H.I J) U U)<|p (QJ U)<|pq (λ_ J=>Ql ((hs.I I).I J) U U) <|
    p Qx<|p (λ_=>Jk U U ⟨oa,oa⟩)<|Lg.pig (g:=QC) (i:=k - 1) U YJ (ht.I I) U (OV sS hk1) hn λhJ hD=>p (λ_=>Zf U) <|
    pq (λ_ J=>Qy ((hD.fld 0 _ U).I J) U)<|p (λ_=>Vg U U)<|p (Y7 U)<|p ZG<|pe ?_
   refine⟨_,La,O5.C _ _,?_⟩;have:pv (ls.map (·.1)) k=some (ls[k - 1]'hn).1:=by simp[pv,hm,hn]
   rw[this];rfl
  have hm:k=0:=by have hC:¬(0:Int)<(k:Int):=hj;omega
  refine p Qx<|ps<|ps<|ps<|ps<|ps<|ps<|ps<|ps<|ps<|ps<|p (Y7 U)<|p ZG<|pe ?_;exact⟨false,La,O5.C _ _,by simp[pv,hm,jH]⟩
 rintro z g w7 ⟨hw,rfl⟩;have hy:=hv.D hw;refine QU rfl (λho=>?_) (λho=>?_)
 ·rw[OU ho]at E;refine Qc<|Qb<|Qh ⟨[_],La,by rw[<-E,OU ol];rfl,G.D hy⟩
 rw[OT (by simp[ho])]at E;have hz:=H.I hw;refine QX (α:=Bool) [(46,54)] (λz=>[(46,.bool z)]) (λz w'=>sX w7 w'/\z=decide (e.2=0\/grt e.2=true)) om ?_ ?_
 ·refine Qs<|Qo U hz U U<|xb (QT U U) (λhp=>?_) (λhp=>?_)
  ·refine Qa<|Zu<|QE U<|Qb<|⟨_,La,O5.Z _ _,bT (.inl hp)⟩
  refine Qa<|Qo U hz U U<|Qz<|(QcR e.2 _).mono ?_;rintro r9 w9 ⟨rfl,rfl⟩;refine QE U<|Qb<|⟨grt e.2,La,O5.Z _ _,?_⟩;cases hg:grt e.2 with
  | true=>exact bT (.inr U)
  | false=>exact bF (λh=>by rcases h with h|h;exact hp h;cases h)
 rintro z g w8 ⟨hE,rfl⟩;have h0:=hy.D hE;refine QO rfl (λhq=>?_) (λhq=>?_)
 ·rw[OU hq]at E;refine Qc<|Qb<|Qh ⟨[_],La,by rw[<-E,OU ol];rfl,G.D h0⟩
 rw[OT hq]at E;refine Qf<|Qs<|QG U U<|Qa<|xe ?_;exact⟨k+1,oa,La,V,h0,E⟩
open Go.RowKit
def QdL:Fr->LN->LV->Fr
 | f,p::ps,v::vs=>QdL (upd f p v) ps vs
 | f,_,_=>f
theorem qA {n:Nat}{ds:LN}:∀(ps:LN) (vs:LV) (a:Act) (f:Fr),Xm n ds a f->(∀p∈ps,p<n) ->
  Xm n ds { tmps:=(ps.zip vs).foldl (λt (x:Nat×O2)=>t.setIfInBounds x.1 x.2) a.tmps,defers:=a.defers } (QdL f ps vs)
 | [],_,a,f,h,_=>by cases h;exact⟨by assumption,by assumption,by assumption⟩
 | p::ps,[],a,f,h,_=>by cases h;exact⟨by assumption,by assumption,by assumption⟩
 | p::ps,v::vs,a,f,h,E=>by
  exact qA ps vs _ _ (h.put (dst:=some p) (λd e=>by cases e;exact E p Lq) v) (λq G=>E q (Lj _ G))
def rdE {α:Type}(B:Nat)(L:LN)(I:List α->O1->Prop)(X:Exit->List α->O1->Prop)(xs:List α)(W:O1):Exit->LN->Fr->O1->Prop
 | .normal,_,_,W'=>Ve B L W W'/\I xs W'
 | .ret,_,_,W'=>Ve B L W W'/\X .ret xs W'
 | .exit i,_,_,W'=>Ve B L W W'/\X (.exit i) xs W'
 | _,_,_,_=>False
theorem Qk8 {m:Nat}{Q:Exit->LN->Fr->O1->Prop}{g:O3}{ps:LN}{assign body:Code}(L:LN)(Y:1<=m)
    [hF:Fu P gf fn]  (hg:ev f g=.func (.func gf) #[] capt.toArray) {encs:α->LV} {S Sp:List α->Prop}  (hp:∀p∈ps,p<n) (hj:∀x,(encs x).length=ps.length)
  (hm:SeqStopsK (fen none) (m - 1) P gf capt.toArray (λx=>(encs x).toArray) (Lw ↑w L) S Sp N w)
  (I:List α->O1->Prop) (hI:∀s,YH ↑w (I s)) (X:Exit->List α->O1->Prop) (hX:∀e s,YH ↑w (X e s)) (h0:I [] w) (A:Fr->α->Fr->O1->Prop) (hA:∀x E,YH ↑w (A f x E))
  (hc:∀l pre x W,I pre W->WG (some l) (m - 1 - 1) P n assign (QdO (λhb E W'=>hb=[]/\Ve ↑w L W W'/\I pre W'/\A f x E W') (λ_ _ _ _=>False)) [] (QdL f ps (encs x)) W)
  (he:∀l pre x E W,I pre W->A f x E W->pre.length<N->WG (some l) (m - 1 - 1) P n body (rdE ↑w L I X (pre++[x]) W) [] E W)
  (hn:∀D xs W,↑w<=D->S xs->I xs W->W.heap[D]?=some (.deferred (some []))->Q .normal (D::ds) f W)
  (hf:∀D e pre W,↑w<=D->Sp pre->X e pre W->W.heap[D]?=some (.deferred (some []))->(e=.ret\/∃i,e=.exit i)->Q e (D::ds) f W):
  WG none m P n (.rangeFunc g ps.toArray assign body) Q ds f w:=by
 unfold WG at hc he ⊢;intro a J;have eg:∀args w,(callFunc gf args).run P w=.ok (.enter gf args) w:=by
  intro args w;have Y:¬fn.name = "runtime.NumGoroutine" := by simpa using hF.nm
  have O:¬fn.body=none:=by have:=hF.b;intro e;rw[e]at this;cases this
  simp[callFunc,hF.f,Y,O]
 have keep:∀{W W':O1},Ve ↑w L W W'->KeepsFrom ↑w W W':=λh=>⟨h.lw.size,λk o _ hk ho=>h.other k o hk ho⟩;refine wpIn_rangeFunc_ownH (F:=fen none) U Y (gf:=gf) (lb:=capt.toArray) (by rw[J.eval];exact hg) Z eg hm (λh k=>h.D k)
  (λW l o o' hl ho _ _=>⟨U,U,U,od,λk hk _=>World.putObj_heap_other oa⟩) (Below.refl _ _) (λx=>by simp[hj x]) I
  (λc pre W=>match c with| .ret=>X .ret pre W| .exit i=>X (.exit i) pre W|_=>False) (YH.own hI) (λc=>YH.own λs=>?_) h0
  (λx T W=>∃E,Xm n [] T E/\A f x E W) (λx T=>YH.own λ_=>YH.ex λE=>YH.and (YH.pure _) (hA x E)) ?_ ?_ ?_ ?_
 ·cases c <;> first|exact hX _ s|exact YH.pure _
 ·intro l pre x W K hi hK;have hr:Xm n [] { tmps:=(ps.toArray.zip (encs x).toArray).foldl (λt (p,v)=>t.setIfInBounds p v) a.tmps,defers:=[] } (QdL f ps (encs x)):=by
   have O:Xm n [] { a with defers:=[] } f:=⟨J.size,U,J.get⟩
   have H:=qA ps (encs x) _ _ O hp;have e:(ps.toArray.zip (encs x).toArray).foldl (λt (p,v)=>t.setIfInBounds p v) a.tmps=(ps.zip (encs x)).foldl (λt (x:Nat×O2)=>t.setIfInBounds x.1 x.2) a.tmps:=od
   rw[e];exact H
  refine wpIn_mono (hc l pre x W hi _ hr) ?_;rintro e T W' ⟨hb,E,O,_,H⟩;cases e with
  | normal=>obtain⟨rfl,h4,G,h6⟩:=H;exact hK T W' (keep h4) h4.lw G ⟨E,O,h6⟩
  | exit id=>exact H.elim
  | goto l=>exact H.elim
  | ret=>exact H.elim
  | panic ch=>exact H.elim
  | outgrown=>exact H.elim
 ·rintro l pre x T W _ _ hi ⟨E,O,H⟩ hq;refine wpIn_mono (he l pre x E W hi H hq T O) ?_;rintro e hs W' ⟨hb,ht,h4,_,G⟩;cases e with
  | normal=>exact⟨keep G.1,G.1.lw,G.2⟩
  | exit id=>exact⟨keep G.1,G.2⟩
  | goto l=>exact G.elim
  | ret=>exact⟨keep G.1,G.2⟩
  | panic ch=>exact G.elim
  | outgrown=>exact G.elim
 ·intro D xs W hD V hi hd;exact⟨D::ds,f,⟨J.size,by rw[show coll (D::ds)={ target:=.collected D,args:=#[] }::coll ds from rfl,J.defers],J.get⟩,λ_ _=>rfl,hn D xs W hD V hi hd⟩
 intro D c pre W hD V hx hd;have hh:Xm n (D::ds) { a with defers:={ target:=.collected D,args:=#[] }::a.defers } f:=⟨J.size,by rw[show coll (D::ds)={ target:=.collected D,args:=#[] }::coll ds from rfl,J.defers],J.get⟩
 cases c with
 | ret=>exact wpIn_ret ⟨_,f,hh,λ_ _=>U,hf D .ret pre W hD V hx hd (.inl U)⟩
 | exit i=>exact wpIn_exit ⟨_,f,hh,λ_ _=>U,hf D (.exit i) pre W hD V hx hd (.inr ⟨i,U⟩)⟩
 | _=>exact hx.elim
theorem Qay {α:Type}(g:α->LV)(sz:Nat)(E:∀x,(g x).length=sz):∀(l:List α) (k:Nat),(l.flatMap g).take (k*sz)=(l.take k).flatMap g
 | [],k=>od
 | e::l,0=>od
 | e::l,k+1=>by
  simp only[Of,List.take_succ_cons,Oq,Nat.one_mul];rw[Nb,OK,E,show sz+k*sz - sz=k*sz by omega,Qay g sz E l k,Lt (by rw[E];omega)]
theorem Qfh [Fu sV gf fn]{nms:List ByteArray}{s:ByteArray}(hk:JD s)
  (hl:∀(w':O1) (L:LN),sX w w'->(∀b∈L,↑w<=b)->SeqStopsK (fen none) 9 sV gf capt.toArray (λx:{ x:ByteArray // x∈nms }=>[Value.string x.1].toArray) (Lw ↑w' L) (λys=>ys.map (·.1)=nms) (λ_=>True) N w'):
  QZ sV 156 [.string s,.func (.func gf) #[] capt.toArray] w λr w'=>r=sS (Ks nms s)/\sX w w':=by
 refine QZ.of_G 10 func156 U ntmps156 results156 od ?_;refine Zk<|QH om om<|Zl [.string s] λb2 w1 ho hs hh=>QM [sS 0] λJ w2 hi ht hf=>xe ?_;have Y:=ho.D hi;have hu:=hf.lt;have hj:=hh.I hi;have hv:=hh.lt;refine Zk<|Zk<|QH om om<|Xn hj U U<|jB<|(V6 s hk _).mono ?_;rintro r3 w3 ⟨rfl,rfl⟩;refine x (ZC U)<|xe<|UI rfl (λh8=>?_) (λh8=>?_)
 ·have hn:Xj s=false:=by simpa using h8
  have hr:Ks nms s=7:=by unfold Ks;rw[OU hn]
  refine Zk<|QH om om<|Qn<|Qu (j:=0) (u:=sS 7) hf U U ol U λw4 T ha=>xe ?_;refine VP ⟨λ_ h=>(by cases h),MM,[sS 7],λW' O=>⟨⟨⟨_,rfl,Xu (At.one ((ha.I O).at (L:=[]) od))⟩,Z⟩,by rw[hr];rfl,(Y.O T oa).D O⟩⟩
 have hn:¬Xj s=false:=by simpa using h8
 refine YV<|Zk<|Zk<|QH om om<|Qa<|xe<|Ye<|Qk8 (α:={ x:ByteArray // x∈nms }) (ps:=[10]) [J] oa (capt:=capt) U (encs:=λx=>[.string x.1]) od (λ_=>rfl)
  (hl w3 [J] Y (λb G=>by simp at G;omega))
  (λpre W=>O5 [J] w3 W/\QY W.heap b2 9 [.string s]/\QY W.heap J 47 [sS 0]/\∀x∈pre,x.1≠s)
  (λpre=>(YH.J (Lv _)).and (YH.blk.and (YH.blk.and (YH.pure _))))
  (λe pre W=>e=.ret/\O5 [J] w3 W/\QY W.heap J 47 [sS 8]/\s∈nms)
  (λe pre=>(YH.pure _).and ((YH.J (Lv _)).and (YH.blk.and (YH.pure _))))
  ⟨O5.Z _ _,hj,hf,λx hx=>by cases hx⟩
  (λf x f' W=>f'=upd (QdL f [10] [.string x.1]) 5 (.string x.1)) (λx f'=>YH.pure _) ?_ ?_ ?_ ?_
 ·rintro l pre x W ⟨H,h2,I,V⟩;refine QH om om<|Lg.Qb<|⟨U,Ve.refl _ _ _,⟨H,h2,I,V⟩,U⟩
 ·rintro l pre x f' W ⟨H,h2,I,V⟩ rfl _;refine Ye<|Zk<|QH om om<|Lg.Qa<|Lg.x (Ql h2 U U)<|Lg.x (XR U U)<|xe<|Qnv U (λhg=>?_) (λhg=>?_)
  ·refine Zk<|QH om om<|Qn<|Qu (j:=0) (u:=sS 8) I U U ol U λw4 T ha=>xe ?_;refine VP ?_;exact⟨Ve.blk T H.size I (.inl od),rfl,H.Q T,ha,by rw[<-hg];exact x.2⟩
  refine YV<|⟨Ve.refl _ _ _,H,h2,I,λy S=>?_⟩;rcases Lc.1 S with S|S
  ·exact V y S
  simp only[oJ]at S;subst S;exact hg
 ·rintro D xs W hD hp ⟨H,h2,I,V⟩ hc;have hr:Ks nms s=0:=by
   unfold Ks;rw[OT hn,OT];intro hm;rw[<-hp]at hm;obtain⟨y,S,e⟩:=LC.1 hm;exact V y S e
  refine Zk<|QH om om<|Qn<|Qu (j:=0) (u:=sS 0) I U U ol U λw4 T ha=>xe ?_;have he:D≠J:=oa
  have hq:w4.heap[D]?=some (.deferred (some [])):=by rw[T.block D (LJ.1 hc).1 (oA he)];exact hc
  refine VP ⟨λE hE=>by simp only[oJ]at hE;subst hE;exact hq,od,[sS 0],λW' O=>?_⟩;refine⟨⟨⟨_,U,Xu (At.one ((ha.J O (oA he.symm)).at (L:=[]) od))⟩,Z⟩,by rw[hr];rfl,?_⟩;exact((Y.then H (λb G=>.inr (by simp at G;omega))).O T oa).then O (λb G=>.inr (by simp at G;have:=Y.size;omega))
 rintro D e pre W hD _ ⟨rfl,H,I,V⟩ hc _;have hr:Ks nms s=8:=by unfold Ks;rw[OT hn,OU V]
 have he:D≠J:=oa
 refine⟨λE hE=>by simp only[oJ]at hE;subst hE;exact hc,od,[sS 8],λW' O=>?_⟩;refine⟨⟨⟨_,U,Xu (At.one ((I.J O (oA he.symm)).at (L:=[]) od))⟩,Z⟩,by rw[hr];rfl,?_⟩;exact(Y.then H (λb G=>.inr (by simp at G;omega))).then O (λb G=>.inr (by simp at G;have:=Y.size;omega))
theorem J7.pre3 {m:Nat}{o1 o2 o3:Oper}{l2:xE}(h:XL P ops (λf w=>J7 P m ops K l2 f w) [o1,o2,o3] f w):J7 P m ops K (o1::o2::o3::l2) f w:=J7.pre [o1,o2,o3] f w h
theorem QjS {m:Nat}{qs:List XV}{nms:List ByteArray}(ho:QY w.heap b1 206 [vs,vx,vk])(hp:QY w.heap b2 3 [sS i])(Y:jA L w.heap vx qs)(hi:i<=qs.length)(hn:nms=(qs.take i).map (·.nm)):
  SeqStopsK (fen none) m sV 155 #[sP b1,sP b2] (λx:{ x:ByteArray // x∈nms }=>[Value.string x.1].toArray) (Lw ↑w L)
   (λys=>ys.map (·.1)=nms) (λ_=>True) (nms.length+1) w:=by
 intro l J Jx W hr hJ hs hY h0;have ha:sX w W:=O5.of_below hr;have ab:∀{ys:List { x:ByteArray // x∈nms }} {W1 W2:O1},J ys W1->sX W1 W2->J ys W2:=λ{ys W1 W2} hj H=>hJ ys W1 W2 none hj ⟨H.os,H.tape,H.output,H.size,λk I _=>H.block k I od⟩ (λr e=>by cases e);have h5:=Y.arr.le;have h6:nms.length=i:=by rw[hn];simp;omega
 have key:QZ sV 155 [.func (.yield l) #[] #[],sP b1,sP b2] W (λ_ W'=>(∃ys,ys.map (·.1)=nms/\J ys W')\/(∃pre,True/\Jx pre W')):=by
  refine QZ.of_G m func155 U ntmps155 results155 od ?_;refine Zk<|QH om om<|Qo U (ho.I ha) U U<|Xn (hp.I ha) U U<|Qn3 Y.arr U U hi λv9 hg=>QF hg U<|Qa<|xe ?_;have ht:(qs.take i).length=i:=by simp;omega
  have hS:Zo L w.heap v9 (qs.take i).length 2 ((qs.take i).flatMap Q3):=by
   rw[ht,<-Qay Q3 2 Xw];exact hg
  refine Ye<|q9 (α:=Nat×List { x:ByteArray // x∈nms }) [(5,5),(11,20)] (λz=>[(11,sS z.1)]) (λz ds W'=>ds=[]/\z.1<=i/\O5 L w W'/\z.2.map (·.1)=nms.take z.1/\J z.2 W') (λz=>i - z.1) om (0,[]) La
   ⟨U,Ln _,ha.any,U,h0⟩ ?_
  rintro⟨k,ys⟩ g ds w1 ⟨rfl,I,hh,O,hb⟩;simp only[]at I O hb;refine Zk<|QH om om<|Ya U U<|xe<|Zk<|Qa1 U (λhl=>?_) (λhl=>?_)
  ·refine VQ ?_;rw[Lt oa]at O;exact⟨λ_ h=>(by cases h),MM,[],λW' E=>⟨Z,.inl ⟨ys,O,ab hb E⟩⟩⟩
  refine YV ?_;have hu:k<i:=by have hc:(k:Int)<(i:Int):=hl;omega
  have T:k<(qs.take i).length:=oa
  have V:k<nms.length:=oa
  have hf:nms.take (k+1)=nms.take k++[nms[k]'V]:=Lm V;have h7:ys.length=k:=by have:=OV oQ O;rw[Lh,LA]at this;omega
  have hv:nms[k]'V=((qs.take i)[k]'T).nm:=by subst hn;simp
  have S:=Ll V;rw[hv]at hf S;refine Zk<|Ye<|Zk<|QH om om<|O8 Xw (i:=k) (hS.st hh) U U T λh8 hc=>?_;refine Zh ((qs.take i)[k]'T) λq hq=>?_;rw[hq]at hc hf S;refine x (Qr hc U U)<|QM [.string .empty,nS] λb5 w2 hw hy hz=>QI (Q3 q) hz ⟨U,((Y.each q (LU (by rw[<-hq];exact Ll T))).one),Z⟩ λw3 h2 h3=>xe ?_;have hm:sX w1 w3:=hw.O h2 hy;refine Zk<|V7 om ?_;refine J7.pre3 ?_;refine Qa<|Qo U h3 U U<|xe<|xy (l:=l) U (hY ys ⟨q.nm,S⟩ w3 (ab hb hm) oa) λen W3 h4=>Or.elim h4 (λG=>⟨.bool true,G.1,?_⟩) (λG=>⟨.bool false,G.1,?_⟩)
  ·refine J7.of_XL<|x (ZC U)<|xe<|V8 U<|YV ?_;refine QH om om<|QG U U<|Qa<|xe ?_;exact⟨(k+1,ys++[⟨q.nm,S⟩]),og,La,U,hu,(hh.D hm).lw G.2.2,by rw[hf,Lp,O];rfl,G.2.1⟩
  refine J7.of_XL<|x (ZC U)<|xe<|QbU U ?_;refine VP ⟨λ_ h=>(by cases h),MM,[],λW' E=>⟨Z,.inr ⟨ys++[⟨q.nm,S⟩],Z,?_⟩⟩⟩;exact hs _ W3 W' none G.2 ⟨E.os,E.tape,E.output,E.size,λk I _=>E.block k I od⟩ (λr e=>by cases e)
 refine(callsIn_wide (n:=m)).2 ?_;have ea:(#[.func (.yield l) #[] #[]]++[sP b1,sP b2].toArray:Array O2)=#[.func (.yield l) #[] #[],sP b1,sP b2]:=od
 rw[ea];unfold QZ at key;refine Calls.mono key λe w' he=>?_;cases e with
 | returned v=>exact⟨⟨v,U⟩,he⟩
 | panicked c=>exact he.elim
 | outgrown=>exact he.elim
theorem Qkj {m:Nat}{qs:List KV}{nms:List ByteArray}(ho:QY w.heap b1 206 [vs,vx,vk])(hp:QY w.heap b2 3 [sS i])(Y:jw L w.heap vk qs)(hi:i<=qs.length)(hn:nms=(qs.take i).map (·.nm)):
  SeqStopsK (fen none) m sV 158 #[sP b1,sP b2] (λx:{ x:ByteArray // x∈nms }=>[Value.string x.1].toArray) (Lw ↑w L)
   (λys=>ys.map (·.1)=nms) (λ_=>True) (nms.length+1) w:=by
 intro l J Jx W hr hJ hs hY h0;have ha:sX w W:=O5.of_below hr;have ab:∀{ys:List { x:ByteArray // x∈nms }} {W1 W2:O1},J ys W1->sX W1 W2->J ys W2:=λ{ys W1 W2} hj H=>hJ ys W1 W2 none hj ⟨H.os,H.tape,H.output,H.size,λk I _=>H.block k I od⟩ (λr e=>by cases e);have h5:=Y.arr.le;have h6:nms.length=i:=by rw[hn];simp;omega
 have key:QZ sV 158 [.func (.yield l) #[] #[],sP b1,sP b2] W (λ_ W'=>(∃ys,ys.map (·.1)=nms/\J ys W')\/(∃pre,True/\Jx pre W')):=by
  refine QZ.of_G m func158 U ntmps158 results158 od ?_;refine Zk<|QH om om<|Qo U (ho.I ha) U U<|Xn (hp.I ha) U U<|Qn3 Y.arr U U hi λv9 hg=>QF hg U<|Qa<|xe ?_;have ht:(qs.take i).length=i:=by simp;omega
  have hS:Zo L w.heap v9 (qs.take i).length 3 ((qs.take i).flatMap Q9):=by
   rw[ht,<-Qay Q9 3 Xq];exact hg
  refine Ye<|q9 (α:=Nat×List { x:ByteArray // x∈nms }) [(5,5),(11,20)] (λz=>[(11,sS z.1)]) (λz ds W'=>ds=[]/\z.1<=i/\O5 L w W'/\z.2.map (·.1)=nms.take z.1/\J z.2 W') (λz=>i - z.1) om (0,[]) La
   ⟨U,Ln _,ha.any,U,h0⟩ ?_
  rintro⟨k,ys⟩ g ds w1 ⟨rfl,I,hh,O,hb⟩;simp only[]at I O hb;refine Zk<|QH om om<|Ya U U<|xe<|Zk<|Qa1 U (λhl=>?_) (λhl=>?_)
  ·refine VQ ?_;rw[Lt oa]at O;exact⟨λ_ h=>(by cases h),MM,[],λW' E=>⟨Z,.inl ⟨ys,O,ab hb E⟩⟩⟩
  refine YV ?_;have hu:k<i:=by have hc:(k:Int)<(i:Int):=hl;omega
  have T:k<(qs.take i).length:=oa
  have V:k<nms.length:=oa
  have hf:nms.take (k+1)=nms.take k++[nms[k]'V]:=Lm V;have h7:ys.length=k:=by have:=OV oQ O;rw[Lh,LA]at this;omega
  have hv:nms[k]'V=((qs.take i)[k]'T).nm:=by subst hn;simp
  have S:=Ll V;rw[hv]at hf S;refine Zk<|Ye<|Zk<|QH om om<|O8 Xq (i:=k) (hS.st hh) U U T λh8 hc=>?_;refine Zh ((qs.take i)[k]'T) λq hq=>?_;rw[hq]at hc hf S;refine x (Qr hc U U)<|QM [.string .empty,nS,sS 0] λb5 w2 hw hy hz=>QI (Q9 q) hz ⟨U,((Y.each q (LU (by rw[<-hq];exact Ll T))).one),U,Z⟩ λw3 h2 h3=>xe ?_;have hm:sX w1 w3:=hw.O h2 hy;refine Zk<|V7 om ?_;refine J7.pre3 ?_;refine Qa<|Qo U h3 U U<|xe<|xy (l:=l) U (hY ys ⟨q.nm,S⟩ w3 (ab hb hm) oa) λen W3 h4=>Or.elim h4 (λG=>⟨.bool true,G.1,?_⟩) (λG=>⟨.bool false,G.1,?_⟩)
  ·refine J7.of_XL<|x (ZC U)<|xe<|V8 U<|YV ?_;refine QH om om<|QG U U<|Qa<|xe ?_;exact⟨(k+1,ys++[⟨q.nm,S⟩]),og,La,U,hu,(hh.D hm).lw G.2.2,by rw[hf,Lp,O];rfl,G.2.1⟩
  refine J7.of_XL<|x (ZC U)<|xe<|QbU U ?_;refine VP ⟨λ_ h=>(by cases h),MM,[],λW' E=>⟨Z,.inr ⟨ys++[⟨q.nm,S⟩],Z,?_⟩⟩⟩;exact hs _ W3 W' none G.2 ⟨E.os,E.tape,E.output,E.size,λk I _=>E.block k I od⟩ (λr e=>by cases e)
 refine(callsIn_wide (n:=m)).2 ?_;have ea:(#[.func (.yield l) #[] #[]]++[sP b1,sP b2].toArray:Array O2)=#[.func (.yield l) #[] #[],sP b1,sP b2]:=od
 rw[ea];unfold QZ at key;refine Calls.mono key λe w' he=>?_;cases e with
 | returned v=>exact⟨⟨v,U⟩,he⟩
 | panicked c=>exact he.elim
 | outgrown=>exact he.elim
theorem jb {sz:LI}{qx:List XV}{ks:List KV}(hS:QL [] w.heap vs sz)(hX:jA [] w.heap vx qx)(hK:jw [] w.heap vk ks):
  QZ sV 84 [.agg #[vs,vx,vk]] w λr w'=>r=sS (YE sz (qx.map (·.x)) (ks.map (·.k)))/\sX w w':=by
 have hW:=hS.le;have hY:=hX.arr.le;have hZ:=hK.arr.le;refine Zq func84 ?_;refine Qc<|Zl [vs,vx,vk] λb1 w1 G ga T=>Qb<|Qe<|Qc<|Qo U T U U<|QF (hS.I G) U<|x (Yd U U)<|xe<|QO rfl (λh0=>?_) (λh0=>?_)
 ·refine Qc<|Qb<|Qh ⟨[_],La,by unfold YE;rw[OU (by have hI:(8:Int)<(sz.length:Int):=h0;omega)];rfl,G⟩
 have hy:¬8<sz.length:=by have hI:¬(8:Int)<(sz.length:Int):=h0;omega
 refine Qf<|Qe<|Qc<|Qo U T U U<|QF (hS.I G) U<|Qa<|xe<|Q8 (α:=Nat) [(2,2),(4,4),(22,32)] (λz=>[(22,sS z)]) (λz w'=>z<=sz.length/\w'=w1/\(sz.drop z).any KP=sz.any KP) (λz=>sz.length - z) 0 La
  ⟨Ln _,U,U⟩ ?_
 rintro k g w2 ⟨hk,rfl,ha⟩;refine Zn rfl U (λh1=>?_) (λh1=>?_)
 ·refine Qw ?_;have hj:sz.length<=k:=by have hz:¬(k:Int)<(sz.length:Int):=h1;omega
  rw[Ls hj]at ha;have h2:¬sz.any KP=true:=by rw[<-ha];decide
  refine Qe<|QX (α:=Bool) [(33,42)] (λz=>[(42,.bool z)]) (λz w'=>w'=w2/\z=decide (32<qx.length\/32<ks.length)) om ?_ ?_
  ·refine Qs<|Qo U T U U<|QF (hX.I G).arr U<|xb (Yd U U) (λhJ=>?_) (λhJ=>?_)
   ·refine Qa<|Zu<|Kz<|QE U<|xe ?_;exact⟨_,La,U,by first|exact bT oa|exact bF oa|exact bD oa⟩
   refine Qa<|Qo U T U U<|QF (hK.I G).arr U<|x (Yd U U)<|QE U<|xe ?_;exact⟨_,La,U,by first|exact bT oa|exact bF oa|exact bD oa⟩
  rintro z g V ⟨rfl,rfl⟩;refine QO U (λh3=>?_) (λh3=>?_)
  ·refine Qc<|Qb<|Qh ⟨[_],La,by unfold YE;rw[OT hy,OT h2,OU (oA h3)];rfl,G⟩
  have hF:¬(32<(qx.map (·.x)).length\/32<(ks.map (·.k)).length):=by simpa using h3
  have hG:Yy sz [] (qx.map (·.x))≠0->YE sz (qx.map (·.x)) (ks.map (·.k))=Yy sz [] (qx.map (·.x)):=λh=>by
   unfold YE;rw[OT hy,OT h2,OT hF,OU h]
  have hM:Yy sz [] (qx.map (·.x))=0->YE sz (qx.map (·.x)) (ks.map (·.k))=Xf sz [] (ks.map (·.k)):=λh=>by
   unfold YE;rw[OT hy,OT h2,OT hF,OT (by rw[h];exact λh=>h U)]
  refine Qf<|Qe<|Qc<|Qo U (T.I (O5.Z [] V)) U U<|QF ((hX.I G).I (O5.Z [] V)).arr U<|Qa<|xe<|Q8 (α:=Nat) [(2,2),(5,9),(46,65)] (λz=>[(46,sS z)]) (λz w'=>z<=qx.length/\sX V w'/\Yy sz ((qx.take z).map (·.nm)) ((qx.drop z).map (·.x))=Yy sz [] (qx.map (·.x))) (λz=>qx.length - z) 0 La
   ⟨Ln _,(O5.Z [] V),U⟩ ?_
  rintro k g wA ⟨hk,H,I⟩;refine Zn U U (λhc=>?_) (λhc=>?_)
  ·refine Qw ?_;have hj:qx.length<=k:=by have h4:¬(k:Int)<(qx.length:Int):=hc;omega
   rw[Ls hj]at I;have hN:Yy sz [] (qx.map (·.x))=0:=I.symm;have h5:=hM hN;refine Qe<|Qc<|Qo U (T.I H) U U<|QF ((hK.I G).I H).arr U<|Qa<|xe<|Q8 (α:=Nat) [(2,2),(10,14),(69,88)] (λz=>[(69,sS z)]) (λz w'=>z<=ks.length/\sX V w'/\Xf sz ((ks.take z).map (·.nm)) ((ks.drop z).map (·.k))=Xf sz [] (ks.map (·.k))) (λz=>ks.length - z) 0 La
    ⟨Ln _,H,U⟩ ?_
   rintro k g wA ⟨hk,H,I⟩;refine Zn U U (λhc=>?_) (λhc=>?_)
   ·refine Qw ?_;have hj:ks.length<=k:=by have h4:¬(k:Int)<(ks.length:Int):=hc;omega
    rw[Ls hj]at I;have hO:Xf sz [] (ks.map (·.k))=0:=I.symm;refine Qc<|Qb<|Qh ⟨[_],La,by rw[h5,hO];rfl,G.D H⟩
   have E:k<ks.length:=by have h4:(k:Int)<(ks.length:Int):=hc;omega
   have hl:(ks.take (k+1)).map (·.nm)=(ks.take k).map (·.nm)++[(ks[k]'E).nm]:=by rw[Lm E,Lp];rfl
   rw[Zc E,LG]at I;have he:=Ll E;have J:=(hK.I G).I H;have hP:=T.I H;refine Qf<|Qe<|Qm<|Qj<|O8 Xq J.arr U U E λaA hA=>?_;refine Zh (ks[k]'E) λq hq=>?_;rw[hq]at hA I hl he;have hm:=J.each q he;refine x (Qr hA U U)<|QM [sS 0] λb5 V ho h6 hf=>QM [.string .empty,nS,sS 0] λb6 w4 hp hQ h7 =>
    Qn<|Qu (j:=0) (u:=sS k) (hf.I hp) U U ol U λw5 hr h8=>QI (Q9 q) (h7.J hr (by have:=hf.lt;simp;omega)) ⟨U,hm.one,U,Z⟩ λw6 hs ht=>xe ?_
   have hR:b5<b6:=by have:=hf.lt;omega
   have hg:sX wA w6:=((ho.D hp).O hr h6).O hs (ov ho.size);have h9:QY w6.heap b5 3 [sS k]:=h8.J hs (by simp;omega);have hu:=hP.I hg;have hT:=J.I hg;refine Qc<|x ZD<|Qb<|Qe<|Qc<|Qo U ht U U<|Qa<|Qz<|(Qfh (nms:=(ks.take k).map (·.nm)) (capt:=[sP b1,sP b5]) (J.nm q he) (λw' L hh hL=>Qkj (hu.I hh) (h9.I hh) ((hT.up (λb hb=>.inr (hL b hb))).I hh) hk U)).mono ?_;rintro r7 w7 ⟨rfl,hi⟩;refine Qb ?_;have O:=hg.D hi;refine Qj<|Zx U U<|xe<|QO U (λY=>?_) (λY=>?_)
   ·have e1:Xf sz [] (ks.map (·.k))=Ks ((ks.take k).map (·.nm)) q.nm:=by rw[<-I];exact OU Y
    refine Qj<|Qb<|Qh ⟨[_],La,by rw[h5,e1];rfl,G.D (H.D O)⟩
   have hv:(if XJ sz q.k≠0 then XJ sz q.k else Xf sz ((ks.take k).map (·.nm)++[q.nm]) ((ks.drop (k+1)).map (·.k)))=Xf sz [] (ks.map (·.k)):=by rw[<-I];exact(OT Y).symm
   refine Qf ?_;have hU:=hu.I hi;have hV:=ht.I hi;refine Qc<|QS hU U U<|QS hV U U<|Qz<|(UE (((hS.I G).I H).I O) (hm.I O)).mono ?_;rintro r8 w8 ⟨rfl,hB⟩;refine Qb ?_;have hw:=O.D hB;refine Qj<|Zx U U<|xe<|QO U (λS=>?_) (λS=>?_)
   ·have e1:Xf sz [] (ks.map (·.k))=XJ sz q.k:=by rw[<-hv];exact OU S
    have hH:XJ sz q.k≠0:=S;refine Qj<|Qb<|Qh ⟨[_],La,by rw[h5,e1];rfl,G.D (H.D hw)⟩
   have hC:Xf sz ((ks.take k).map (·.nm)++[q.nm]) ((ks.drop (k+1)).map (·.k))=Xf sz [] (ks.map (·.k)):=by rw[<-hv];exact(OT S).symm
   refine Qf<|Qs<|QG U U<|Qa<|xe ?_;exact⟨k+1,oa,La,E,H.D hw,by rw[hl];exact hC⟩
  have E:k<qx.length:=by have h4:(k:Int)<(qx.length:Int):=hc;omega
  have hl:(qx.take (k+1)).map (·.nm)=(qx.take k).map (·.nm)++[(qx[k]'E).nm]:=by rw[Lm E,Lp];rfl
  rw[Zc E,LG]at I;have he:=Ll E;have J:=(hX.I G).I H;refine Qf<|Qe<|Qm<|Qj<|O8 Xw J.arr U U E λaA hA=>?_;refine Zh (qx[k]'E) λq hq=>?_;rw[hq]at hA I hl he;have hm:=J.each q he;refine x (Qr hA U U)<|QM [sS 0] λb5 V ho h6 hf=>QM [.string .empty,nS] λb6 w4 hp hQ h7 =>
   Qn<|Qu (j:=0) (u:=sS k) (hf.I hp) U U ol U λw5 hr h8=>QI (Q3 q) (h7.J hr (by have:=hf.lt;simp;omega)) ⟨U,hm.one,Z⟩ λw6 hs ht=>xe ?_
  have hR:b5<b6:=by have:=hf.lt;omega
  have hg:sX wA w6:=((ho.D hp).O hr h6).O hs (ov ho.size);have h9:QY w6.heap b5 3 [sS k]:=h8.J hs (by simp;omega);have hu:=(T.I H).I hg;refine Qc<|x ZD<|Qb<|Qe<|Qc<|Qo U ht U U<|Qa<|Qz<|(Qfh (nms:=(qx.take k).map (·.nm)) (capt:=[sP b1,sP b5]) (J.nm q he) (λw' L hh hL=>QjS (hu.I hh) (h9.I hh) (((J.I hg).up (λb hb=>.inr (hL b hb))).I hh) hk U)).mono ?_;rintro r7 w7 ⟨rfl,hi⟩;refine Qb ?_;have O:=hg.D hi;refine Qj<|Zx U U<|xe<|QO U (λY=>?_) (λY=>?_)
  ·have e1:Yy sz [] (qx.map (·.x))=Ks ((qx.take k).map (·.nm)) q.nm:=by rw[<-I];exact OU Y
   refine Qj<|Qb<|Qh ⟨[_],La,by rw[hG (by rw[e1];exact Y),e1];rfl,G.D (H.D O)⟩
  have hv:(if Jp sz q.ls≠0 then Jp sz q.ls else Yy sz ((qx.take k).map (·.nm)++[q.nm]) ((qx.drop (k+1)).map (·.x)))=Yy sz [] (qx.map (·.x)):=by rw[<-I];exact(OT Y).symm
  refine Qf<|Qc<|QS (hu.I hi) U U<|QS (ht.I hi) U U<|Qz<|(qg (((hS.I G).I H).I O) (hm.I O)).mono ?_;rintro r8 w8 ⟨rfl,hB⟩;refine Qb ?_;have hw:=O.D hB;refine Qj<|Zx U U<|xe<|QO U (λS=>?_) (λS=>?_)
  ·have e1:Yy sz [] (qx.map (·.x))=Jp sz q.ls:=by rw[<-hv];exact OU S
   have hH:Jp sz q.ls≠0:=S;refine Qj<|Qb<|Qh ⟨[_],La,by rw[hG (by rw[e1];exact hH),e1];rfl,G.D (H.D hw)⟩
  have hC:Yy sz ((qx.take k).map (·.nm)++[q.nm]) ((qx.drop (k+1)).map (·.x))=Yy sz [] (qx.map (·.x)):=by rw[<-hv];exact(OT S).symm
  refine Qf<|Qs<|QG U U<|Qa<|xe ?_;exact⟨k+1,oa,La,E,H.D hw,by rw[hl];exact hC⟩
 have E:k<sz.length:=by have hz:(k:Int)<(sz.length:Int):=h1;omega
 rw[Zc E,List.any_cons]at ha;refine Qf<|Qe<|Qm<|Qc<|xii (hS.I G) U U E λgb hz=>?_;refine Zh (sz[k]'E) λn hn=>?_;rw[hn]at hz ha;refine x (Qy hz U)<|Qb<|QX (α:=Bool) [(26,31)] (λz=>[(31,.bool z)]) (λz w'=>w'=w2/\z=KP n) om ?_ ?_
 ·refine Qs<|Qa<|xb (YW U U) (λhD=>?_) (λhD=>?_)
  ·refine Qa<|Yq<|QE U<|xe ?_;exact⟨_,La,U,by unfold KP;rw[OX hD];rfl⟩
  refine Qa<|Qa<|x (Yd U U)<|QE U<|xe ?_;exact⟨_,La,U,by unfold KP;rw[OZ hD];rfl⟩
 rintro z g V ⟨rfl,rfl⟩;refine QU rfl (λhE=>?_) (λhE=>?_)
 ·refine Qc<|Qb<|Qh ⟨[_],La,by unfold YE;rw[OT hy,OU (by rw[<-ha,hE];rfl)];rfl,G⟩
 rw[hE,Bool.false_or]at ha;refine Qf<|Qs<|QG U U<|Qa<|xe ?_;exact⟨k+1,oa,La,E,U,ha⟩
theorem Yt (q:α->Bool)(i:Nat)(a:α)(l:List α):fix q i (a::l)=if q a=true then(i:Int)else fix q (i+1) l:=rfl
theorem Qel {α:Type}(q:α->Bool):∀(l:List α) (i:Nat),fix q i l=-1\/((i:Int)<=fix q i l/\fix q i l<(i:Int)+l.length)
 | [],i=>.inl U
 | a::l,i=>by
  rw[Yt];split
  ·right;simp only[oX];omega
  rcases Qel q l (i+1)with h|h
  ·exact .inl h
  right;simp only[oX];omega
theorem QbH {α:Type}(q:α->Bool):∀(l:List α) (i:Nat),decide (0<=fix q i l)=l.any q
 | [],i=>rfl
 | a::l,i=>by
  rw[Yt,List.any_cons];cases h:q a with
  | true=>rw[OU rfl];simp
  | false=>rw[OT ol,QbH q l (i+1)];rfl
theorem y8 {α:Type}(q:α->Bool)(m:List α):∀(l:List α) (i:Nat),fix q i (l++m)=if 0<=fix q i l then fix q i l else fix q (i+l.length) m
 | [],i=>by
  show fix q i m=if(0:Int)<=-1 then(-1)else fix q i m
  rw[OT ol]
 | a::l,i=>by
  rw[Mv,Yt,Yt];by_cases h:q a=true
  ·rw[OU h,OU h,OU oa]
  rw[OT h,OT h,y8 q m l (i+1),LT];rw[show i+1+l.length=i+(l.length+1) by omega]
theorem QaA {α:Type}(q:α->Bool)(d:Nat):∀(l:List α) (i:Nat),fix q (i+d) l=if 0<=fix q i l then fix q i l+d else -1
 | [],i=>rfl
 | a::l,i=>by
  rw[Yt,Yt];by_cases h:q a=true
  ·rw[OU h,OU h,OU oa];omega
  rw[OT h,OT h,show i+d+1=(i+1)+d by omega,QaA q d l (i+1)]
theorem VW {α β:Type}(q:β->Bool)(g:α->β):∀(l:List α) (i:Nat),fix q i (l.map g)=fix (λa=>q (g a)) i l
 | [],i=>rfl
 | a::l,i=>by rw[LG,Yt,Yt,VW q g l (i+1)]
theorem Qg7 {α:Type}{q E:α->Bool}:∀{l:List α}{i:Nat},(∀a∈l,q a=E a)->fix q i l=fix E i l
 | [],i,_=>rfl
 | a::l,i,h=>by rw[Yt,Yt,h a Lq,Qg7 (λb G=>h b (Lj _ G))]
theorem QoX [Fu sV gp fn]{cap:LV}{q:(Int×Int)->Bool}{v:O2}{l:xx}(h:Zo L w.heap v l.length 2 (l.flatMap QC))
  (Y:∀e∈l,∀(G:O1),sX w G->QZ sV gp ([sT (QC e)]++cap) G λr w'=>r=.bool (q e)/\sX G w'):
  QZ sV 332 [v,.func (.func gp) #[] cap.toArray] w λr w'=>r=sS (fix q 0 l)/\sX w w':=by
 have hc:=h.le;refine Zq func332 ?_;refine Qc<|Qb<|Qe<|Qj<|QF h U<|Qa<|xe<|Q8 (α:=Nat) [(4,5),(8,18)] (λz=>[(8,sS z)]) (λz w'=>z<=l.length/\sX w w'/\fix q z (l.drop z)=fix q 0 l) (λz=>l.length - z) 0 La
  ⟨Ln _,O5.Z _ _,U⟩ ?_
 rintro k g G ⟨hk1,H,E⟩;refine Zn rfl U (λJ=>?_) (λJ=>?_)
 ·refine Qw ?_;have ha:l.length<=k:=by have hb:¬(k:Int)<(l.length:Int):=J;omega
  rw[Ls ha]at E;refine Qc<|Qb<|Qh ⟨[_],La,by rw[<-E];rfl,H⟩
 have I:k<l.length:=by have hb:(k:Int)<(l.length:Int):=J;omega
 rw[Zc I,Yt]at E;have S:=Ll I;refine Qf<|Qe<|Qm<|Qj<|Qb<|Qj<|Qa<|Qa<|O8 YJ (h.I H) U U I λhf T=>?_;refine Zh (l[k]'I) λe he=>?_;rw[he]at T E S;refine x (Qr T U U)<|Qn<|xc (first:=[]) (capt:=cap) U<|(Y e S G H).mono ?_;rintro r2 w2 ⟨rfl,V⟩;refine xe<|QU rfl (λO=>?_) (λO=>?_)
 ·rw[OU O]at E;refine Qj<|Qb<|Qh ⟨[_],La,by rw[<-E];rfl,H.D V⟩
 rw[OT (by rw[O];decide)]at E;refine Qf<|Qs<|QG U U<|Qa<|xe ?_;exact⟨k+1,oa,La,I,H.D V,E⟩
theorem Qpu [Fu sV gp fn]{cap:LV}{q:(Int×Int)->Bool}{v:O2}{l:xx}(h:Zo L w.heap v l.length 2 (l.flatMap QC))
  (G:∀e∈l,∀(E:O1),sX w E->QZ sV gp ([sT (QC e)]++cap) E λr w'=>r=.bool (q e)/\sX E w'):
  QZ sV 296 [v,.func (.func gp) #[] cap.toArray] w λr w'=>r=.bool (l.any q)/\sX w w':=by
 refine Zq func296 ?_;refine Qc<|Qb<|Qj<|Qa<|jB<|(QoX h G).mono ?_;rintro I E ⟨rfl,H⟩;refine x (YA U U)<|Qb<|Qh ⟨[_],La,OV Value.bool (QbH q l 0),H⟩
theorem UC (sz:LI):∀(ls:xx) (pr:Option Int),X5 sz pr ls=0->(∀p∈ls,0<=p.1/\p.1<(sz.length:Int))/\Y8 (ls.map (·.1))/\∀y,pr=some y->∀p∈ls,y<p.1
 | [],pr,_=>⟨λp E=>(by cases E),List.Pairwise.nil,λy _ p E=>(by cases E)⟩
 | l::ls,pr,h=>by
  unfold X5 at h;split at h
  ·cases h
  rename_i T;split at h
  ·cases h
  rename_i H;split at h
  ·cases h
  obtain⟨I,J,O⟩:=UC sz ls (some l.1) h;have G:=O l.1 U;refine⟨λp E=>?_,L6.2 ⟨λx hx=>?_,J⟩,λy S p E=>?_⟩
  ·rcases Li.1 E with rfl|E
   ·omega
   exact I p E
  ·obtain⟨p,E,rfl⟩:=LC.1 hx;exact G p E
  subst S;have V:¬l.1<=y:=λe=>H (OX e);rcases Li.1 E with rfl|E
  ·omega
  have:=G p E;omega
theorem UA (sz:LI):∀(ls:xx) (pr:Option Int),Kl sz pr ls=0->(∀p∈ls,0<=p.1/\p.1<(sz.length:Int)/\-65536<=p.2/\p.2<=65536)/\Y8 (ls.map (·.1))/\∀y,pr=some y->∀p∈ls,y<p.1
 | [],pr,_=>⟨λp E=>(by cases E),List.Pairwise.nil,λy _ p E=>(by cases E)⟩
 | l::ls,pr,h=>by
  unfold Kl at h;split at h
  ·cases h
  rename_i h1;split at h
  ·cases h
  rename_i I;split at h
  ·cases h
  rename_i J;obtain⟨O,S,T⟩:=UA sz ls (some l.1) h;have G:=T l.1 U;have H:grt l.2=false:=by cases V:grt l.2 with|true=>exact OW (.inr V) J|false=>rfl
  unfold grt at H;simp only[Oi,decide_eq_false_iff_not]at H;refine⟨λp E=>?_,L6.2 ⟨λx hx=>?_,S⟩,λy Y p E=>?_⟩
  ·rcases Li.1 E with rfl|E
   ·omega
   exact O p E
  ·obtain⟨p,E,rfl⟩:=LC.1 hx;exact G p E
  subst Y;have h8:¬l.1<=y:=λe=>I (OX e);rcases Li.1 E with rfl|E
  ·omega
  have:=G p E;omega
theorem Km (sz:LI):∀(l:List qu) (sn:List ByteArray),Yy sz sn l=0->∀x∈l,Jp sz x.ls=0
 | [],_,_,x,hx=>by cases hx
 | a::l,sn,h,x,hx=>by
  unfold Yy at h;split at h
  ·rename_i E;exact OW h E
  split at h
  ·rename_i E;exact OW h E
  rename_i E;rcases Li.1 hx with rfl|hx
  ·exact Lo.1 E
  exact Km sz l _ h x hx
theorem VH (sz:LI):∀(l:List xL) (sn:List ByteArray),Xf sz sn l=0->∀x∈l,XJ sz x=0
 | [],_,_,x,hx=>by cases hx
 | a::l,sn,h,x,hx=>by
  unfold Xf at h;split at h
  ·rename_i E;exact OW h E
  split at h
  ·rename_i E;exact OW h E
  rename_i E;rcases Li.1 hx with rfl|hx
  ·exact Lo.1 E
  exact VH sz l _ h x hx
structure Qr0 (sz:LI)(ex:List qu)(cs:List xL):Prop where
 s8:sz.length<=8
 s:∀n∈sz,1<=n/\n<=4096
 xl:ex.length<=32
 kl:cs.length<=32
 x:∀e∈ex,∀p∈e.ls,0<=p.1/\p.1<(sz.length:Int)
 k:∀e∈cs,(∀p∈e.ts,0<=p.1/\p.1<(sz.length:Int)/\-65536<=p.2/\p.2<=65536)/\e.ts.length<=8
theorem VI {sz:LI}{ex:List qu}{cs:List xL}(h:YE sz ex cs=0):Qr0 sz ex cs:=by
 unfold YE at h;split at h
 ·cases h
 rename_i Y;split at h
 ·cases h
 rename_i O;split at h
 ·cases h
 rename_i ha;split at h
 ·rename_i hx;exact OW h hx
 rename_i hx;refine⟨oa,λn S=>?_,oa,oa,λe H p G=>?_,λe H=>?_⟩
 ·have E:KP n=false:=by
   cases T:KP n with
   | false=>rfl
   | true=>exact OW (Nq.2 ⟨n,S,T⟩) O
  unfold KP at E;simp only[Oi,decide_eq_false_iff_not]at E;omega
 ·have E:=Km sz ex [] (Lo.1 hx) e H;unfold Jp at E;split at E
  ·cases E
  exact(UC sz e.ls none E).1 p G
 have E:=VH sz cs [] h e H;unfold XJ at E;split at E
 ·cases E
 split at E
 ·rename_i I;exact OW E I
 rename_i I;obtain⟨J,V,_⟩:=UA sz e.ts none (Lo.1 I);refine⟨J,?_⟩;have:=xH sz.length (e.ts.map (·.1)) (List.Pairwise.imp (λ{a b} (h:a<b)=>(by omega:a≠b)) V) (λx hx=>by
  obtain⟨p,G,rfl⟩:=LC.1 hx;exact⟨(J p G).1,(J p G).2.1⟩)
 rw[Lh]at this;omega
def Qns (sz t:LI):Prop:=t.length=sz.length/\∀i,i<t.length->0<=O6 t i/\O6 t i<O6 sz i
theorem Qgp (t:LI)(p:Int×Int)(l:xx)(s:Int):(l++[p]).foldl (λs p=>s+p.2*t.getD p.1.toNat 0) s=l.foldl (λs p=>s+p.2*t.getD p.1.toNat 0) s+p.2*O6 t p.1.toNat:=by
 rw[MD];rfl
theorem Qh1 {nm:ByteArray}{ts:xx}{bd:Int}{t:LI}(V:jP [] w.heap vl ts)(ht:QL [] w.heap vt t)
  (hh:∀p∈ts,0<=p.1/\p.1<(t.length:Int)/\-65536<=p.2/\p.2<=65536) (h8:ts.length<=8) (hi:∀i,i<t.length->0<=O6 t i/\O6 t i<=4096):
  QZ sV 299 [.agg #[.string nm,vl,sS bd],vt] w λr w'=>r=sS (Qp6 t ⟨nm,ts,bd⟩)/\sX w w':=by
 refine Zq func299 ?_;refine Qc<|Zl [.string nm,vl,sS bd] λb2 w1 Y hu hj=>Qb<|Qc<|Qb<|Qe<|Qc<|Qo U hj U U<|QF (V.I Y) U<|Qa<|xe<|Q8 (α:=Nat×Int) [(5,5),(7,7),(11,25)] (λz=>[(5,sS z.2),(11,sS z.1)]) (λz w'=>z.1<=ts.length/\sX w w'/\z.2=(ts.take z.1).foldl (λs p=>s+p.2*t.getD p.1.toNat 0) 0/\-(268435456*(z.1:Int))<=z.2/\z.2<=268435456*(z.1:Int)) (λz=>ts.length - z.1) (0,0) oB
  ⟨Ln _,Y,U,og,og⟩ ?_
 rintro⟨k,s⟩ g w2 ⟨hk,J,O,hv,hw⟩;refine Zn rfl U (λS=>?_) (λS=>?_)
 ·refine Qw ?_;have hm:ts.length<=k:=by have H:¬(k:Int)<(ts.length:Int):=S;omega
  rw[Lt hm]at O;refine Qj<|Qb<|Qh ⟨[_],La,by rw[O];rfl,J⟩
 have E:k<ts.length:=by have H:(k:Int)<(ts.length:Int):=S;omega
 have T:=hh _ (Ll E);have ha:ts.take (k+1)=ts.take k++[ts[k]'E]:=Lm E;refine Qf<|Qe<|Qm<|Qc<|O8 YJ (V.I J) U U E λhy H=>?_;refine Zh (ts[k]'E) λe he=>?_;rw[he]at H T ha;refine x (Qr H U U)<|QM [sS 0,sS 0] λb7 w3 hn ho I=>QI (QC e) I oB λw4 hp I=>xe ?_;have hq:sX w2 w4:=hn.O hp ho;have hb:=J.D hq;have hr:e.1=((e.1.toNat:Nat):Int):=oa
 have hf:e.1.toNat<t.length:=oa
 have hg:=hi _ hf;have hz:-268435456<=e.2*O6 t e.1.toNat/\e.2*O6 t e.1.toNat<=268435456:=by
  have h1:(-65536)*O6 t e.1.toNat<=e.2*O6 t e.1.toNat:=Int.mul_le_mul_of_nonneg_right T.2.2.1 hg.1;have h2:e.2*O6 t e.1.toNat<=65536*O6 t e.1.toNat:=Int.mul_le_mul_of_nonneg_right T.2.2.2 hg.1;omega
 refine Zh (e.2*O6 t e.1.toNat) λpr h0=>?_;refine ZA [] (YX 0 11 [])<|p Qx<|p (QJ U)<|pq (λ_ G=>Ql (I.I G) U U)<|p Qx<|p (QJ U) <|
  pq (λ_ G=>Ql (I.I G) U U)<|pic (i:=e.1.toNat) U (ht.I hb) U (OV sS hr) hf λh3 hs=>pq (λ_ G=>Qy (hs.I G) U) <|
  p (λ_=>QiA U U ⟨oa,oa⟩)<|p (λ_=>XS U U ⟨oa,oa⟩)<|p ZG<|pe ?_
 refine Qs<|QG U U<|Qa<|xe<|⟨(k+1,s+e.2*O6 t e.1.toNat),og,oB,E,hb.D (O5.C _ _),?_,og,og⟩;simp only[];rw[ha,Qgp,<-O]
theorem QjR {bt:Nat}{t:LI}(I:QY w.heap bt 56 [vt])(J:QL [] w.heap vt t)(e:Int×Int)(V:0<=e.1/\e.1<(t.length:Int)):
  QZ sV 297 ([sT (QC e)]++[sP bt]) w λr w'=>r=.bool (!decide (t.getD e.1.toNat 0=e.2))/\sX w w':=by
 refine Zq func297 ?_;refine Qc<|Zl (QC e) λb2 Y G ha H=>Qb ?_;have O:e.1=((e.1.toNat:Nat):Int):=oa
 have S:e.1.toNat<t.length:=oa
 refine Qe<|ZA [] (YX 0 9 [])<|pq (λ_ E=>Ql ((I.I G).I E) U U)<|p (QJ U)<|pq (λ_ E=>Ql (H.I E) U U)<|pic (i:=e.1.toNat) U (J.I G) U (OV sS O) S λa7 T =>
  pq (λ_ E=>Qy (T.I E) U)<|p (QJ U)<|pq (λ_ E=>Ql (H.I E) U U)<|p (λ_=>XM U U) <|
  p ZG<|pe ?_
 refine Qh ⟨[_],La,?_,G.D (O5.C _ _)⟩;show Value.bool (decide (¬O6 t e.1.toNat=e.2))=_;unfold O6;simp
theorem QhZ (t:LI)(x:qu):(!(x.ls.any λl=>!decide (t.getD l.1.toNat 0=l.2)))=Un t x:=by
 unfold Un;induction x.ls with
 | nil=>rfl
 | cons a l ih=>rw[List.any_cons,L7,<-ih];cases decide (t.getD a.1.toNat 0=a.2) <;> simp
theorem QmJ {q:XV}{t:LI}(I:QY w.heap b 116 (Q3 q))(J:jP [] w.heap q.v q.ls)(H:QL [] w.heap vt t)(O:∀p∈q.ls,0<=p.1/\p.1<(t.length:Int)):
  QZ sV 295 ([vt]++[sP b]) w λr w'=>r=.bool (Un t q.x)/\sX w w':=by
 refine Zq func295 ?_;refine Qc<|Qn<|yG (us:=[vt]) H.cells λb2 Y E ha S=>Qb<|Qc<|Qo U (I.I E) U U<|x ZD<|Qz<|(Qpu (q:=λl=>!decide (t.getD l.1.toNat 0=l.2)) (cap:=[sP b2]) (J.I E) (λe T V G=>QjR (S.I G) ((H.I E).I G) e (O e T))).mono ?_;rintro r2 V ⟨rfl,G⟩;refine x (ZC U)<|Qb<|Qh ⟨[_],La,OV Value.bool (QhZ t q.x),E.D G⟩
theorem QmI {q:KV}{t:LI}(G:QY w.heap b 121 (Q9 q))(I:jP [] w.heap q.v q.ts)(J:QL [] w.heap vt t)
  (O:∀p∈q.ts,0<=p.1/\p.1<(t.length:Int)/\-65536<=p.2/\p.2<=65536) (S:q.ts.length<=8) (T:∀i,i<t.length->0<=O6 t i/\O6 t i<=4096):
  QZ sV 298 ([vt]++[sP b]) w λr w'=>r=.bool (qy t q.k)/\sX w w':=by
 refine Zq func298 ?_;refine Qc<|Qb ?_;have hd:sX w { w with drawn:=w.drawn+1 }:=O5.C _ _
 refine Qe<|qZ (sX { w with drawn:=w.drawn+1 }) [oE 0,oE 1,oE 3,oE 4,oF 2,oE 5,oE 6] mixed om oe (O5.Z _ _) ?_
 refine pq (λ_ E=>Zr ((G.I hd).I E) U U)<|p Qx<|p (QJ U)<|pq (λ_ E=>Ql ((G.I hd).I E) U U)<|pk<|xg<|(Qh1 (I.I hd) (J.I hd) O S T).mono ?_;rintro V Y ⟨rfl,H⟩;refine⟨H,?_⟩;refine p (λ_=>Yd U U)<|p ZG<|pe ?_;exact Qh ⟨[_],La,U,hd.D H⟩
end Go.Lg
