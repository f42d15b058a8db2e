/- Merged out of 53 texts. -/
import Derived.Test.YtnlnkchlcpfehaaGreatDoorNha
import Derived.RangeFuncNested
import Derived.RangeFuncLeaves
import Derived.RangeFuncCalls
import Derived.OrdersIn
import Derived.TacticsIn
import Derived.Laws.StructEq
import Derived.Laws.Strings
set_option maxHeartbeats 40000000
set_option maxRecDepth 100000
set_option linter.all false
open Go Go.Lg
open Go.Value renaming int->oG
open Go.IntKind renaming i64->oH
open _root_.List renaming mem_singleton->oJ,not_mem_nil->oK,mem_cons->oL,length_append->oN,replicate->oO,length_singleton->oP,length->oQ,getD->oR,range'->oS,all_cons->oT,range->oV,mem_append->oW,length_cons->oX,map_cons->oY,getElem?_toArray->o0,append_assoc->o6,size_toArray->Od,flatMap_cons->Of,getElem?_eq_getElem->Og,cons_append->Oh,all_eq_true->Ok,headD_cons->On,tail_cons->Oo,singleton_append->Ow,append_nil->Oy,mem_map->OA,mem_range'_1->OB,range'_succ->OC,mem_filter->OH,take_append->OK,map_nil->OL,flatMap_nil->OM
open _root_.Bool renaming and_eq_true->oM,not_eq_true'->Oe,or_eq_false_iff->Oi,or_eq_true->OG,true_and->OO
open _root_.Array renaming replicate->oU
open _root_.Nat renaming add_mul->Oq,add_assoc->ON,zero_mul->OP,beq->OS
open _root_.Int renaming toNat_natCast->Ou
open _root_.Option renaming map_some->Oz
open Go renaming World->O1,Value->O2,Operand->O3,Program->O4
open Go.Proofs Go.Proofs.Tryz
open Go.Proofs.Tryz renaming prog->sV
variable {w w' W':O1}{L L' X ds ns:LN}{n t sz i b T j E g N id ty cap b1 B kt lo hi b2 et M gf gp:Nat}{cs us news capt:LV}{H:xA}{a:Q6}{α β:Type}{y G:O3}{z va ve vm vt v' vl vs vx vk:O2}{l u al ul out rs:LI}{P:O4}{f f1:Fr}{fn:Func}{aa:List Q6}{o:Oper}{d:xE}{af:xC}{gd:xq}{es:List Ed}{K:xx}{k':IntKind}{at_:Array Nat}{rest:xt}{Φ:O2→O1→Prop}{Dc:xu}{ops:xD}
namespace Go.Lg
theorem Xa.lt_of {a:Int}(h:Xa (a::l)){x:Int}(hx:x∈l):a<x:=(L8.1 h).1 x hx
theorem Xa.tail {a:Int}(h:Xa (a::l)):Xa l:=(L8.1 h).2
theorem Qmp (keep:Bool->Bool->Bool):∀(n:Nat) (a b:LI),a.length+b.length<=n->Xa a->Xa b->∀x,x∈mrg keep a b↔(x∈a\/x∈b)/\keep (decide (x∈a)) (decide (x∈b))=true:=by
 intro n;induction n with
 | zero =>
  intro a b h _ _ x;have S:a=[]:=Ls oa;have T:b=[]:=Ls oa;subst S T;simp[K6]
 | succ n ih =>
  intro a b H ia ib x;cases a with
  | nil =>
   cases b with
   | nil=>simp[K6]
   | cons y b =>
    rw[KE keep od];have:=ih [] b (by simp at H ⊢;omega) ia ib.tail x;have G:y∉b:=λh=>ov (ib.lt_of h)
    simp only[JG,tl,hx,cond_true,cond_false,Oo,On,oW];rw[this];by_cases e:x=y
    ·subst e;cases E:keep false true <;> simp[E,G]
    cases keep false true <;> simp[e]
  | cons u a =>
   cases b with
   | nil =>
    rw[KE keep od];have:=ih a [] (by simp at H ⊢;omega) ia.tail ib x;have G:u∉a:=λh=>ov (ia.lt_of h)
    simp only[JG,tl,hx,cond_true,cond_false,Oo,On,oW];rw[this];by_cases e:x=u
    ·subst e;cases E:keep true false <;> simp[E,G]
    cases keep true false <;> simp[e]
   | cons y b =>
    rw[KE keep od];have O:u∉a:=λh=>ov (ia.lt_of h)
    have G:y∉b:=λh=>ov (ib.lt_of h)
    rcases Int.lt_trichotomy u y with I|I|I
    ·have J:u∉y::b:=λh=>by
      rcases Lj.1 h with h|h
      ·omega
      have:=ib.lt_of h;omega
     have:=ih a (y::b) (by simp at H ⊢;omega) ia.tail ib x;have e1:decide (u<=y)=true:=OX oa;have e2:decide (y<=u)=false:=OZ oa;simp only[JG,tl,hx,e1,e2,cond_true,cond_false,Oo,On,oW];rw[this];by_cases e:x=u
     ·subst e;cases E:keep true false <;> simp[E,O,J]
     cases keep true false <;> simp[e]
    ·subst I;have:=ih a b (by simp at H ⊢;omega) ia.tail ib.tail x;have e1:decide (u<=u)=true:=OX oa;simp only[JG,tl,hx,e1,cond_true,Oo,On,oW];rw[this];by_cases e:x=u
     ·subst e;cases E:keep true true <;> simp[E,O,G]
     cases keep true true <;> simp[e]
    have J:y∉u::a:=λh=>by
     rcases Lj.1 h with h|h
     ·omega
     have:=ia.lt_of h;omega
    have:=ih (u::a) b (by simp at H ⊢;omega) ia ib.tail x;have e1:decide (u<=y)=false:=OZ oa;have e2:decide (y<=u)=true:=OX oa;simp only[JG,tl,hx,e1,e2,cond_true,cond_false,Oo,On,oW];rw[this];by_cases e:x=y
    ·subst e;cases E:keep false true <;> simp[E,G,J]
    cases keep false true <;> simp[e]
theorem z0 {keep:Bool->Bool->Bool}{a b:LI}(ia:Xa a)(ib:Xa b)(x:Int):x∈mrg keep a b↔(x∈a\/x∈b)/\keep (decide (x∈a)) (decide (x∈b))=true :=
 Qmp keep _ a b (Lx _) ia ib x
def setK (m k:Nat):LI:=((oS 0 k).filter λi=>decide (((m / 2 ^ i) &&& 1)=1)).map λi:Nat=>(i:Int)
theorem qA (m k:Nat):setK m (k+1)=if(m / 2 ^ k) &&& 1=1 then setK m k++[(k:Int)]else setK m k:=by
 unfold setK;rw[MB,L4,Lr,LT];by_cases h:(m / 2 ^ k) &&& 1=1
 ·rw[OU h,Md,OU (OX h)];rfl
 rw[OT h,Md,OT (by rw[OZ h];simp),Nm,Nr,LS]
theorem JV (m:Nat):∀k,(setK m k).length<=k
 | 0=>by simp[setK]
 | k+1=>by
  have:=JV m k;rw[qA];split
  ·simp;omega
  omega
theorem Qcm (m k:Nat):Xa (setK m k):=by
 unfold setK Xa;rw[MQ];refine List.Pairwise.sublist M0 ?_;exact(Nj (s:=0) (n:=k)).imp (λh=>oa)
instance ayCx1:Ay sV 102 4 5 1:=⟨oe,oe⟩
section
variable {pS:String}{all:xD}{C:xz}
theorem tp {l:xt}(h:XP P all C K l f w):XT P all C K (.pl l) f w:=h
end
section
variable {pS:String}
end
inductive Pu where
 | pl (l:xt)
 | f2 (pre:xt) (i j:Nat) (t1 t2:Pu)
 | f3 (pre:xt) (i j k:Nat) (t1 t2 t3:Pu)
def Pu.len:Pu->Nat
 | .pl l=>l.length
 | .f2 pre _ _ t1 _=>pre.length+(1+t1.len)
 | .f3 pre _ _ _ t1 _ _=>pre.length+(1+t1.len)
def Qbq (all:Array Oper):Pu->Array Bool->Bool
 | .pl l,ls=>Xo all l ls
 | .f2 pre i j t1 t2,ls=>Kj all pre ls && Region.ready .any all (Ya pre ls) == [i,j] && t1.len == t2.len && Qbq all t1 ((Ya pre ls).setIfInBounds i true) && Qbq all t2 ((Ya pre ls).setIfInBounds j true)
 | .f3 pre i j k t1 t2 t3,ls=>Kj all pre ls && Region.ready .any all (Ya pre ls) == [i,j,k] && t1.len == t2.len && t1.len == t3.len && Qbq all t1 ((Ya pre ls).setIfInBounds i true) && Qbq all t2 ((Ya pre ls).setIfInBounds j true) && Qbq all t3 ((Ya pre ls).setIfInBounds k true)
def Qqs (all:xD)(t:Pu):Bool:=Region.noSelect all.toArray && t.len == all.length && Qbq all.toArray t (oU all.length false)
def XE (P:O4)(all:xD)(C:xz)(i:Nat)(N:xx)(f:Fr)(w:O1):Prop:=Z9 all f (QS all i)=true/\XO P (QS all i) f w λE w'=>C w'/\N E w'
def XU (P:O4)(all:xD)(C:xz)(K:xx):Pu->Fr->O1->Prop
 | .pl l=>XP P all C K l
 | .f2 pre i j t1 t2=>XP P all C (λf w=>XE P all C i (XU P all C K t1) f w/\XE P all C j (XU P all C K t2) f w) pre
 | .f3 pre i j k t1 t2 t3=>XP P all C (λf w=>XE P all C i (XU P all C K t1) f w/\XE P all C j (XU P all C K t2) f w/\XE P all C k (XU P all C K t3) f w) pre
section
variable {all:xD}{C:xz}{B:xx}
theorem KR (E:Region.noSelect all.toArray=true):∀(t:Pu) (ls:Array Bool) (f:Fr) (w:O1),ls.size=all.length->C w->Qbq all.toArray t ls=true->XU P all C K t f w->XA P all C K t.len ls f w
 | .pl l,ls,f,w,S,T,G,h=>ZY E l ls f w S (.inl T) G h
 | .f2 pre i j t1 t2,ls,f,w,S,T,G,h=>by
  simp only[Qbq,oM,beq_iff_eq]at G;obtain⟨⟨⟨⟨Y,H⟩,hl⟩,h1⟩,h2⟩:=G;rw[Pu.len];refine YQ (B:=λf w=>XE P all C i (XU P all C K t1) f w/\XE P all C j (XU P all C K t2) f w) E pre ls f w T Y (λf I=>?_) h;have J:∀k,((Ya pre ls).setIfInBounds k true).size=all.length:=λk=>by simp[YU,S]
  rw[Nd 1];refine X3 (λh0=>(by rw[h0]at H;cases H)) ?_;rw[H];intro k V o O;simp only[oL,oK,or_false]at V;rcases V with rfl|rfl
  ·have:=I.1;unfold XE at this;rw[Zr O]at this;rw[this.1,cond_true];exact this.2.Y λv w' hx=>⟨.inr (.inr hx.1),KR E t1 _ _ _ (J _) hx.1 h1 hx.2⟩
  have:=I.2;unfold XE at this;rw[Zr O]at this;rw[this.1,cond_true,hl];exact this.2.Y λv w' hx=>⟨.inr (.inr hx.1),KR E t2 _ _ _ (J _) hx.1 h2 hx.2⟩
 | .f3 pre i j k t1 t2 t3,ls,f,w,S,T,G,h=>by
  simp only[Qbq,oM,beq_iff_eq]at G;obtain⟨⟨⟨⟨⟨⟨Y,H⟩,hl⟩,ha⟩,h1⟩,h2⟩,h3⟩:=G;rw[Pu.len];refine YQ (B:=λf w=>XE P all C i (XU P all C K t1) f w/\XE P all C j (XU P all C K t2) f w/\XE P all C k (XU P all C K t3) f w) E pre ls f w T Y (λf I=>?_) h;have J:∀k,((Ya pre ls).setIfInBounds k true).size=all.length:=λk=>by simp[YU,S]
  rw[Nd 1];refine X3 (λh0=>(by rw[h0]at H;cases H)) ?_;rw[H];intro q V o O;simp only[oL,oK,or_false]at V;rcases V with rfl|rfl|rfl
  ·have:=I.1;unfold XE at this;rw[Zr O]at this;rw[this.1,cond_true];exact this.2.Y λv w' hx=>⟨.inr (.inr hx.1),KR E t1 _ _ _ (J _) hx.1 h1 hx.2⟩
  ·have:=I.2.1;unfold XE at this;rw[Zr O]at this;rw[this.1,cond_true,hl];exact this.2.Y λv w' hx=>⟨.inr (.inr hx.1),KR E t2 _ _ _ (J _) hx.1 h2 hx.2⟩
  have:=I.2.2;unfold XE at this;rw[Zr O]at this;rw[this.1,cond_true,ha];exact this.2.Y λv w' hx=>⟨.inr (.inr hx.1),KR E t3 _ _ _ (J _) hx.1 h3 hx.2⟩
theorem QnD {Q:Exit->Fr->O1->Prop}(C:xz)(t:Pu)(H:P.follows .mixedOrders=true)(I:XM n all=true)(E:Qqs all t=true)
  (J:C { w with drawn:=w.drawn+1 }) (h:XU P all C (λf w=>Q .normal f w) t f { w with drawn:=w.drawn+1 }):W P n (.region id all.toArray true) Q f w:=by
 simp only[Qqs,oM,beq_iff_eq]at E;obtain⟨⟨O,S⟩,E⟩:=E;refine J4 C H I ?_;have G:=KR O t _ _ _ od J E h;rw[S]at G;exact G
theorem uP {l:xt}(h:XP P all C K l f w):XU P all C K (.pl l) f w:=h
theorem u2 {pre:xt}{E G:Pu}(h:XP P all C (λf w=>XE P all C i (XU P all C K E) f w/\XE P all C j (XU P all C K G) f w) pre f w):XU P all C K (.f2 pre i j E G) f w:=h
theorem u3 {pre:xt}{k:Nat}{E G H:Pu}(h:XP P all C (λf w=>XE P all C i (XU P all C K E) f w/\XE P all C j (XU P all C K G) f w/\XE P all C k (XU P all C K H) f w) pre f w):XU P all C K (.f3 pre i j k E G H) f w:=h
theorem ue {N:xx}(h:XO P (QS all i) f w λE w'=>C w'/\N E w')(G:Z9 all f (QS all i)=true:=by rfl):XE P all C i N f w:=⟨G,h⟩
end
attribute [irreducible] XU XE
open Go.RowKit
def sl (d:xE)(f:Fr):O2:=match d with|some d=>f d|none=>undef
def ow:O2->LN
 | .slice (some a) _ _=>[a.block]
 | .pointer (some a)=>[a.block]
 | .map (some b)=>[b]
 | _=>[]
def Fa (p:Nat->Prop):LN->Prop
 | []=>True
 | i::l=>p i/\Fa p l
theorem Fa.all {p:Nat->Prop}:∀{l:LN},Fa p l->∀i∈l,p i
 | [],_,_,hi=>by cases hi
 | j::l,h,i,hi=>by
  rcases Lj.1 hi with rfl|hi
  ·exact h.1
  exact Fa.all h.2 i hi
theorem Fa.of {p:Nat->Prop}:∀{l:LN},(∀i∈l,p i)->Fa p l
 | [],_=>trivial
 | i::_,h=>⟨h i Lq,Fa.of λj E=>h j (Lk _ E)⟩
def yJ (all:Array Oper)(opn:LN)(rest:xt):Nat->Array Bool->Bool
 | 0,ls=>Xo all rest ls && opn.all λi=>ls.getD i false
 | k+1,ls=>!(Region.ready .any all ls).isEmpty && (Region.ready .any all ls).all λi=>opn.contains i && yJ all opn rest k (ls.setIfInBounds i true)
def QcE (all:xD)(D:xu):LN->Bool
 | []=>true
 | i::l=>(QS all i).guard.isNone && (match (QS all i).dst with|some d=>Y4 D d && l.all (λj=>!((QS all j).dst == some d))|none=>false) && !l.contains i && QcE all D l
theorem K2 {all:xD}{D:xu}:∀{l:LN},QcE all D l=true->(∀i∈l,(QS all i).guard=none/\∃d,(QS all i).dst=some d/\Y4 D d=true)/\∀i∈l,∀j∈l,i≠j->(QS all i).dst≠(QS all j).dst
 | [],_=>⟨λ_ h=>(by cases h),λ_ h=>(by cases h)⟩
 | i::l,h=>by
  simp only[QcE,oM,Option.isNone_iff_eq_none]at h;obtain⟨⟨⟨O,hd⟩,T⟩,S⟩:=h;have ih:=K2 S;cases G:(QS all i).dst with
  | none=>rw[G]at hd;cases hd
  | some d =>
   rw[G]at hd;simp only[oM,Ok,Oe,beq_eq_false_iff_ne,ne_eq]at hd;have H:∀j∈l,(QS all j).dst≠some d:=λj E=>hd.2 j E;refine⟨λj E=>?_,λj E k I J=>?_⟩
   ·rcases Lj.1 E with rfl|E
    ·exact⟨O,d,G,hd.1⟩
    exact ih.1 j E
   rcases Lj.1 E with hj1|hj1
   ·rcases Lj.1 I with hk1|hk1
    ·exact OW (hj1.D hk1.symm) J
    rw[hj1,G];exact λe=>H k hk1 e.symm
   rcases Lj.1 I with hk1|hk1
   ·rw[hk1,G];exact H j hj1
   exact ih.2 j hj1 k hk1 J
def QqU (all:xD)(pre:xt)(opn:LN)(rest:xt)(D:xu):Bool :=
 Region.noSelect all.toArray && (pre.length+(opn.length+rest.length) == all.length) && Kj all.toArray pre (oU all.length false) && QcE all D opn && yJ all.toArray opn rest opn.length (Ya pre (oU all.length false))
  && opn.all λi=>!((Ya pre (oU all.length false)).getD i false)
section
variable {all:xD}{C:xz}
theorem X0 (h:o.guard=none):Z9 all f o=true:=by unfold Z9;rw[h]
theorem Qgp {α:Type}{D:xu}{opn:LN}{rest:xt}{Φ:Nat->O2->O1->Prop}{S:α->List (Nat×O2)}{I:α->O1->Prop}{f1:Fr}(hs:Region.noSelect all.toArray=true)(hc:QcE all D opn=true)
  (hn:∀w w',C w->sX w w'->C w') (stab:∀i v w w',Φ i v w->sX w w'->Φ i v w')
  (hq:∀(g:Fr) w,Fa (λi=>Φ i (sl (QS all i).dst g) w) opn->(∀i∈opn,∀j∈opn,i≠j->∀b∈ow (sl (QS all i).dst g),b∉ow (sl (QS all j).dst g))->∃z,Y1 g (S z)/\I z w)
  (spec:Fa (λi=>∀g w,C w->XO P (QS all i) (mix D f1 g) w (λf' w'=>sX w w'/\Φ i (sl (QS all i).dst f') w'/\∀b∈ow (sl (QS all i).dst f'),↑w<=b/\b<↑w')) opn)
  (fin:∀z g w,C w->I z w->XP P all C K rest (UP (S z) (mix D f1 g)) w):
  ∀(k:Nat) (ls:Array Bool) (f:Fr) (w:O1),ls.size=all.length->C w->yJ all.toArray opn rest k ls=true->(∀t,Y4 D t=false->f t=f1 t)->(∀i∈opn,ls.getD i false=true->Φ i (sl (QS all i).dst f) w) ->
   (∀i∈opn,ls.getD i false=true->(∀b∈ow (sl (QS all i).dst f),b<↑w)/\∀j∈opn,ls.getD j false=true->i≠j->∀b∈ow (sl (QS all i).dst f),b∉ow (sl (QS all j).dst f))->XA P all C K (k+rest.length) ls f w
 | 0,ls,f,w,hh,hC,H,hf,hl,O=>by
  simp only[yJ,oM,Ok]at H;obtain⟨z,h1,h2⟩:=hq f w (Fa.of λi hi=>hl i hi (H.2 i hi)) (λi hi j G E=>(O i hi (H.2 i hi)).2 j G (H.2 j G) E);have h3:=fin z f w hC h2;rw[Jd hf,Xh h1]at h3;rw[LT];exact ZY hs rest ls f w hh (.inl hC) H.1 h3
 | k+1,ls,f,w,hh,hC,H,hf,hl,O=>by
  simp only[yJ,oM,Ok,List.contains_iff_mem]at H;obtain⟨he,H⟩:=H;rw[Nat.add_right_comm];refine X3 (λh0=>(by rw[h0]at he;cases he)) ?_;intro i hi o ho;obtain⟨hm,hy⟩:=H i hi;obtain⟨hg,d,hd,h4⟩:=(K2 hc).1 i hm;have hsp:=Fa.all spec i hm f w hC;rw[Jd hf]at hsp;have T:=Zr ho;rw[T]at hg hd hsp;rw[X0 hg,cond_true];refine hsp.Y λv w' hx=>?_;have hr:=hn w w' hC hx.1;have hz:=hx.1.size;have old:∀j∈opn,j≠i->sl (QS all j).dst (QN f o.dst v)=sl (QS all j).dst f:=λj G E=>by
   obtain⟨_,dj,hu,_⟩:=(K2 hc).1 j G;have he:o.dst≠some dj:=λe=>((K2 hc).2) j G i hm E (by rw[hu,T];exact e.symm);rw[hu];exact Y2 he v
  have lsj:∀j,j≠i->(ls.setIfInBounds i true).getD j false=true->ls.getD j false=true:=λj E h=>by rw[getD_set_ne false (Ne.symm E)]at h;exact h
  refine⟨.inr (.inr hr),Qgp hs hc hn stab hq spec fin k _ _ _ (oA hh) hr hy (λt ht=>?_) (λj G ha=>?_) (λj G ha=>⟨λb J=>?_,λk hk hv hw b J V=>?_⟩)⟩
  ·rw[Y2 (by rw[hd];intro e;cases e;rw[h4]at ht;cases ht)];exact hf t ht
  ·by_cases E:j=i
   ·subst E;have h2:=hx.2.1;rw[T];exact h2
   rw[old j G E];exact stab _ _ _ _ (hl j G (lsj j E ha)) hx.1
  ·by_cases E:j=i
   ·subst E;rw[T]at J;exact(hx.2.2 b J).2
   rw[old j G E]at J;have:=(O j G (lsj j E ha)).1 b J;omega
  by_cases E:j=i
  ·subst E;have Y:k≠j:=Ne.symm hw;rw[old k hk Y]at V;rw[T]at J;have h1:=(O k hk (lsj k Y hv)).1 b V;have h2:=(hx.2.2 b J).1;omega
  rw[old j G E]at J;have h1:=(O j G (lsj j E ha)).1 b J;by_cases Y:k=i
  ·subst Y;rw[T]at V;have h2:=(hx.2.2 b V).1;omega
  rw[old k hk Y]at V;exact(O j G (lsj j E ha)).2 k hk (lsj k Y hv) hw b J V
theorem QnE {Q:Exit->Fr->O1->Prop}(C:xz)(pre:xt)(opn:LN)(rest:xt)(D:xu)(Φ:Nat->O2->O1->Prop)(S:α->List (Nat×O2))(I:α->O1->Prop)
  (hm:P.follows .mixedOrders=true) (hn:XM n all=true) (G:QqU all pre opn rest D=true) (H:C { w with drawn:=w.drawn+1 }) (ha:∀w w',C w->sX w w'->C w') (stab:∀i v w w',Φ i v w->sX w w'->Φ i v w')
  (hb:∀(g:Fr) w,Fa (λi=>Φ i (sl (QS all i).dst g) w) opn->(∀i∈opn,∀j∈opn,i≠j->∀b∈ow (sl (QS all i).dst g),b∉ow (sl (QS all j).dst g))->∃z,Y1 g (S z)/\I z w)
  (h:XP P all C (λf1 _=>Fa (λi=>∀g w,C w->XO P (QS all i) (mix D f1 g) w (λJ w'=>sX w w'/\Φ i (sl (QS all i).dst J) w'/\∀b∈ow (sl (QS all i).dst J),↑w<=b/\b<↑w')) opn /\
   ∀z g w,C w->I z w->XP P all C (λf w=>Q .normal f w) rest (UP (S z) (mix D f1 g)) w) pre f { w with drawn:=w.drawn+1 }):W P n (.region id all.toArray true) Q f w:=by
 simp only[QqU,oM,beq_iff_eq,Ok,Oe]at G;obtain⟨⟨⟨⟨⟨O,T⟩,hq⟩,hc⟩,he⟩,V⟩:=G;refine J4 C hm hn ?_;rw[<-T];have hf:(oU all.length false).size=all.length:=od
 have Y:=YQ (K:=λf w=>Q .normal f w) (m:=opn.length+rest.length) O pre (oU all.length false) f _ H hq (λf1 hB=>Qgp (P:=P) (C:=C) O hc ha stab hb hB.1 hB.2 opn.length (Ya pre (oU all.length false)) f1 _ (by rw[YU];exact hf) H he (λ_ _=>U) (λi hi E=>by rw[V i hi]at E;cases E) (λi hi E=>by rw[V i hi]at E;cases E)) h;rw[T]at Y ⊢;exact Y
end
section
variable {pS:String}
theorem flA [Ze P t z]{E:O1}{e:Nat}(us:LV)(G:sX E w)(S:z.cells=us.toArray:=by rfl):XO P ⟨some e,.alloc t,ty,pS,af,gd⟩ f w λH w'=>sX w w'/\sX E w'/\(∃b,H e=sP b/\↑E<=b/\QZ ↑w' b t us)/\∀b∈ow (H e),↑w<=b/\b<w'.heap.size:=K3 S λb w' I J O=>by
 have e1:QN f (some e) (sP b) e=sP b:=by simp[QN,upd]
 show sX w w'/\sX E w'/\(∃b',QN f (some e) (sP b) e=sP b'/\↑E<=b'/\QZ ↑w' b' t us)/\∀b'∈ow (QN f (some e) (sP b) e),↑w<=b'/\b'<↑w';rw[e1];exact⟨I,G.D I,⟨b,U,LH G.size J,O⟩,λx hx=>by rw[show x=b by simpa using(show x∈[b] from hx)];exact⟨J,O.lt⟩⟩
end
abbrev fen (ro:xE):Fence:={ Fence.wide with round:=ro }
def coll (ds:LN):List Deferred:=ds.map λD=>{ target:=.collected D,args:=#[] }
structure Xm (n:Nat)(ds:LN)(a:Act)(f:Fr):Prop where
 size:a.tmps.size=n
 defers:a.defers=coll ds
 get:∀t,a.tmps.getD t undef=f t
theorem Xm.rel {a:Act}(h:Xm n ds a f):Rel n { a with defers:=[] } f:=⟨h.size,U,h.get⟩
theorem Xm.eval {n:Nat}{ds:LN}{a:Act}{f:Fr}(h:Xm n ds a f):a.eval=ev f:=by
 have:=h.rel.eval;rw[<-this];funext x;cases x <;> rfl
theorem Xm.put {n:Nat}{ds:LN}{a:Act}{f:Fr}(h:Xm n ds a f){dst:xE}(hd:∀d,dst=some d->d<n)(v:O2):Xm n ds (a.put dst v) (QN f dst v):=by
 have:=h.rel.put hd v;cases dst with
 | none=>exact h
 | some d=>exact⟨this.size,h.defers,this.get⟩
def Ju:Code->Nat->Bool
 | .region _ ops _,t=>Ym ops.toList t
 | .seq a b,t=>Ju a t || Ju b t
 | .cond _ a b,t=>Ju a t || Ju b t
 | .block _ a,t=>Ju a t
 | .loop a,t=>Ju a t
 | .skip,_| .exit _,_| .label _,_| .goto _,_| .ret,_| .rangeFunc ..,_=>false
 | _,_=>true
def wrG (D:xu):Code->Bool
 | .region _ ops _=>QeW D ops.toList
 | .seq a b=>wrG D a && wrG D b
 | .cond _ a b=>wrG D a && wrG D b
 | .block _ a=>wrG D a
 | .loop a=>wrG D a
 | .skip| .exit _| .label _| .goto _| .ret| .rangeFunc ..=>true
 | _=>false
theorem Ke {D:xu}{t:Nat}(E:Y4 D t=false):∀c:Code,wrG D c=true->Ju c t=false
 | .region _ ops _,h=>jY h E
 | .seq a b,h=>by simp only[wrG,oM]at h;simp[Ju,Ke E a h.1,Ke E b h.2]
 | .cond _ a b,h=>by simp only[wrG,oM]at h;simp[Ju,Ke E a h.1,Ke E b h.2]
 | .block _ a,h=>Ke E a (by simpa[wrG]using h)
 | .loop a,h=>Ke E a (by simpa[wrG]using h)
 | .skip,_=>rfl
 | .exit _,_=>rfl
 | .label _,_=>rfl
 | .goto _,_=>rfl
 | .ret,_=>rfl
 | .rangeFunc ..,_=>rfl
 | .scope _,h=>by simp[wrG]at h
 | .refuse _,h=>by simp[wrG]at h
def WG (ro:xE)(m:Nat)(P:O4)(n:Nat)(c:Code)(Q:Exit->LN->Fr->O1->Prop)(ds:LN)(f:Fr)(w:O1):Prop :=
 ∀a,Xm n ds a f->c.wpIn (fen ro) m P (λe E w'=>∃ds' f',Xm n ds' E f'/\(∀t,Ju c t=false->f' t=f t)/\Q e ds' f' w') a w
def QdR (K:LN->Fr->O1->Prop)(Q:Exit->LN->Fr->O1->Prop):Exit->LN->Fr->O1->Prop
 | .normal,ds,f,w=>K ds f w
 | e,ds,f,w=>Q e ds f w
def Qq6 (id:Nat)(Q:Exit->LN->Fr->O1->Prop):Exit->LN->Fr->O1->Prop
 | .exit i,ds,f,w=>bif OS i id then Q .normal ds f w else Q (.exit i) ds f w
 | e,ds,f,w=>Q e ds f w
section
variable {ro:xE}{m:Nat}{Q:Exit->LN->Fr->O1->Prop}
theorem WG.Y {c:Code}{Q':Exit->LN->Fr->O1->Prop}(h:WG ro m P n c Q ds f w)(E:∀e ds f w,Q e ds f w->Q' e ds f w):WG ro m P n c Q' ds f w :=
 λa G=>wpIn_mono (h a G) λ_ _ _ ⟨H,I,J,O,S⟩=>⟨H,I,J,O,E _ _ _ _ S⟩
theorem WG.keeps {c:Code}(h:WG ro m P n c Q ds f w):WG ro m P n c (λe G E w'=>(∀t,Ju c t=false->E t=f t)/\Q e G E w') ds f w :=
 λa I=>wpIn_mono (h a I) λ_ _ _ ⟨G,E,J,H,O⟩=>⟨G,E,J,H,H,O⟩
theorem YV (h:Q .normal ds f w):WG ro m P n .skip Q ds f w:=λ_ E=>wpIn_skip ⟨ds,f,E,λ_ _=>U,h⟩
theorem VS (h:Q (.exit i) ds f w):WG ro m P n (.exit i) Q ds f w:=λ_ E=>wpIn_exit ⟨ds,f,E,λ_ _=>U,h⟩
theorem VR (h:Q .ret ds f w):WG ro m P n .ret Q ds f w:=λ_ E=>wpIn_ret ⟨ds,f,E,λ_ _=>U,h⟩
theorem Zk {x y:Code}(h:WG ro m P n x (QdR (λds f w=>WG ro m P n y Q ds f w) Q) ds f w):WG ro m P n (.seq x y) Q ds f w:=by
 intro a O;refine wpIn_seq (wpIn_mono (h a O) ?_);rintro e S w' ⟨J,E,G,T,H⟩;have k1:∀t,Ju (.seq x y) t=false->E t=f t:=λt I=>T t (by simp only[Ju,Oi]at I;exact I.1);cases e with
 | normal =>
  refine wpIn_mono (H S G) λ_ _ _ ⟨V,Y,g1,g2,g3⟩=>⟨V,Y,g1,λt I=>(g2 t ?_).D (k1 t I),g3⟩;simp only[Ju,Oi]at I;exact I.2
 | exit id=>exact⟨J,E,G,k1,H⟩
 | goto l=>exact⟨J,E,G,k1,H⟩
 | ret=>exact⟨J,E,G,k1,H⟩
 | panic ch=>exact⟨J,E,G,k1,H⟩
 | outgrown=>exact⟨J,E,G,k1,H⟩
theorem Qgr {x y:Code}(D:xu)(S:α->List (Nat×O2))(I:α->LN->O1->Prop)(hD:wrG D x=true)
  (O:WG ro m P n x (QdR (λE H w'=>∃z,Y1 H (S z)/\I z E w') Q) ds f w)
  (T:∀z g E w',I z E w'->WG ro m P n y Q E (UP (S z) (mix D f g)) w'):WG ro m P n (.seq x y) Q ds f w:=by
 refine Zk (O.keeps.Y ?_);rintro e E H w' ⟨V,G⟩;cases e with
 | normal =>
  obtain⟨z,Y,hi⟩:=G;have J:=T z H E w' hi;rw[Jd (λt ht=>V t (Ke ht x hD)),Xh Y]at J;exact J
 | exit id=>exact G
 | goto l=>exact G
 | ret=>exact G
 | panic ch=>exact G
 | outgrown=>exact G
theorem UK {c:O3}{x y:Code}{t:Bool}(H:ev f c=.bool t)(E:t=true->WG ro m P n x Q ds f w)(I:t=false->WG ro m P n y Q ds f w):
  WG ro m P n (.cond c x y) Q ds f w:=by
 intro a G;have J:a.eval c=.bool t:=by rw[G.eval];exact H
 refine wpIn_cond_split J (λe=>wpIn_mono (E e a G) ?_) (λe=>wpIn_mono (I e a G) ?_) <;>
  (rintro e a' w' ⟨O,S,T,V,Y⟩
   refine⟨O,S,T,λt E=>V t ?_,Y⟩;simp only[Ju,Oi]at E
   first|exact E.1|exact E.2)
theorem QnK {c:O3}{x y:Code}{p:Prop}[Decidable p](E:ev f c=.bool (decide p))(G:p->WG ro m P n x Q ds f w)(H:¬p->WG ro m P n y Q ds f w):
  WG ro m P n (.cond c x y) Q ds f w :=
 UK E (λe=>G (OY e)) (λe=>H (O0 e))
theorem Qa5 {c:O3}{x y:Code}{p:Prop}[Decidable p](E:ev f c=.bool (decide p))(G:¬p->WG ro m P n y Q ds f w)(H:p->WG ro m P n x Q ds f w):
  WG ro m P n (.cond c x y) Q ds f w:=QnK E H G
theorem QbZ {c:O3}{x y:Code}(E:ev f c=.bool true)(h:WG ro m P n x Q ds f w):WG ro m P n (.cond c x y) Q ds f w:=UK E (λ_=>h) (λe=>by cases e)
theorem Ua {c:O3}{x y:Code}(E:ev f c=.bool false)(h:WG ro m P n y Q ds f w):WG ro m P n (.cond c x y) Q ds f w:=UK E (λe=>by cases e) (λ_=>h)
theorem Yf {c:Code}(h:WG ro m P n c (Qq6 id Q) ds f w):WG ro m P n (.block id c) Q ds f w:=by
 intro a J;refine wpIn_block (wpIn_mono (h a J) ?_);rintro e V w' ⟨H,G,I,O,E⟩;have k1:∀t,Ju (.block id c) t=false->G t=f t:=λt S=>O t (by simpa[Ju]using S);cases e with
 | exit i =>
  simp only[Exit.inBlock];simp only[Qq6]at E;by_cases hi:i=id
  ·subst hi;simp only[Nat.beq_refl,cond_true]at E;simp only[if_true];exact⟨H,G,I,k1,E⟩
  have T:OS i id=false:=by
   cases e:OS i id with
   | false=>rfl
   | true=>exact OW (Nat.eq_of_beq_eq_true e) hi
  rw[T]at E;rw[OT hi];exact⟨H,G,I,k1,E⟩
 | normal=>exact⟨H,G,I,k1,E⟩
 | goto l=>exact⟨H,G,I,k1,E⟩
 | ret=>exact⟨H,G,I,k1,E⟩
 | panic ch=>exact⟨H,G,I,k1,E⟩
 | outgrown=>exact⟨H,G,I,k1,E⟩
end
def QcF (l:xD):Bool:=l.all λo=>match o.op with| .defer _=>false|_=>true
theorem Uv {l:xD}(h:QcF l=true):∀o∈l,∀c,o.op≠.defer c:=λo E c e=>by
 have:=Mh.1 h o E;rw[e]at this;cases this
section
variable {ro:xE}{m:Nat}
theorem Qgl {a:Act}{K':Act->O1->Prop}{Q:Exit->Act->O1->Prop}(h:Xm n ds a f)(G:∀c,o.op≠.defer c)
  (hK:∀v w',K (QN f o.dst v) w'->K' (a.put o.dst v) w') (hx:XO P o f w K):o.wpIn (fen ro) m P a w K' Q:=by
 unfold XO at hx;refine⟨λ_ _=>trivial,?_⟩;have e:Oper.semAt (fen ro).round a.eval o=execOp (ev f) o:=by
  rw[h.eval];cases ro with
  | none=>rfl
  | some l=>exact Oper.semAt_some l _ _ G
 rw[e];generalize (execOp (ev f) o).run P w=r at hx;cases r with
 | ok nx w' =>
  cases nx <;> simp only[upF]at hx <;> simp only[Oper.uponIn]
  case value v=>exact hK v w' hx
  case skip=>exact hK _ w' hx
  case enter g args =>
   refine⟨λh=>by simp[Fence.wide]at h,?_⟩;refine(callsIn_wide (n:=m - 1)).2 (Calls.mono hx λe H E=>?_);cases e with
   | returned v=>exact hK v H E
   | panicked c=>exact E.elim
   | outgrown=>exact E.elim
 | halt x w'=>exact hx.elim
theorem Up {l:xD}{a:Act}(h:Xm n ds a f)(E:∀o∈l,∀d,o.dst=some d->d<n)(o:Oper):Region.wanted o (yielded l.toArray a.tmps)=Z9 l f o:=qy h.rel E o
theorem Qgn {Q:Exit->LN->Fr->O1->Prop}{all:xD}(G:∀o∈all,∀d,o.dst=some d->d<n)(hd:∀o∈all,∀c,o.op≠.defer c)(f0:Fr):
  ∀(l:xD) (k:Nat) (a:Act) (f:Fr) (w:O1),(∀j,l[j]?=all[k+j]?)->Xm n ds a f->(∀t,Ym all t=false->f t=f0 t) ->
   XL P all (λf w=>Q .normal ds f w) l f w ->
   wpOpsIn (fen ro) m P all.toArray (λe V w'=>∃ds' f',Xm n ds' V f'/\(∀t,Ym all t=false->f' t=f0 t)/\Q e ds' f' w') (oS k l.length) a w
 | [],_,a,f,w,_,E,I,h=>⟨ds,f,E,I,by unfold XL at h;exact h⟩
 | o::l,k,a,f,w,J,E,I,h=>by
  have O:all[k]?=some o:=by simpa using(J 0).symm
  have H:o∈all:=Mt O;have ih:=λa f w=>Qgn (Q:=Q) G hd f0 l (k+1) a f w (λj=>by have:=J (j+1);simpa[ON,Nat.add_comm 1 j]using this);have next:∀v,(∀t,Ym all t=false->QN f o.dst v t=f0 t):=λv t S=>(Y2 (JU H S) v).D (I t S);simp only[oX,OC,wpOpsIn,o0,O];rw[Up E G o];unfold XL at h;cases T:Z9 all f o with
  | false =>
   rw[T]at h;exact⟨λ_ _=>trivial,ih _ _ _ (E.put (G o H) _) (next _) h⟩
  | true =>
   rw[T]at h;exact Qgl E (hd o H) (λv w' hx=>ih _ _ _ (E.put (G o H) v) (next v) hx) h
theorem QI {Q:Exit->LN->Fr->O1->Prop}{l:xD}(E:XM n l=true)(hd:QcF l=true)(h:XL P l (λf w=>Q .normal ds f w) l f w):WG ro m P n (.region id l.toArray false) Q ds f w:=by
 intro a G;refine wpIn_region ?_;have:=Qgn (ro:=ro) (m:=m) (Xz E) (Uv hd) f l 0 a f w od G (λ_ _=>rfl) h;simpa[List.range_eq_range',Ju]using this
attribute [local semireducible] XA in
theorem yi {Q:Exit->Act->O1->Prop}{all:xD}{C:xz}{K:xx}(G:∀o∈all,∀d,o.dst=some d->d<n)(hd:∀o∈all,∀c,o.op≠.defer c)(f0:Fr)
  (H:∀a f w,Xm n ds a f->(∀t,Ym all t=false->f t=f0 t)->K f w->Q .normal a w):
  ∀(k:Nat) (ls:Array Bool) (a:Act) (f:Fr) (w:O1),Xm n ds a f->(∀t,Ym all t=false->f t=f0 t)->XA P all C K k ls f w->wpAnyIn (fen ro) m P .any all.toArray Q k ls a w
 | 0,_,a,f,w,E,I,h=>⟨h.1,H a f w E I h.2⟩
 | k+1,ls,a,f,w,E,I,h=>by
  refine⟨λY=>H a f w E I (h.1 Y),λi hi=>?_⟩;unfold wpOpIn;simp only[o0];cases S:all[i]? with
  | none =>
   exfalso;obtain⟨_,o,ha,_⟩:=mem_ready.1 hi;simp[S]at ha
  | some o =>
   have J:o∈all:=Mt S;have O:=h.2 i hi o S;have next:∀v,(∀t,Ym all t=false->QN f o.dst v t=f0 t):=λv t T=>(Y2 (JU J T) v).D (I t T);simp only[];rw[Up E G o];cases V:Z9 all f o with
   | false =>
    rw[V]at O;exact⟨λ_ _=>trivial,yi G hd f0 H k _ _ _ _ (E.put (G o J) _) (next _) O⟩
   | true =>
    rw[V]at O;exact Qgl E (hd o J) (λv w' hx=>yi G hd f0 H k _ _ _ _ (E.put (G o J) v) (next v) hx.2) O
theorem jB {Q:Exit->LN->Fr->O1->Prop}{all:xD}(C:xz)(pl:xt)(I:P.follows .mixedOrders=true)(J:XM n all=true)(hd:QcF all=true)(G:yH all pl=true)
  (O:C { w with drawn:=w.drawn+1 }) (h:XP P all C (λf w=>Q .normal ds f w) pl f { w with drawn:=w.drawn+1 }):WG ro m P n (.region id all.toArray true) Q ds f w:=by
 intro a S;simp only[yH,oM,beq_iff_eq]at G;obtain⟨⟨T,V⟩,G⟩:=G;refine wpIn_region_any I ?_;have H:=ZY T pl _ _ _ od (.inl O) G h;rw[V]at H;have Y:=yi (ro:=ro) (m:=m) (n:=n) (ds:=ds) (Q:=λe a' w'=>∃ds' E,Xm n ds' a' E/\(∀t,Ym all t=false->E t=f t)/\Q e ds' E w') (Xz J) (Uv hd) f
  (λa E w hr hk hq=>⟨ds,E,hr,hk,hq⟩) _ _ a f _ S (λ_ _=>U) H
 simpa[Ju]using Y
end
section
variable {ro:xE}{m:Nat}{Q:Exit->LN->Fr->O1->Prop}
theorem zq {F:Fence}{c:Code}{Q:Exit->Act->O1->Prop}{a:Act}(J:α->Act->O1->Prop)(μ:α->Nat)(z:α)(h₀:J z a w)
  (round:∀x a w,J x a w->c.wpIn F m P (Exit.then (λH w'=>∃I,μ I<μ x/\J I H w') Q) a w):(Code.loop c).wpIn F m P Q a w:=by
 intro b k cs T O S;have key:∀j x a w,μ x=j->J x a w ->
   ∃e H w',Q e H w'/\ArrivesIn (Machine.fenced P F) P (lone (b.atR a (.code c::.inLoop c::k)) cs w) b k cs e H w':=by
  intro j;induction j using Nat.strongRecOn with
  | _ j ih =>
   intro x a w V Y;obtain⟨e,a₁,w₁,E,G⟩:=round x a w Y b (.inLoop c::k) cs T O S;cases e with
   | normal =>
    obtain⟨I,ha,hc⟩:=E;obtain⟨e₂,a₂,w₂,hq₂,harr₂⟩:=ih (μ I) (V ▸ ha) I a₁ w₁ U hc;exact⟨e₂,a₂,w₂,hq₂,.of_steps (StepsIn.trans G (.one (fenced_calm O S U) stepR_inLoop)) harr₂⟩
   | exit id=>exact⟨_,a₁,w₁,E,.pass (x:=.inLoop c) U (λ_ _=>.inl od) G⟩
   | goto l=>exact⟨_,a₁,w₁,E,.pass (x:=.inLoop c) U (λ_ _=>.inl od) G⟩
   | ret=>exact⟨_,a₁,w₁,E,.pass (x:=.inLoop c) U (λ_ _=>.inl od) G⟩
   | panic ch=>exact⟨_,a₁,w₁,E,.pass (x:=.inLoop c) U (λ_ _=>.inl od) G⟩
   | outgrown=>exact⟨_,a₁,w₁,E,.pass (x:=.inLoop c) U (λ_ _=>.inl od) G⟩
 obtain⟨e,H,w',E,G⟩:=key _ z a w U h₀;exact⟨e,H,w',E,.of_steps (.one (fenced_calm O S U) stepR_loop) G⟩
theorem ze {c:Code}(D:xu)(S:α->List (Nat×O2))(I:α->LN->O1->Prop)(μ:α->Nat)(hD:wrG D c=true)(z:α)
  (h0:Y1 f (S z)) (hI:I z ds w)
  (round:∀x g H w',I x H w'->WG ro m P n c (QdR (λE J hb=>∃V,μ V<μ x/\Y1 J (S V)/\I V E hb) Q) H (UP (S x) (mix D f g)) w'):WG ro m P n (.loop c) Q ds f w:=by
 intro a ha;refine zq (λ(x:α) Y w'=>∃H J,Xm n H Y J/\(∀t,Ju c t=false->J t=f t)/\Y1 J (S x)/\I x H w') μ z ⟨ds,f,ha,λ_ _=>U,h0,hI⟩ ?_;rintro x Y w' ⟨H,J,h1,h2,h3,h4⟩;have h5:=round x J H w' h4;rw[Jd (λt O=>h2 t (Ke O c hD)),Xh h3]at h5;refine wpIn_mono (h5 Y h1) ?_;rintro e hc hb ⟨E,G,g1,g2,T⟩;have k1:∀t,Ju c t=false->G t=f t:=λt O=>(g2 t O).D (h2 t O);have k2:∀t,Ju (.loop c) t=false->G t=f t:=λt O=>k1 t (by simpa[Ju]using O);cases e with
 | normal=>obtain⟨V,hm,hs,hi⟩:=T;exact⟨V,hm,E,G,g1,k1,hs,hi⟩
 | exit id=>exact⟨E,G,g1,k2,T⟩
 | goto l=>exact⟨E,G,g1,k2,T⟩
 | ret=>exact⟨E,G,g1,k2,T⟩
 | panic ch=>exact⟨E,G,g1,k2,T⟩
 | outgrown=>exact⟨E,G,g1,k2,T⟩
end
def rqG (P:O4)(rs:List ResultVar)(R:O2->O1->Prop):Exit->LN->Fr->O1->Prop
 | .normal,ds,f,w=>(∀D∈ds,w.heap[D]?=some (.deferred (some [])))/\ds.Nodup/\∃vs,∀w',O5 ds w w'->qq P f w' rs vs/\R (tup vs) w'
 | .ret,ds,f,w=>(∀D∈ds,w.heap[D]?=some (.deferred (some [])))/\ds.Nodup/\∃vs,∀w',O5 ds w w'->qq P f w' rs vs/\R (tup vs) w'
 | _,_,_,_=>False
theorem O5.putObj (w:O1)(D:Nat)(o:Obj):O5 [D] w (w.putObj D o):=⟨U,U,U,od,λk _ E=>World.putObj_heap_other (λe=>E (by simp[e]))⟩
theorem yU {F:Fence}{m:Nat}{P:O4}{fn:Func}{tmps:Array O2}{R:Ending->O1->Prop}:∀(ds:LN) (w:O1),(∀D∈ds,w.heap[D]?=some (.deferred (some [])))->ds.Nodup ->
  (∀w',O5 ds w w'->∃v,(results fn tmps).run P w'=.ok v w'/\R (.returned v) w')->LeavesInM F m P fn tmps R (coll ds) .returning w
 | [],w,_,_,h=>h w (O5.Z _ _)
 | D::ds,w,hD,I,h=>by
  refine⟨od,.inl ⟨D,_,rfl,run_takeDeferred (hD D Lq),?_⟩⟩;have H:=ND.1 I;refine yU ds _ (λE hE=>?_) H.2 (λw' J=>h w' ?_)
  ·rw[World.putObj_heap_other (λe=>H.1 (by rw[<-e];exact hE))];exact hD E (Lk _ hE)
  exact((O5.putObj w D (.deferred none)).Y (λb G=>by simp at G;simp[G])).Q (J.Y (λb G=>Lk _ G))
theorem QY.of_G {c:Code}{args:LV}{R:O2->O1->Prop}{rs:List ResultVar}(m:Nat)
  (V:P.funcs[g]?=some fn) (Y:fn.body=some c) (hn:fn.ntmps=n) (ha:fn.results=rs.toArray) (hl:args.length<=n)
  (h:WG none m P n c (rqG P rs R) [] (ent args) w):QY P g args w R:=by
 unfold QY;refine(callsIn_wide (n:=m)).1 (callsIn_of_wp_marks V Y Z (wpIn_mono (h _ ?_) ?_))
 ·refine⟨by simp[hn];omega,U,λt=>?_⟩;have key:∀(l:LV) (t:Nat),l[t]?.getD undef=ent l t:=by
   intro l;induction l with
   | nil=>intro t;rfl
   | cons v l ih=>intro t;cases t with|zero=>rfl|succ t=>simpa[ent]using ih t
  rw[<-key];simp only[Array.getD_eq_getD_getElem?,Array.getElem?_append,Od,o0];by_cases J:t<args.length
  ·simp[J]
  simp[J,Array.getElem?_replicate];split <;> rfl
 rintro e I w' ⟨H,f',O,_,E⟩;have fin:((∀D∈H,w'.heap[D]?=some (.deferred (some [])))/\H.Nodup/\∃vs,∀G,O5 H w' G->qq P f' G rs vs/\R (tup vs) G) ->
   LeavesInM Fence.wide m P fn I.tmps (λe w'=>match e with| .returned v=>R v w'|_=>False) I.defers .returning w':=by
  rintro⟨hd,hc,vs,S⟩;rw[O.defers];refine yU H w' hd hc λG T=>⟨tup vs,?_,(S G T).2⟩;simp only[results,ha,List.mapM_toArray,Sem.run_bind,Sem.run_map];rw[Kg (a:={ I with defers:=[] }) O.rel _ (λ_=>rfl) (λ_ _=>rfl) rs vs (S G T).1]
  cases vs with
  | nil=>rfl
  | cons v vs=>cases vs with|nil=>rfl|cons u us=>rfl
 cases e with
 | normal=>exact fin E
 | ret=>exact fin E
 | exit id=>exact E.elim
 | goto l=>exact E.elim
 | panic c=>exact E.elim
 | outgrown=>exact E.elim
attribute [irreducible] WG
def Uc (all:Array Oper)(i:Nat)(rest:xt):xt->Array Bool->Bool
 | [],ls=>Region.ready .any all ls == [i] && Xo all rest (ls.setIfInBounds i true)
 | (j,true)::l,ls=>(Region.ready .any all ls).contains j && Region.free .any all ls j && Uc all i rest l (ls.setIfInBounds j true)
 | (j,false)::l,ls=>!(Region.ready .any all ls).isEmpty && (Region.ready .any all ls).all (λk=>k == j || k == i) && Xo all ((j,false)::(l++rest)) (ls.setIfInBounds i true) && Uc all i rest l (ls.setIfInBounds j true)
def ZJ (all:xD)(d:Nat)(l:xt):Bool:=l.all λp=>!((QS all p.1).looksAt all.toArray).contains d && !((QS all p.1).dst == some d)
def Qhh (all:xD)(pre l:xt)(i:Nat)(rest:xt):Bool :=
 Region.noSelect all.toArray && (pre.length+(l.length+1+rest.length) == all.length) && Kj all.toArray pre (oU all.length false) && Uc all.toArray i rest l (Ya pre (oU all.length false))
  && (QS all i).guard.isNone && (match (QS all i).dst with|some d=>ZJ all d l|none=>false)
def XF (P:O4)(all:xD)(C:xz)(K:xx):xt->LN->Fr->O1->Prop
 | [],_,f,w=>K f w
 | (j,true)::l,own,f,w=>Z9 all f (QS all j)=true/\∃v,(∀w',(zi (QS all j)=true->C w')->(execOp (ev f) (QS all j)).run P w'=.ok (.value v) w')/\XF P all C K l own (QN f (QS all j).dst v) w
 | (j,false)::l,own,f,w=>Z9 all f (QS all j)=true/\∀w1,sX w w1->C w1->XO P (QS all j) f w1 λE w'=>C w'/\∃own',O5 own w1 w'/\(∀b∈own',b∈own\/(↑w1<=b/\b<↑w'))/\XF P all C K l own' E w'
section
variable {all:xD}{C:xz}{KF:xx}
theorem XF.I (hK:∀f w w',KF f w->sX w w'->KF f w'):∀{l:xt}{own:LN}{f:Fr}{w w':O1},XF P all C KF l own f w->sX w w'->XF P all C KF l own f w'
 | [],_,_,_,_,h,E=>hK _ _ _ h E
 | (_,true)::_,_,_,_,_,h,E=>by
  obtain⟨G,v,H,hx⟩:=h;exact⟨G,v,H,XF.I hK hx E⟩
 | (_,false)::_,_,_,_,_,h,E=>⟨h.1,λI J O=>h.2 I (E.D J) O⟩
attribute [local semireducible] XO in
theorem QbX (H:∀cs b,o.op≠.select cs b){d:Nat}{v:O2}{K':xx}(I:d∉o.looksAt all.toArray)(J:o.dst≠some d)(hK:∀u w',K (QN f o.dst u) w'->K' (QN (QN f o.dst u) (some d) v) w')
  (h:XO P o f w K):XO P o (QN f (some d) v) w K':=by
 have G:∀u,QN (QN f (some d) v) o.dst u=QN (QN f o.dst u) (some d) v:=λu=>JN f v u (λe E=>by cases E;exact J);unfold XO at *;rw[XK (all:=all) H f (some d) v (λe E=>by cases E;exact I)];generalize (execOp (ev f) o).run P w=r at *;cases r with
 | ok nx w' =>
  cases nx <;> simp only[upF]at h ⊢
  case value u=>rw[G];exact hK u w' h
  case skip=>rw[G];exact hK _ w' h
  case enter g args =>
   refine Calls.mono h λe O E=>?_;cases e with
   | returned u=>simp only at E ⊢;rw[G];exact hK u O E
   | panicked c=>exact E.elim
   | outgrown=>exact E.elim
 | halt x w'=>exact h.elim
theorem KH {D:xu}{f0:Fr}{dst:xE}{v:O2}(hd:inD D dst=true)(h:∀t,Y4 D t=false->f t=f0 t):∀t,Y4 D t=false->QN f dst v t=f0 t:=λt E =>
 (Y2 (λe=>by rw[e]at hd;simp only[inD]at hd;rw[hd]at E;cases E) v).D (h t E)
def Z0 (all:xD)(D:xu)(l:xt):Bool:=l.all λp=>inD D (QS all p.1).dst
structure Fl (P:O4)(all:xD)(C:xz)(K KF:xx)(i d:Nat)(rest:xt)(Φ:O2->O1->Prop)(Dc:xu)(f1:Fr):Prop where
 stab:∀v (own:LN) w w',Φ v w->O5 own w w'->(∀b∈ow v,b∉own)->Φ v w'
 spec:∀f w,(∀t,Y4 Dc t=false->f t=f1 t)->C w->XO P (QS all i) f w λf' w'=>sX w w'/\C w'/\Φ (f' d) w'/\∀b∈ow (f' d),↑w<=b/\b<↑w'
 fin:∀f w,KF f w->∀v,C w->Φ v w->XP P all C K rest (QN f (some d) v) w
 Y:∀f w w',KF f w->sX w w'->KF f w'
attribute [local semireducible] XP in
theorem ju {i d:Nat}{rest:xt}{Φ:O2->O1->Prop}{Dc:xu}{f1:Fr}(H:Fl P all C K KF i d rest Φ Dc f1)(O:Region.noSelect all.toArray=true){v:O2}:∀(l:xt) (own:LN) (f:Fr) (w:O1),ZJ all d l=true->XF P all C KF l own f w->C w->Φ v w ->
  (∀b∈ow v,b∉own/\b<↑w)->XP P all C K (l++rest) (QN f (some d) v) w
 | [],own,f,w,_,h,I,J,_=>H.fin f w h v I J
 | (j,q)::l,own,f,w,hfr,h,I,J,E=>by
  simp only[ZJ,oT,oM,Oe,List.contains_eq_mem,decide_eq_false_iff_not,beq_eq_false_iff_ne,ne_eq]at hfr;obtain⟨⟨S,T⟩,hfr⟩:=hfr;have V:ZJ all d l=true:=by simpa[ZJ]using hfr
  have ha:∀cs b,(QS all j).op≠.select cs b:=by
   intro cs b;cases Y:all[j]? with
   | none =>
    have:QS all j=default:=by
     clear h S T hfr V;have key:∀(l:xD) (j:Nat),l[j]?=none->QS l j=default:=by
      intro l;induction l with
      | nil=>intro j _;rfl
      | cons a l ih=>intro j hj;cases j with|zero=>simp at hj|succ j=>exact ih j (oA hj)
     exact key all j Y
    rw[this];intro e;cases e
   | some o=>rw[Zr Y];exact Region.noSelect_spec O j o cs b (oA Y)
  have hd:∀e,some d=some e->e∉(QS all j).looksAt all.toArray:=λe he=>by cases he;exact S
  cases q with
  | true =>
   obtain⟨hg,u,hu,hx⟩:=h;simp only[Oh,XP];rw[Jq (QS all j) f (some d) v hd,hg,cond_true,cond_true];refine⟨u,λw' hc=>?_,?_⟩
   ·rw[XK (all:=all) ha f (some d) v hd];exact hu w' hc
   rw[JN f v u (λe he=>by cases he;exact T)];exact ju H O l own _ w V hx I J E
  | false =>
   simp only[Oh,XP];rw[Jq (QS all j) f (some d) v hd,h.1,cond_true,cond_false];refine QbX (all:=all) ha S T (λu w' hx=>?_) (h.2 w (O5.Z _ _) I);obtain⟨hf,own',hh,hi,hx⟩:=hx;refine⟨.inr (.inr hf),ju H O l own' _ w' V hx hf (H.stab v own w w' J hh (λb G=>(E b G).1)) (λb G=>⟨λhm=>?_,LQ (E b G).2 hh.size⟩)⟩;rcases hi b hm with h3|h3
   ·exact(E b G).1 h3
   exact NI _ (LQ (E b G).2 h3.1)
theorem Qk2 {i d:Nat}{rest:xt}{Φ:O2->O1->Prop}{Dc:xu}{f1:Fr}(J:Fl P all C K KF i d rest Φ Dc f1)(V:Region.noSelect all.toArray=true)(Y:(QS all i).guard=none)(hd:(QS all i).dst=some d):∀(l:xt) (ls:Array Bool) (own:LN) (f:Fr) (w:O1),ls.size=all.length->ZJ all d l=true->Z0 all Dc l=true->(∀t,Y4 Dc t=false->f t=f1 t) ->
  XF P all C KF l own f w->C w->(∀b∈own,b<↑w)->Uc all.toArray i rest l ls=true->XA P all C K (l.length+1+rest.length) ls f w
 | [],ls,own,f,w,ha,hfr,O,hk1,h,S,hc,E=>by
  simp only[Uc,oM,beq_iff_eq]at E;obtain⟨T,E⟩:=E;rw[show([]:xt).length+1+rest.length=rest.length+1 by simp;omega];refine X3 (λh0=>(by rw[h0]at T;cases T)) ?_;rw[T];intro k hk o H;have hh:k=i:=by simpa using hk
  subst hh;have he:=Zr H;have hx:=J.spec f w hk1 S;rw[he]at Y hd hx;rw[X0 Y,cond_true];refine hx.Y λv w' hx=>?_;rw[hd]at hx ⊢;obtain⟨h1,G,I,h4⟩:=hx;simp only[QN,Xb]at I h4;refine⟨.inr (.inr G),ZY V rest _ _ _ (oA ha) (.inl G) E (J.fin f w' (J.Y f w w' h h1) v G I)⟩
 | (j,true)::l,ls,own,f,w,ha,hfr,O,hk1,h,S,hc,E=>by
  simp only[Uc,oM]at E;obtain⟨⟨T,hf⟩,hi⟩:=E;have hq:j∈Region.ready .any all.toArray ls:=by simpa using T
  have e:(oQ ((j,true)::l))+1+rest.length=(l.length+1+rest.length)+1:=by simp;omega
  rw[e];have hl:ZJ all d l=true:=by simp only[ZJ,oT,oM]at hfr;exact hfr.2
  simp only[Z0,oT,oM]at O;have hn:Z0 all Dc l=true:=O.2;cases H:all[j]? with
  | none =>
   exfalso;obtain⟨_,o,hz,_⟩:=mem_ready.1 hq;simp[H]at hz
  | some o =>
   obtain⟨ht,v,hv,hx⟩:=h;rw[Zr H]at ht hv hx;have h5:∀(j:Nat) (o:Oper) cs b,all[j]?=some o->o.op≠.select cs b:=λj o cs b hj=>Region.noSelect_spec V j o cs b (oA hj);have h6:=λk ok hk=>Region.free_spec (ops:=all.toArray) (md:=.any) (i:=j) (oi:=o) (listed:=ls) (oA H) hf k ok (oA hk);exact Xs (v:=v) (D:=λw=>zi o=true->C w) H (λ_ h=>h) h5 _ ls f w (λ_=>S) h6 hq (.inl ⟨ht,hv⟩) (Qk2 J V Y hd l _ own _ w (oA ha) hl hn (by have:=KH (v:=v) O.1 hk1;rw[Zr H]at this;exact this) hx S hc hi)
 | (j,false)::l,ls,own,f,w,ha,hfr,O,hk1,h,S,hc,E=>by
  simp only[Uc,oM,Ok,OG,beq_iff_eq,Oe]at E;obtain⟨⟨⟨hu,T⟩,h7⟩,hi⟩:=E;have e:(oQ ((j,false)::l))+1+rest.length=(l.length+1+rest.length)+1:=by simp;omega
  rw[e];have hl:ZJ all d l=true:=by simp only[ZJ,oT,oM]at hfr;exact hfr.2
  simp only[Z0,oT,oM]at O;have hn:Z0 all Dc l=true:=O.2;refine X3 (λh0=>(by rw[h0]at hu;cases hu)) ?_;intro k hk o H;have he:=Zr H;have hw:(ls.setIfInBounds k true).size=all.length:=by simpa using ha
  by_cases hh:k=i
  ·subst hh;have hx:=J.spec f w hk1 S;rw[he]at Y hd hx;rw[X0 Y,cond_true];refine hx.Y λv w' hx=>?_;rw[hd]at hx ⊢;obtain⟨h1,G,I,h4⟩:=hx;simp only[QN,Xb]at I h4;refine⟨.inr (.inr G),?_⟩;have hx:=ju J V ((j,false)::l) own f w' hfr (XF.I J.Y h h1) G I (λb hb=>⟨λhm=>NI _ (LQ (hc b hm) (h4 b hb).1),(h4 b hb).2⟩);have:=ZY V ((j,false)::(l++rest)) _ _ _ hw (.inl G) h7 hx;rw[show((j,false)::(l++rest)).length=l.length+1+rest.length by simp;omega]at this;exact this
  have h8:k=j:=(T k hk).resolve_right hh;subst h8;have h1:=h.1;have G:=h.2 w (O5.Z _ _) S;rw[he]at h1 G;rw[h1,cond_true];refine G.Y λv w' hx=>?_;obtain⟨hy,own',h9,hA,hx⟩:=hx;refine⟨.inr (.inr hy),Qk2 J V Y hd l _ own' _ w' hw hl hn (by have:=KH (v:=v) O.1 hk1;rw[he]at this;exact this) hx hy (λb hb=>?_) hi⟩;rcases hA b hb with I|I
  ·exact LQ (hc b I) h9.size
  exact I.2
theorem QnL {ro:xE}{m:Nat}{Q:Exit->LN->Fr->O1->Prop}(C:xz)(pre l:xt)(i d:Nat)(rest:xt)(own:LN)(KF:xx)(Φ:O2->O1->Prop)(Dc:xu)(T:P.follows .mixedOrders=true)(V:XM n all=true)(Y:QcF all=true)
  (H:Qhh all pre l i rest=true) (hb:Z0 all Dc l=true) (hd:(QS all i).dst=some d) (I:C { w with drawn:=w.drawn+1 }) (hc:∀b∈own,b<↑w)
  (h:XP P all C (λf1 _=>Fl P all C (λf w=>Q .normal ds f w) KF i d rest Φ Dc f1/\XF P all C KF l own f1 { w with drawn:=w.drawn+1 }) pre f { w with drawn:=w.drawn+1 }):WG ro m P n (.region id all.toArray true) Q ds f w:=by
 unfold WG;intro a ha;simp only[Qhh,oM,beq_iff_eq,Option.isNone_iff_eq_none]at H;obtain⟨⟨⟨⟨⟨J,hl⟩,G⟩,he⟩,hg⟩,hfr⟩:=H;rw[hd]at hfr;refine wpIn_region_any T ?_;have O:=YQ (K:=λf w=>Q .normal ds f w) (m:=l.length+1+rest.length) J pre (oU all.length false) f _ I G
  (λf1 S=>Qk2 S.1 J hg hd l (Ya pre (oU all.length false)) own f1 _ (by rw[YU];simp) hfr hb (λ_ _=>rfl) S.2 I hc he) h
 rw[hl]at O;have h2:=yi (ro:=ro) (m:=m) (n:=n) (ds:=ds) (Q:=λe a' w'=>∃ds' E,Xm n ds' a' E/\(∀t,Ym all t=false->E t=f t)/\Q e ds' E w') (Xz V) (Uv Y) f
  (λa E w hr hk G=>⟨ds,E,hr,hk,G⟩) _ _ a f _ ha (λ_ _=>U) O
 simpa[Ju]using h2
theorem XP.keeps_mono {K':xx}:∀(l:xt) (f:Fr) (w:O1),XP P all C K l f w->(∀f w,K f w->K' f w)->XP P all C K' l f w
 | [],f,w,h,E=>by simp only[XP]at h ⊢;exact E _ _ h
 | (j,q)::l,f,w,h,E=>by
  simp only[XP]at h ⊢;cases G:Z9 all f (QS all j)with
  | false=>rw[G]at h;exact XP.keeps_mono l _ _ h E
  | true =>
   rw[G]at h;cases q with
   | true=>obtain⟨v,H,hx⟩:=h;exact⟨v,H,XP.keeps_mono l _ _ hx E⟩
   | false=>exact XO.Y (λv w' hx=>⟨hx.1,XP.keeps_mono l _ _ hx.2 E⟩) h
theorem XP.keeps {D:xu}{f0:Fr}:∀(l:xt) (f:Fr) (w:O1),Z0 all D l=true->(∀t,Y4 D t=false->f t=f0 t)->XP P all C K l f w->XP P all C (λH w'=>(∀t,Y4 D t=false->H t=f0 t)/\K H w') l f w
 | [],f,w,_,E,h=>by simp only[XP]at h ⊢;exact⟨E,h⟩
 | (j,q)::l,f,w,hd,E,h=>by
  simp only[Z0,oT,oM]at hd;have G:Z0 all D l=true:=hd.2;simp only[XP]at h ⊢;cases I:Z9 all f (QS all j)with
  | false=>rw[I]at h;exact XP.keeps l _ _ G (KH hd.1 E) h
  | true =>
   rw[I]at h;cases q with
   | true=>obtain⟨v,J,hx⟩:=h;exact⟨v,J,XP.keeps l _ _ G (KH hd.1 E) hx⟩
   | false=>exact XO.Y (λv w' hx=>⟨hx.1,XP.keeps l _ _ G (KH hd.1 E) hx.2⟩) h
theorem XF.keeps {D:xu}{f0:Fr}:∀(l:xt) (own:LN) (f:Fr) (w:O1),Z0 all D l=true->(∀t,Y4 D t=false->f t=f0 t)->XF P all C K l own f w->XF P all C (λG w'=>(∀t,Y4 D t=false->G t=f0 t)/\K G w') l own f w
 | [],own,f,w,_,E,h=>⟨E,h⟩
 | (j,true)::l,own,f,w,hd,E,h=>by
  simp only[Z0,oT,oM]at hd;obtain⟨H,v,I,hx⟩:=h;exact⟨H,v,I,XF.keeps l own _ _ hd.2 (KH hd.1 E) hx⟩
 | (j,false)::l,own,f,w,hd,E,h=>by
  simp only[Z0,oT,oM]at hd;refine⟨h.1,λJ O S=>XO.Y (λv w' hx=>?_) (h.2 J O S)⟩;obtain⟨T,own',V,Y,hx⟩:=hx;exact⟨T,own',V,Y,XF.keeps l own' _ _ hd.2 (KH hd.1 E) hx⟩
theorem Qlk {ro:xE}{m:Nat}{Q:Exit->LN->Fr->O1->Prop}(C:xz)(pre l:xt)(i d:Nat)(rest:xt)(own:LN)(D Dc:xu)(S:α->List (Nat×O2))(I:α->O1->Prop)(Φ:O2->O1->Prop)(T:P.follows .mixedOrders=true)(V:XM n all=true)(Y:QcF all=true)
  (hp:Qhh all pre l i rest=true) (H:(Z0 all D pre && Z0 all D l && Z0 all Dc l)=true) (hd:(QS all i).dst=some d) (hC:C { w with drawn:=w.drawn+1 }) (ha:∀b∈own,b<↑w)
  (stab:∀v (own:LN) w w',Φ v w->O5 own w w'->(∀b∈ow v,b∉own)->Φ v w') (mono:∀z w w',I z w->sX w w'->I z w')
  (fin:∀z g w v,I z w->C w->Φ v w->XP P all C (λf w=>Q .normal ds f w) rest (QN (UP (S z) (mix D f g)) (some d) v) w)
  (h:XP P all C (λf1 _=>(∀g w,C w->XO P (QS all i) (mix Dc f1 g) w λE w'=>sX w w'/\C w'/\Φ (E d) w'/\∀b∈ow (E d),↑w<=b/\b<↑w')/\XF P all C (λE w'=>∃z,Y1 E (S z)/\I z w') l own f1 { w with drawn:=w.drawn+1 }) pre f { w with drawn:=w.drawn+1 }):WG ro m P n (.region id all.toArray true) Q ds f w:=by
 rw[Ly,Ly]at H;refine QnL C pre l i d rest own (λE w'=>(∀t,Y4 D t=false->E t=f t)/\∃z,Y1 E (S z)/\I z w') Φ Dc T V Y hp H.2 hd hC ha ?_;refine XP.keeps_mono _ _ _ (XP.keeps pre f _ H.1.1 (λ_ _=>U) h) (λf1 w1 hx=>⟨⟨stab,?_,?_,?_⟩,XF.keeps l own _ _ H.1.2 hx.1 hx.2.2⟩)
 ·intro E w' G J;have:=hx.2.1 E w' J;rw[Jd G]at this;exact this
 ·rintro E w' ⟨G,z,O,hi⟩ v J hv;have:=fin z E w' v hi J hv;rw[Jd G,Xh O]at this;exact this
 rintro E w' hc ⟨G,z,O,hi⟩ hb;exact⟨G,z,O,mono z _ _ hi hb⟩
theorem fp {l:xt}{own:LN}{v:O2}(E:∀w',(execOp (ev f) (QS all j)).run P w'=.ok (.value v) w')(h:XF P all C K l own (QN f (QS all j).dst v) w)
  (G:Z9 all f (QS all j)=true:=by rfl):XF P all C K ((j,true)::l) own f w:=⟨G,v,λw' _=>E w',h⟩
theorem fk {l:xt}{own:LN}(h:∀w1,sX w w1->C w1->XO P (QS all j) f w1 λE w'=>C w'/\∃own',O5 own w1 w'/\(∀b∈own',b∈own\/(↑w1<=b/\b<↑w'))/\XF P all C K l own' E w')
  (G:Z9 all f (QS all j)=true:=by rfl):XF P all C K ((j,false)::l) own f w:=⟨G,h⟩
theorem fe {own:LN}(h:K f w):XF P all C K [] own f w:=h
end
attribute [irreducible] XF
def KA (P:O4)(all:xD)(K:xz->LN->Fr->O1->Prop):xt->xz->LN->Fr->O1->Prop
 | [],C,own,f,w=>K C own f w
 | (j,true)::l,C,own,f,w=>Z9 all f (QS all j)=true/\∃v,(∀w',(zi (QS all j)=true->C w')->(execOp (ev f) (QS all j)).run P w'=.ok (.value v) w')/\KA P all K l C own (QN f (QS all j).dst v) w
 | (j,false)::l,C,own,f,w=>Z9 all f (QS all j)=true/\∀w1,sX w w1->C w1->XO P (QS all j) f w1 λE w'=>∃C':xz,(∀x,C' x->C x)/\(∀x x',C' x->sX x x'->C' x')/\C' w'/\∃own',O5 own w1 w'/\(∀b∈own',b∈own\/(↑w1<=b/\b<↑w'))/\KA P all K l C' own' E w'
section
variable {all:xD}{C C0:xz}{KF:xz->LN->Fr->O1->Prop}
theorem KA.I (hK:∀C own f w w',KF C own f w->sX w w'->KF C own f w'):∀{l:xt}{C:xz}{own:LN}{f:Fr}{w w':O1},KA P all KF l C own f w->sX w w'->KA P all KF l C own f w'
 | [],_,_,_,_,_,h,E=>hK _ _ _ _ _ h E
 | (_,true)::_,_,_,_,_,_,h,E=>by
  obtain⟨G,v,H,hx⟩:=h;exact⟨G,v,H,KA.I hK hx E⟩
 | (_,false)::_,_,_,_,_,_,h,E=>⟨h.1,λI J O=>h.2 I (E.D J) O⟩
attribute [local semireducible] XA XO in
theorem XA.sub {C':xz}(G:∀x,C' x->C x):∀(k:Nat) (ls:Array Bool) (f:Fr) (w:O1),XA P all C' K k ls f w->XA P all C K k ls f w
 | 0,_,_,_,h=>h
 | k+1,ls,f,w,h=>by
  refine⟨h.1,λi hi o I=>?_⟩;have E:=h.2 i hi o I;cases H:Z9 all f o with
  | false=>rw[H]at E;exact XA.sub G k _ _ _ E
  | true =>
   rw[H]at E;exact XO.Y (λJ w' hx=>⟨hx.1.imp id (Or.imp id (G w')),XA.sub G k _ _ _ hx.2⟩) E
structure Fl3 (P:O4)(all:xD)(C0:xz)(K:xx)(KF:xz->LN->Fr->O1->Prop)(i d:Nat)(rest:xt)(Φ:O2->O1->Prop)(Dc:xu)(f1:Fr):Prop where
 stab:∀v (own:LN) w w',Φ v w->O5 own w w'->(∀b∈ow v,b∉own)->Φ v w'
 spec:∀f w,(∀t,Y4 Dc t=false->f t=f1 t)->C0 w->XO P (QS all i) f w λf' w'=>sX w w'/\C0 w'/\Φ (f' d) w'/\∀b∈ow (f' d),↑w<=b/\b<↑w'
 fin:∀C own f w,KF C own f w->∀v,C w->(∀x,C x->C0 x)->Φ v w->(∀b∈ow v,b∉own/\b<↑w)->XP P all C K rest (QN f (some d) v) w
 Y:∀C own f w w',KF C own f w->sX w w'->KF C own f w'
theorem Qaj:∀(l:xD) (j:Nat),l[j]?=none->QS l j=default
 | [],_,_=>rfl
 | _::l,0,h=>by simp at h
 | _::l,j+1,h=>Qaj l j (oA h)
theorem yK (G:Region.noSelect all.toArray=true)(j:Nat):∀cs b,(QS all j).op≠.select cs b:=by
 intro cs b;cases E:all[j]? with
 | none=>rw[Qaj all j E];intro e;cases e
 | some o=>rw[Zr E];exact Region.noSelect_spec G j o cs b (oA E)
theorem QeJ {i d:Nat}{rest:xt}{Φ:O2->O1->Prop}{Dc:xu}{f1:Fr}(hF:Fl3 P all C0 K KF i d rest Φ Dc f1)(J:Region.noSelect all.toArray=true){v:O2}:∀(l:xt) (C:xz) (own:LN) (ls:Array Bool) (f:Fr) (w:O1),(∀x,C x->C0 x)->(∀x x',C x->sX x x'->C x')->ls.size=all.length->ZJ all d l=true->KA P all KF l C own f w->C w->Φ v w ->
  (∀b∈ow v,b∉own/\b<↑w)->Xo all.toArray (l++rest) ls=true->XA P all C K (l++rest).length ls (QN f (some d) v) w
 | [],C,own,ls,f,w,O,hh,S,_,h,H,T,E,I=>ZY J rest ls _ w S (.inl H) I (hF.fin C own f w h v H O T E)
 | (j,true)::l,C,own,ls,f,w,O,hh,S,hfr,h,H,T,E,I=>by
  simp only[ZJ,oT,oM,Oe,List.contains_eq_mem,decide_eq_false_iff_not,beq_eq_false_iff_ne,ne_eq]at hfr;obtain⟨⟨h1,h2⟩,hfr⟩:=hfr;have hi:ZJ all d l=true:=by simpa[ZJ]using hfr
  have hd:∀e,some d=some e->e∉(QS all j).looksAt all.toArray:=λe V=>by cases V;exact h1
  simp only[Oh,Xo,oM]at I;obtain⟨⟨Y,hf⟩,hl⟩:=I;have hw:j∈Region.ready .any all.toArray ls:=by simpa using Y
  obtain⟨hg,u,hu,hx⟩:=h;cases G:all[j]? with
  | none =>
   exfalso;obtain⟨_,o,h6,_⟩:=mem_ready.1 hw;simp[G]at h6
  | some o =>
   have h7:∀(j:Nat) (o:Oper) cs b,all[j]?=some o->o.op≠.select cs b:=λj o cs b hj=>Region.noSelect_spec J j o cs b (oA hj);have h8:=λk ok hk=>Region.free_spec (ops:=all.toArray) (md:=.any) (i:=j) (oi:=o) (listed:=ls) (oA G) hf k ok (oA hk);have hn:Z9 all (QN f (some d) v) o=true:=by
    have:=Jq (QS all j) f (some d) v hd;rw[Zr G]at this hg;rw[this];exact hg
   have h9:∀w',(zi o=true->C w')->(execOp (ev (QN f (some d) v)) o).run P w'=.ok (.value u) w':=λw' hc=>by
    have:=XK (all:=all) (yK J j) f (some d) v hd;rw[Zr G]at this hu;rw[this];exact hu w' hc
   have hy:=QeJ hF J l C own (ls.setIfInBounds j true) _ w O hh (oA S) hi hx H T E hl;rw[<-JN f v u (λe V=>by cases V;exact h2),Zr G]at hy;exact Xs (v:=u) (D:=λw=>zi o=true->C w) G (λ_ h=>h) h7 _ ls _ w (λ_=>H) h8 hw (.inl ⟨hn,h9⟩) hy
 | (j,false)::l,C,own,ls,f,w,O,hh,S,hfr,h,H,T,E,I=>by
  simp only[ZJ,oT,oM,Oe,List.contains_eq_mem,decide_eq_false_iff_not,beq_eq_false_iff_ne,ne_eq]at hfr;obtain⟨⟨h1,h2⟩,hfr⟩:=hfr;have hi:ZJ all d l=true:=by simpa[ZJ]using hfr
  have hd:∀e,some d=some e->e∉(QS all j).looksAt all.toArray:=λe V=>by cases V;exact h1
  simp only[Oh,Xo,oM,beq_iff_eq]at I;obtain⟨Y,hl⟩:=I;show XA P all C K ((l++rest).length+1) ls _ w;refine X3 (λh0=>(by rw[h0]at Y;cases Y)) ?_;rw[Y];intro k hk o G;have hA:k=j:=by simpa using hk
  subst hA;have hq:=Zr G;have hn:Z9 all (QN f (some d) v) o=true:=by
   have:=Jq (QS all k) f (some d) v hd;rw[hq]at this;rw[this,<-hq];exact h.1
  rw[hn,cond_true];have h3:=h.2 w (O5.Z _ _) H;have h4:XO P (QS all k) (QN f (some d) v) w λf' w'=>(Vk all k=true\/w'=w\/C w')/\XA P all C K (l++rest).length (ls.setIfInBounds k true) f' w':=by
   refine QbX (all:=all) (yK J k) h1 h2 (λu w' hx=>?_) h3;obtain⟨C',ht,hB,hz,own',h5,hD,hx⟩:=hx;refine⟨.inr (.inr (ht _ hz)),XA.sub ht _ _ _ _ (QeJ hF J l C' own' _ _ w' (λx hx=>O x (ht x hx)) hB (oA S) hi hx hz (hF.stab v own w w' T h5 (λb ha=>(E b ha).1)) (λb ha=>⟨λhm=>?_,LQ (E b ha).2 h5.size⟩) hl)⟩;rcases hD b hm with h3|h3
   ·exact(E b ha).1 h3
   exact NI _ (LQ (E b ha).2 h3.1)
  rw[hq]at h4;exact h4
theorem QbY {i d:Nat}{rest:xt}{Φ:O2->O1->Prop}{Dc:xu}{f1:Fr}(O:Fl3 P all C0 K KF i d rest Φ Dc f1)(hs:Region.noSelect all.toArray=true)(hg:(QS all i).guard=none)(hd:(QS all i).dst=some d):∀(l:xt) (C:xz) (ls:Array Bool) (own:LN) (f:Fr) (w:O1),(∀x,C x->C0 x)->(∀x x',C x->sX x x'->C x')->ls.size=all.length->ZJ all d l=true->Z0 all Dc l=true->(∀t,Y4 Dc t=false->f t=f1 t) ->
  KA P all KF l C own f w->C w->(∀b∈own,b<↑w)->Uc all.toArray i rest l ls=true->XA P all C K (l.length+1+rest.length) ls f w
 | [],C,ls,own,f,w,S,ha,he,hfr,T,hk1,h,G,hc,E=>by
  simp only[Uc,oM,beq_iff_eq]at E;obtain⟨Y,E⟩:=E;rw[show([]:xt).length+1+rest.length=rest.length+1 by simp;omega];refine X3 (λh0=>(by rw[h0]at Y;cases Y)) ?_;rw[Y];intro k hk o H;have hi:k=i:=by simpa using hk
  subst hi;have hh:=Zr H;have hx:=O.spec f w hk1 (S _ G);rw[hh]at hg hd hx;rw[X0 hg,cond_true];refine hx.Y λv w' hx=>?_;rw[hd]at hx ⊢;obtain⟨V,_,I,h4⟩:=hx;simp only[QN,Xb]at I h4;have J:=ha _ _ G V;refine⟨.inr (.inr J),ZY hs rest _ _ _ (oA he) (.inl J) E (O.fin C own f w' (O.Y C own f w w' h V) v J S I (λb hb=>⟨λhm=>NI _ (LQ (hc b hm) (h4 b hb).1),(h4 b hb).2⟩))⟩
 | (j,true)::l,C,ls,own,f,w,S,ha,he,hfr,T,hk1,h,G,hc,E=>by
  simp only[Uc,oM]at E;obtain⟨⟨Y,hf⟩,hl⟩:=E;have hu:j∈Region.ready .any all.toArray ls:=by simpa using Y
  have e:(oQ ((j,true)::l))+1+rest.length=(l.length+1+rest.length)+1:=by simp;omega
  rw[e];have hn:ZJ all d l=true:=by simp only[ZJ,oT,oM]at hfr;exact hfr.2
  simp only[Z0,oT,oM]at T;have hq:Z0 all Dc l=true:=T.2;cases H:all[j]? with
  | none =>
   exfalso;obtain⟨_,o,h6,_⟩:=mem_ready.1 hu;simp[H]at h6
  | some o =>
   obtain⟨hw,v,hv,hx⟩:=h;rw[Zr H]at hw hv hx;have h7:∀(j:Nat) (o:Oper) cs b,all[j]?=some o->o.op≠.select cs b:=λj o cs b hj=>Region.noSelect_spec hs j o cs b (oA hj);have h8:=λk ok hk=>Region.free_spec (ops:=all.toArray) (md:=.any) (i:=j) (oi:=o) (listed:=ls) (oA H) hf k ok (oA hk);exact Xs (v:=v) (D:=λw=>zi o=true->C w) H (λ_ h=>h) h7 _ ls f w (λ_=>G) h8 hu (.inl ⟨hw,hv⟩) (QbY O hs hg hd l C _ own _ w S ha (oA he) hn hq (by have:=KH (v:=v) T.1 hk1;rw[Zr H]at this;exact this) hx G hc hl)
 | (j,false)::l,C,ls,own,f,w,S,ha,he,hfr,T,hk1,h,G,hc,E=>by
  simp only[Uc,oM,Ok,OG,beq_iff_eq,Oe]at E;obtain⟨⟨⟨hy,Y⟩,h9⟩,hl⟩:=E;have e:(oQ ((j,false)::l))+1+rest.length=(l.length+1+rest.length)+1:=by simp;omega
  rw[e];have hn:ZJ all d l=true:=by simp only[ZJ,oT,oM]at hfr;exact hfr.2
  simp only[Z0,oT,oM]at T;have hq:Z0 all Dc l=true:=T.2;refine X3 (λh0=>(by rw[h0]at hy;cases hy)) ?_;intro k hk o H;have hh:=Zr H;have hz:(ls.setIfInBounds k true).size=all.length:=by simpa using he
  by_cases hi:k=i
  ·subst hi;have hx:=O.spec f w hk1 (S _ G);rw[hh]at hg hd hx;rw[X0 hg,cond_true];refine hx.Y λv w' hx=>?_;rw[hd]at hx ⊢;obtain⟨V,_,I,h4⟩:=hx;simp only[QN,Xb]at I h4;have J:=ha _ _ G V;refine⟨.inr (.inr J),?_⟩;have hx:=QeJ O hs ((j,false)::l) C own (ls.setIfInBounds k true) f w' S ha hz hfr (KA.I O.Y h V) J I (λb hb=>⟨λhm=>NI _ (LQ (hc b hm) (h4 b hb).1),(h4 b hb).2⟩) h9;rw[show((j,false)::l++rest).length=l.length+1+rest.length by simp;omega]at hx;exact hx
  have hA:k=j:=(Y k hk).resolve_right hi;subst hA;have V:=h.1;have J:=h.2 w (O5.Z _ _) G;rw[hh]at V J;rw[V,cond_true];refine J.Y λv w' hx=>?_;obtain⟨C',ht,hB,h5,own',hD,hE,hx⟩:=hx;refine⟨.inr (.inr (ht _ h5)),XA.sub ht _ _ _ _ (QbY O hs hg hd l C' _ own' _ w' (λx hx=>S x (ht x hx)) hB hz hn hq (by have:=KH (v:=v) T.1 hk1;rw[hh]at this;exact this) hx h5 (λb hb=>?_) hl)⟩;rcases hE b hb with I|I
  ·exact LQ (hc b I) hD.size
  exact I.2
theorem KA.keeps {D:xu}{f0:Fr}:∀(l:xt) (C:xz) (own:LN) (f:Fr) (w:O1),Z0 all D l=true->(∀t,Y4 D t=false->f t=f0 t)->KA P all KF l C own f w->KA P all (λC' o G w'=>(∀t,Y4 D t=false->G t=f0 t)/\KF C' o G w') l C own f w
 | [],C,own,f,w,_,E,h=>⟨E,h⟩
 | (j,true)::l,C,own,f,w,hd,E,h=>by
  simp only[Z0,oT,oM]at hd;obtain⟨H,v,I,hx⟩:=h;exact⟨H,v,I,KA.keeps l C own _ _ hd.2 (KH hd.1 E) hx⟩
 | (j,false)::l,C,own,f,w,hd,E,h=>by
  simp only[Z0,oT,oM]at hd;refine⟨h.1,λJ O S=>XO.Y (λv w' hx=>?_) (h.2 J O S)⟩;obtain⟨C',T,V,Y,own',ha,hb,hx⟩:=hx;exact⟨C',T,V,Y,own',ha,hb,KA.keeps l C' own' _ _ hd.2 (KH hd.1 E) hx⟩
theorem f3q {l:xt}{own:LN}{v:O2}(E:∀w',C w'->(execOp (ev f) (QS all j)).run P w'=.ok (.value v) w')(h:KA P all KF l C own (QN f (QS all j).dst v) w)
  (hd:zi (QS all j)=true:=by rfl) (G:Z9 all f (QS all j)=true:=by rfl):KA P all KF ((j,true)::l) C own f w:=⟨G,v,λw' H=>E w' (H hd),h⟩
theorem Ul {l:xt}{own:LN}{v:O2}(E:∀w',(execOp (ev f) (QS all j)).run P w'=.ok (.value v) w')(h:KA P all KF l C own (QN f (QS all j).dst v) w)
  (G:Z9 all f (QS all j)=true:=by rfl):KA P all KF ((j,true)::l) C own f w:=⟨G,v,λw' _=>E w',h⟩
theorem f3k {l:xt}{own:LN}(h:∀w1,sX w w1->C w1->XO P (QS all j) f w1 λE w'=>∃C':xz,(∀x,C' x->C x)/\(∀x x',C' x->sX x x'->C' x')/\C' w'/\∃own',O5 own w1 w'/\(∀b∈own',b∈own\/(↑w1<=b/\b<↑w'))/\KA P all KF l C' own' E w')
  (G:Z9 all f (QS all j)=true:=by rfl):KA P all KF ((j,false)::l) C own f w:=⟨G,h⟩
theorem f3e {own:LN}(h:KF C own f w):KA P all KF [] C own f w:=h
theorem Qa1 {Q:Exit->Fr->O1->Prop}(C:xz)(pre l:xt)(i d:Nat)(rest:xt)(own:LN)(D Dc:xu)(S:α->List (Nat×O2))(I:α->xz->LN->O1->Prop)(Φ:O2->O1->Prop)(hm:P.follows .mixedOrders=true)(hn:XM n all=true)
  (T:Qhh all pre l i rest=true) (J:(Z0 all D pre && Z0 all D l && Z0 all Dc l)=true) (hd:(QS all i).dst=some d) (V:C { w with drawn:=w.drawn+1 }) (ha:∀x x',C x->sX x x'->C x') (hc:∀b∈own,b<↑w)
  (stab:∀v (own:LN) w w',Φ v w->O5 own w w'->(∀b∈ow v,b∉own)->Φ v w') (mono:∀z C own w w',I z C own w->sX w w'->I z C own w')
  (fin:∀z g own w v (C':xz),I z C' own w->C' w->(∀x,C' x->C x)->Φ v w->(∀b∈ow v,b∉own/\b<↑w)->XP P all C' (λf w=>Q .normal f w) rest (QN (UP (S z) (mix D f g)) (some d) v) w)
  (h:XP P all C (λf1 _=>(∀g w,C w->XO P (QS all i) (mix Dc f1 g) w λE w'=>sX w w'/\C w'/\Φ (E d) w'/\∀b∈ow (E d),↑w<=b/\b<↑w')/\KA P all (λC' o E w'=>∃z,Y1 E (S z)/\I z C' o w') l C own f1 { w with drawn:=w.drawn+1 }) pre f { w with drawn:=w.drawn+1 }):W P n (.region id all.toArray true) Q f w:=by
 rw[Ly,Ly]at J;simp only[Qhh,oM,beq_iff_eq,Option.isNone_iff_eq_none]at T;obtain⟨⟨⟨⟨⟨G,hl⟩,hq⟩,he⟩,hg⟩,hfr⟩:=T;rw[hd]at hfr;refine J4 C hm hn ?_;have Y:=YQ (K:=λf w=>Q .normal f w) (m:=l.length+1+rest.length) G pre (oU all.length false) f _ V hq
  (B:=λf1 _=>Fl3 P all C (λf w=>Q .normal f w) (λC' o E w'=>(∀t,Y4 D t=false->E t=f t)/\∃z,Y1 E (S z)/\I z C' o w') i d rest Φ Dc f1/\KA P all (λC' o E w'=>(∀t,Y4 D t=false->E t=f t)/\∃z,Y1 E (S z)/\I z C' o w') l C own f1 { w with drawn:=w.drawn+1 })
  (λf1 hB=>QbY hB.1 G hg hd l C (Ya pre (oU all.length false)) own f1 _ (λ_ h=>h) ha (by rw[YU];simp) hfr J.2 (λ_ _=>rfl) hB.2 V hc he)
  (XP.keeps_mono _ _ _ (XP.keeps pre f _ J.1.1 (λ_ _=>U) h) (λf1 w1 hx=>⟨⟨stab,?_,?_,?_⟩,KA.keeps l C own _ _ J.1.2 hx.1 hx.2.2⟩))
 ·rw[hl]at Y;exact Y
 ·intro E w' H O;have:=hx.2.1 E w' O;rw[Jd H]at this;exact this
 ·rintro C' o E w' ⟨H,z,G,hi⟩ v O hf hv hb;have:=fin z E o w' v C' hi O hf hv hb;rw[Jd H,Xh G]at this;exact this
 rintro C' o E w' hj ⟨H,z,G,hi⟩ hh;exact⟨H,z,G,mono z C' o _ _ hi hh⟩
theorem f2k {l:xt}{own:LN}(h:∀E,sX w E->C E->XO P (QS all j) f E λH w'=>C w'/\∃own',O5 own E w'/\(∀b∈own',b∈own\/(↑E<=b/\b<↑w'))/\KA P all KF l C own' H w')
  (I:Z9 all f (QS all j)=true:=by rfl) (J:∀x x',C x->sX x x'->C x':=by exact λ_ _ G O=>G.D O):KA P all KF ((j,false)::l) C own f w :=
 ⟨I,λE G S=>XO.Y (λ_ _ hx=>⟨C,λ_ h=>h,J,hx⟩) (h E G S)⟩
theorem f2e {own:LN}{S:α->List (Nat×O2)}{I:α->LN->O1->Prop}(h:∃z,Y1 f (S z)/\I z own w):KA P all (λC' o E w'=>∃z,Y1 E (S z)/\(C'=C/\I z o w')) [] C own f w :=
 let⟨z,a,b⟩:=h
 ⟨z,a,U,b⟩
theorem Jh {Q:Exit->Fr->O1->Prop}(C:xz)(pre l:xt)(i d:Nat)(rest:xt)(own:LN)(D Dc:xu)(S:α->List (Nat×O2))(I:α->LN->O1->Prop)(Φ:O2->O1->Prop)(G:P.follows .mixedOrders=true)(H:XM n all=true)
  (J:Qhh all pre l i rest=true) (O:(Z0 all D pre && Z0 all D l && Z0 all Dc l)=true) (hd:(QS all i).dst=some d) (T:C { w with drawn:=w.drawn+1 }) (V:∀b∈own,b<↑w)
  (stab:∀v (own:LN) w w',Φ v w->O5 own w w'->(∀b∈ow v,b∉own)->Φ v w') (mono:∀z own w w',I z own w->sX w w'->I z own w')
  (fin:∀z g own w v,I z own w->C w->Φ v w->(∀b∈ow v,b∉own/\b<↑w)->XP P all C (λf w=>Q .normal f w) rest (QN (UP (S z) (mix D f g)) (some d) v) w)
  (h:XP P all C (λf1 _=>(∀g w,C w->XO P (QS all i) (mix Dc f1 g) w λE w'=>sX w w'/\C w'/\Φ (E d) w'/\∀b∈ow (E d),↑w<=b/\b<↑w')/\KA P all (λC' o E w'=>∃z,Y1 E (S z)/\(C'=C/\I z o w')) l C own f1 { w with drawn:=w.drawn+1 }) pre f { w with drawn:=w.drawn+1 })
  (Y:∀x x',C x->sX x x'->C x':=by exact λ_ _ h1 h2=>h1.D h2):W P n (.region id all.toArray true) Q f w :=
 Qa1 C pre l i d rest own D Dc S (λz C' o w=>C'=C/\I z o w) Φ G H J O hd T Y V stab (λz _ o w w' h hs=>⟨h.1,mono z o w w' h.2 hs⟩)
  (λz g o w v C' h ha _ hv hb=>by obtain⟨rfl,hi⟩:=h;exact fin z g o w v hi ha hv hb) h
end
attribute [irreducible] KA
abbrev Z8:LV:=[nS,nS,nS,nS,nS]
abbrev K5:LV:=[nS,sS 0,nS,nS]
theorem XI {a:Array UInt8}(h:a.size<=100):(⟨a⟩:ByteArray).size<=9223372036854775807:=by
 show a.size<=_;omega
def Ut (N M:Nat):LN:=(oV M).filter λb=>decide (N<=b)
theorem Zw :b∈Ut N M↔N<=b/\b<M:=by
 unfold Ut;rw[L6,Nw,decide_eq_true_iff];exact And.comm
open Go.RowKit
def jc (all:Array Oper)(i k:Nat)(rest:xt):xt->Array Bool->Bool
 | [],ls=>!(Region.ready .any all ls).isEmpty && (Region.ready .any all ls).all (λx=>x == i || x == k) && Uc all k rest [] (ls.setIfInBounds i true) && Uc all i rest [] (ls.setIfInBounds k true)
 | (j,true)::l,ls=>(Region.ready .any all ls).contains j && Region.free .any all ls j && jc all i k rest l (ls.setIfInBounds j true)
 | (j,false)::l,ls=>!(Region.ready .any all ls).isEmpty && (Region.ready .any all ls).all (λx=>x == j || (x == i || x == k)) && Uc all k rest ((j,false)::l) (ls.setIfInBounds i true) && Uc all i rest ((j,false)::l) (ls.setIfInBounds k true) && jc all i k rest l (ls.setIfInBounds j true)
def Qn5 (all:xD)(pre l:xt)(i k:Nat)(rest:xt):Bool :=
 Region.noSelect all.toArray && (pre.length+(l.length+2+rest.length) == all.length) && Kj all.toArray pre (oU all.length false) && jc all.toArray i k rest l (Ya pre (oU all.length false))
  && (QS all i).guard.isNone && (QS all k).guard.isNone && (match (QS all i).dst with|some d=>ZJ all d l|none=>false) && (match (QS all k).dst with|some d=>ZJ all d l|none=>false)
section
variable {all:xD}{C:xz}{KF:xz->LN->Fr->O1->Prop}
structure Fq (P:O4)(all:xD)(C:xz)(K:xx)(KF:xz->LN->Fr->O1->Prop)(i d k e:Nat)(rest:xt)(Φ Ψ:O2->O1->Prop)(Dc:xu)(f1:Fr):Prop where
 st1:∀v (own:LN) w w',Φ v w->O5 own w w'->(∀b∈ow v,b∉own)->Φ v w'
 st2:∀v (own:LN) w w',Ψ v w->O5 own w w'->(∀b∈ow v,b∉own)->Ψ v w'
 sp1:∀f w,(∀t,Y4 Dc t=false->f t=f1 t)->C w->XO P (QS all i) f w λf' w'=>sX w w'/\C w'/\Φ (f' d) w'/\∀b∈ow (f' d),↑w<=b/\b<↑w'
 sp2:∀f w,(∀t,Y4 Dc t=false->f t=f1 t)->C w->XO P (QS all k) f w λf' w'=>sX w w'/\C w'/\Ψ (f' e) w'/\∀b∈ow (f' e),↑w<=b/\b<↑w'
 fin:∀C' own f w,KF C' own f w->∀v u,C' w->(∀x,C' x->C x)->Φ v w->Ψ u w->(∀b∈ow v,b∉own/\b<↑w)->(∀b∈ow u,b∉own/\b<↑w)->(∀b∈ow v,b∉ow u)->XP P all C' K rest (QN (QN f (some d) v) (some e) u) w
 Y:∀C' own f w w',KF C' own f w->sX w w'->KF C' own f w'
 cl:∀x x',C x->sX x x'->C x'
theorem Fq.swap {d k e:Nat}{Ψ:O2->O1->Prop}(E:Fq P all C K KF i d k e rest Φ Ψ Dc f1)(G:d≠e):Fq P all C K KF k e i d rest Ψ Φ Dc f1 :=
 ⟨E.st2,E.st1,E.sp2,E.sp1,λC' own f w h v u H I J O S T hd=>by
  rw[JN f v u (λx hx=>by cases hx;exact λh=>G (Option.some.inj h))];exact E.fin C' own f w h u v H I O J T S (λb V Y=>hd b Y V),E.Y,E.cl⟩
def KF1 (KF:xz->LN->Fr->O1->Prop)(Φ:O2->O1->Prop)(d:Nat)(v:O2)(C:xz)(own:LN)(f:Fr)(w:O1):Prop :=
 ∃own0 f0,own=ow v++own0/\f=QN f0 (some d) v/\KF C own0 f0 w/\Φ v w/\∀b∈ow v,b∉own0/\b<↑w
attribute [local semireducible] KA in
theorem KA.put {d:Nat}{Φ:O2->O1->Prop}(stab:∀v (own:LN) w w',Φ v w->O5 own w w'->(∀b∈ow v,b∉own)->Φ v w')(S:Region.noSelect all.toArray=true){v:O2}:∀(l:xt) (C:xz) (own:LN) (f:Fr) (w:O1),ZJ all d l=true->KA P all KF l C own f w->Φ v w ->
  (∀b∈ow v,b∉own/\b<↑w)->KA P all (KF1 KF Φ d v) l C (ow v++own) (QN f (some d) v) w
 | [],_,own,f,w,_,h,I,E=>⟨own,f,U,U,h,I,E⟩
 | (j,q)::l,C,own,f,w,hfr,h,I,E=>by
  simp only[ZJ,oT,oM,Oe,List.contains_eq_mem,decide_eq_false_iff_not,beq_eq_false_iff_ne,ne_eq]at hfr;obtain⟨⟨Y,h2⟩,hfr⟩:=hfr;have ha:ZJ all d l=true:=by simpa[ZJ]using hfr
  have hf:=yK S j;have hd:∀e,some d=some e->e∉(QS all j).looksAt all.toArray:=λe T=>by cases T;exact Y
  cases q with
  | true =>
   obtain⟨hg,u,hu,hx⟩:=h;refine⟨by rw[Jq (QS all j) f (some d) v hd];exact hg,u,λw' hc=>?_,?_⟩
   ·rw[XK (all:=all) hf f (some d) v hd];exact hu w' hc
   rw[JN f v u (λe T=>by cases T;exact h2)];exact KA.put stab S l C own _ w ha hx I E
  | false =>
   refine⟨by rw[Jq (QS all j) f (some d) v hd];exact h.1,λJ O hi=>?_⟩;have hj:Φ v J:=stab v [] w J I O (λb _=>od);refine QbX (all:=all) hf Y h2 (λu w' hx=>?_) (h.2 J O hi);obtain⟨C',hk,hl,hn,own',V,hh,hx⟩:=hx;refine⟨C',hk,hl,hn,ow v++own',V.Y λb E=>Lc.2 (.inr E),λb G=>?_,KA.put stab S l C' own' _ w' ha hx (stab v own J w' hj V (λb G=>(E b G).1)) (λb G=>⟨λhm=>?_,LQ (LQ (E b G).2 O.size) V.size⟩)⟩
   ·rcases Lc.1 G with H|H
    ·exact .inl (Lc.2 (.inl H))
    exact(hh b H).imp (λh4=>Lc.2 (.inr h4)) id
   rcases hh b hm with H|H
   ·exact(E b G).1 H
   exact NI _ (LQ (LQ (E b G).2 O.size) H.1)
theorem Qgm {d k e:Nat}{Ψ:O2->O1->Prop}(G:Fq P all C K KF i d k e rest Φ Ψ Dc f1)(hs:Region.noSelect all.toArray=true)(hd:(QS all i).dst=some d)(hi:(QS all k).guard=none)(he:(QS all k).dst=some e)(hj:Y4 Dc d=true){l:xt}{ls:Array Bool}{own:LN}(hk:ls.size=all.length)(hl:ZJ all d l=true)(hn:ZJ all e l=true)(ho:Z0 all Dc l=true)(hk1:∀t,Y4 Dc t=false->f t=f1 t)
  {C0:xz} (h:KA P all KF l C0 own f w) (J:C0 w) (O:∀x,C0 x->C x) (hf:∀x x',C0 x->sX x x'->C0 x') (hg:∀b∈own,b<↑w) (hp:Uc all.toArray k rest l (ls.setIfInBounds i true)=true):
  XO P (QS all i) f w λf' w'=>(Vk all i=true\/w'=w\/C0 w')/\XA P all C0 K (l.length+1+rest.length) (ls.setIfInBounds i true) f' w':=by
 have hx:=G.sp1 f w hk1 (O _ J);refine hx.Y λv w' hx=>?_;rw[hd]at hx ⊢;obtain⟨S,_,h3,T⟩:=hx;simp only[QN,Xb]at h3 T;have hh:∀b∈ow v,b∉own/\b<w'.heap.size:=λb E=>⟨λI=>NI _ (LQ (hg b I) (T b E).1),(T b E).2⟩;have h2:=hf _ _ J S;have hq:Fl3 P all C K (KF1 KF Φ d v) k e rest Ψ Dc f1:=⟨G.st2,G.sp2,λC' own f w h u J O hu V=>by
   obtain⟨Y,f0,rfl,rfl,ha,hv,E⟩:=h;exact G.fin C' Y f0 w ha v u J O hv hu E (λb H=>⟨λI=>(V b H).1 (Lc.2 (.inr I)),(V b H).2⟩) (λb H I=>(V b I).1 (Lc.2 (.inl H))),λC' own f w w' h hc=>by
   obtain⟨Y,f0,rfl,rfl,ha,hv,E⟩:=h;exact⟨Y,f0,U,U,G.Y _ _ _ _ _ ha hc,G.st1 v [] w w' hv hc (λb _=>od),λb H=>⟨(E b H).1,LQ (E b H).2 hc.size⟩⟩⟩
 refine⟨.inr (.inr h2),QbY hq hs hi he l C0 _ (ow v++own) _ w' O hf (oA hk) hn ho (λt ht=>?_) (KA.put G.st1 hs l C0 own f w' hl (KA.I G.Y h S) h3 hh) h2 (λb E=>?_) hp⟩
 ·refine(Y2 (λe=>?_) v).D (hk1 t ht);cases e
  rw[hj]at ht;cases ht
 rcases Lc.1 E with E|E
 ·exact(hh b E).2
 exact LQ (hg b E) S.size
attribute [local semireducible] KA in
theorem Qk1 {i d k e:Nat}{rest:xt}{Φ Ψ:O2->O1->Prop}{Dc:xu}{f1:Fr}(hF:Fq P all C K KF i d k e rest Φ Ψ Dc f1)(hs:Region.noSelect all.toArray=true)(S:(QS all i).guard=none)(hd:(QS all i).dst=some d)(T:(QS all k).guard=none)(he:(QS all k).dst=some e)(hi:d≠e)(hl:Y4 Dc d=true)(hm:Y4 Dc e=true):
  ∀(l:xt) (C0:xz) (ls:Array Bool) (own:LN) (f:Fr) (w:O1),(∀x,C0 x->C x)->(∀x x',C0 x->sX x x'->C0 x')->ls.size=all.length->ZJ all d l=true->ZJ all e l=true->Z0 all Dc l=true->(∀t,Y4 Dc t=false->f t=f1 t) ->
  KA P all KF l C0 own f w->C0 w->(∀b∈own,b<↑w)->jc all.toArray i k rest l ls=true->XA P all C0 K (l.length+2+rest.length) ls f w
 | [],C0,ls,own,f,w,V,hc,Y,H,I,G,hk1,h,J,ha,hp=>by
  simp only[jc,oM,Ok,OG,beq_iff_eq,Oe]at hp;obtain⟨⟨⟨hh,hr⟩,hn⟩,hq⟩:=hp;rw[show([]:xt).length+2+rest.length=(([]:xt).length+1+rest.length)+1 by simp;omega];refine X3 (λh0=>(by rw[h0]at hh;cases hh)) ?_;intro x hx o O;have hg:=Zr O;rcases hr x hx with rfl|rfl
  ·have E:=Qgm hF hs hd T he hl Y H I G hk1 h J V hc ha hn;rw[hg]at E S;rw[X0 S,cond_true];exact E
  have E:=Qgm (hF.swap hi) hs he S hd hm Y I H G hk1 h J V hc ha hq;rw[hg]at E T;rw[X0 T,cond_true];exact E
 | (j,true)::l,C0,ls,own,f,w,V,hc,Y,H,I,G,hk1,h,J,ha,hp=>by
  simp only[jc,oM]at hp;obtain⟨⟨hr,hf⟩,ht⟩:=hp;have h4:j∈Region.ready .any all.toArray ls:=by simpa using hr
  have e':(oQ ((j,true)::l))+2+rest.length=(l.length+2+rest.length)+1:=by simp;omega
  rw[e'];have hu:ZJ all d l=true:=by simp only[ZJ,oT,oM]at H;exact H.2
  have hw:ZJ all e l=true:=by simp only[ZJ,oT,oM]at I;exact I.2
  simp only[Z0,oT,oM]at G;have hy:Z0 all Dc l=true:=G.2;cases O:all[j]? with
  | none =>
   exfalso;obtain⟨_,o,h7,_⟩:=mem_ready.1 h4;simp[O]at h7
  | some o =>
   obtain⟨h5,v,hv,hx⟩:=h;rw[Zr O]at h5 hv hx;have h8:∀(j:Nat) (o:Oper) cs b,all[j]?=some o->o.op≠.select cs b:=λj o cs b hj=>Region.noSelect_spec hs j o cs b (oA hj);have h9:=λk ok hk=>Region.free_spec (ops:=all.toArray) (md:=.any) (i:=j) (oi:=o) (listed:=ls) (oA O) hf k ok (oA hk);exact Xs (v:=v) (D:=λw=>zi o=true->C0 w) O (λ_ h=>h) h8 _ ls f w (λ_=>J) h9 h4 (.inl ⟨h5,hv⟩) (Qk1 hF hs S hd T he hi hl hm l C0 _ own _ w V hc (oA Y) hu hw hy (by have:=KH (v:=v) G.1 hk1;rw[Zr O]at this;exact this) hx J ha ht)
 | (j,false)::l,C0,ls,own,f,w,V,hc,Y,H,I,G,hk1,h,J,ha,hp=>by
  simp only[jc,oM,Ok,OG,beq_iff_eq,Oe]at hp;obtain⟨⟨⟨⟨hh,hr⟩,hn⟩,hq⟩,ht⟩:=hp;have e':(oQ ((j,false)::l))+2+rest.length=((oQ ((j,false)::l))+1+rest.length)+1:=oa
  have e2:(oQ ((j,false)::l))+1+rest.length=l.length+2+rest.length:=rfl;rw[e'];refine X3 (λh0=>(by rw[h0]at hh;cases hh)) ?_;intro x hx o O;have hg:=Zr O;rcases hr x hx with rfl|rfl|rfl
  ·rw[e2];have hu:ZJ all d l=true:=by simp only[ZJ,oT,oM]at H;exact H.2
   have hw:ZJ all e l=true:=by simp only[ZJ,oT,oM]at I;exact I.2
   simp only[Z0,oT,oM]at G;have hy:Z0 all Dc l=true:=G.2;have E:=h.1;have h2:=h.2 w (O5.Z _ _) J;rw[hg]at E h2;rw[E,cond_true];refine h2.Y λv w' hx=>?_;obtain⟨C',hz,hA,h6,own',hB,hD,hx⟩:=hx;refine⟨.inr (.inr (hz _ h6)),XA.sub hz _ _ _ _ (Qk1 hF hs S hd T he hi hl hm l C' _ own' _ w' (λx hx=>V x (hz x hx)) hA (oA Y) hu hw hy (by have:=KH (v:=v) G.1 hk1;rw[hg]at this;exact this) hx h6 (λb hb=>?_) ht)⟩;rcases hD b hb with h3|h3
   ·exact LQ (ha b h3) hB.size
   exact h3.2
  ·have E:=Qgm hF hs hd T he hl Y H I G hk1 h J V hc ha hn;rw[hg]at E S;rw[X0 S,cond_true];exact E
  have E:=Qgm (hF.swap hi) hs he S hd hm Y I H G hk1 h J V hc ha hq;rw[hg]at E T;rw[X0 T,cond_true];exact E
theorem Qk4 {Q:Exit->Fr->O1->Prop}(C:xz)(pre l:xt)(i d k e:Nat)(rest:xt)(own:LN)(D Dc:xu)(S:α->List (Nat×O2))(I:α->LN->O1->Prop)(Φ Ψ:O2->O1->Prop)(hm:P.follows .mixedOrders=true)(hn:XM n all=true)
  (T:Qn5 all pre l i k rest=true) (V:(Z0 all D pre && Z0 all D l && Z0 all Dc l && Y4 Dc d && Y4 Dc e && (d != e))=true) (hd:(QS all i).dst=some d) (Y:(QS all k).dst=some e) (hC:C { w with drawn:=w.drawn+1 }) (hg:∀b∈own,b<↑w)
  (st1:∀v (own:LN) w w',Φ v w->O5 own w w'->(∀b∈ow v,b∉own)->Φ v w') (st2:∀v (own:LN) w w',Ψ v w->O5 own w w'->(∀b∈ow v,b∉own)->Ψ v w') (mono:∀z own w w',I z own w->sX w w'->I z own w')
  (fin:∀z g own w v u,I z own w->C w->Φ v w->Ψ u w->(∀b∈ow v,b∉own/\b<↑w)->(∀b∈ow u,b∉own/\b<↑w)->(∀b∈ow v,b∉ow u)->XP P all C (λf w=>Q .normal f w) rest (QN (QN (UP (S z) (mix D f g)) (some d) v) (some e) u) w)
  (h:XP P all C (λf1 _=>(∀g w,C w->XO P (QS all i) (mix Dc f1 g) w λE w'=>sX w w'/\C w'/\Φ (E d) w'/\∀b∈ow (E d),↑w<=b/\b<↑w')/\(∀g w,C w->XO P (QS all k) (mix Dc f1 g) w λE w'=>sX w w'/\C w'/\Ψ (E e) w'/\∀b∈ow (E e),↑w<=b/\b<↑w')/\KA P all (λC' o E w'=>∃z,Y1 E (S z)/\(C'=C/\I z o w')) l C own f1 { w with drawn:=w.drawn+1 }) pre f { w with drawn:=w.drawn+1 })
  (ha:∀x x',C x->sX x x'->C x':=by exact λ_ _ O h2=>O.D h2):W P n (.region id all.toArray true) Q f w:=by
 simp only[oM,bne_iff_ne,ne_eq]at V;obtain⟨⟨⟨⟨⟨hh,hj⟩,ho⟩,hr⟩,ht⟩,hw⟩:=V;simp only[Qn5,oM,beq_iff_eq,Option.isNone_iff_eq_none]at T;obtain⟨⟨⟨⟨⟨⟨⟨H,hl⟩,hq⟩,hy⟩,hz⟩,h0⟩,hc⟩,hf⟩:=T;rw[hd]at hc;rw[Y]at hf;refine J4 C hm hn ?_;have O:=YQ (K:=λf w=>Q .normal f w) (m:=l.length+2+rest.length) H pre (oU all.length false) f _ hC hq
  (B:=λf1 _=>Fq P all C (λf w=>Q .normal f w) (λC' o E w'=>(∀t,Y4 D t=false->E t=f t)/\∃z,Y1 E (S z)/\(C'=C/\I z o w')) i d k e rest Φ Ψ Dc f1/\KA P all (λC' o E w'=>(∀t,Y4 D t=false->E t=f t)/\∃z,Y1 E (S z)/\(C'=C/\I z o w')) l C own f1 { w with drawn:=w.drawn+1 })
  (λf1 hB=>Qk1 hB.1 H hz hd h0 Y hw hr ht l C (Ya pre (oU all.length false)) own f1 _ (λ_ h=>h) ha (by rw[YU];simp) hc hf ho (λ_ _=>rfl) hB.2 hC hg hy)
  (XP.keeps_mono _ _ _ (XP.keeps pre f _ hh (λ_ _=>U) h) (λf1 w1 hx=>⟨⟨st1,st2,?_,?_,?_,?_,ha⟩,KA.keeps l C own _ _ hj hx.1 hx.2.2.2⟩))
 ·rw[hl]at O;exact O
 ·intro E w' G J;have:=hx.2.1 E w' J;rw[Jd G]at this;exact this
 ·intro E w' G J;have:=hx.2.2.1 E w' J;rw[Jd G]at this;exact this
 ·rintro C' o E w' ⟨G,z,H,rfl,hi⟩ v u J _ hv hu hb h3 h4;have:=fin z E o w' v u hi J hv hu hb h3 h4;rw[Jd G,Xh H]at this;exact this
 rintro C' o E w' h6 ⟨G,z,H,e,hi⟩ h5;exact⟨G,z,H,e,mono z o _ _ hi h5⟩
end
section
def eqV:O2->O2->Bool
 | .int _ a,.int _ b=>a == b
 | .string a,.string b=>a == b
 | .bool a,.bool b=>a == b
 | _,_=>false
def tvB:LN->LV->LV->Bool
 | [],[],[]=>true
 | 0::ks,oG oH _::xs,oG oH _::ys=>tvB ks xs ys
 | 1::ks,.string _::xs,.string _::ys=>tvB ks xs ys
 | 2::ks,.bool _::xs,.bool _::ys=>tvB ks xs ys
 | _,_,_=>false
def K9:LV->LV->Bool
 | x::xs,y::ys=>eqV x y && K9 xs ys
 | _,_=>true
inductive Fks (P:O4):Nat->List Field->LN->Prop
 | nil {o:Nat}:Fks P o [] []
 | int {o:Nat} {f:Field} {fs:List Field} {ks:LN} (hn:f.name ≠ "_") (ho:f.offset=o) (hu:P.underlying f.type=some (.int .i64)) (h:Fks P (o+1) fs ks):Fks P o (f::fs) (0::ks)
 | str {o:Nat} {f:Field} {fs:List Field} {ks:LN} (hn:f.name ≠ "_") (ho:f.offset=o) (hu:P.underlying f.type=some .string) (h:Fks P (o+1) fs ks):Fks P o (f::fs) (1::ks)
 | flag {o:Nat} {f:Field} {fs:List Field} {ks:LN} (hn:f.name ≠ "_") (ho:f.offset=o) (hu:P.underlying f.type=some .bool) (h:Fks P (o+1) fs ks):Fks P o (f::fs) (2::ks)
theorem zX {k:Nat}{v:O2}{l:LV}(h:∀w,(isAgg t).run P w=.ok false w)(E:l[k]?=some v)(w:O1):(part t l.toArray k).run P w=.ok v w:=by
 have e:l.toArray[k]?=some v:=by simpa using E
 simp[part,h w,e]
theorem ji {d o:Nat}{f:Field}{fs:List Field}{x y:O2}{xs ys X Y:LV}(I:f.name ≠ "_") (J:f.offset=o) (E:∀w,(isAgg f.type).run P w=.ok false w) (O:∀m w,(Op.equalIn (m+1) f.type x y).run P w=.ok (eqV x y) w)
  (G:X.drop o=x::xs) (H:Y.drop o=y::ys) (ih:X.drop (o+1)=xs->Y.drop (o+1)=ys->∀w,(Op.eqFields (d+1) X.toArray Y.toArray fs).run P w=.ok (K9 xs ys) w) (w:O1):
  (Op.eqFields (d+1) X.toArray Y.toArray (f::fs)).run P w=.ok (K9 (x::xs) (y::ys)) w:=by
 have hx:X[o]?=some x:=by rw[<-List.head?_drop,G];rfl
 have S:Y[o]?=some y:=by rw[<-List.head?_drop,H];rfl
 have T:X.drop (o+1)=xs:=by rw[<-List.tail_drop,G];rfl
 have V:Y.drop (o+1)=ys:=by rw[<-List.tail_drop,H];rfl
 simp only[Op.eqFields,I,ne_eq,not_false_eq_true,if_true,Sem.run_bind,J,zX E hx,zX E S,O,Result.andThen_ok,Sem.run_ite,K9];cases hv:eqV x y with
 | false=>simp
 | true=>simpa using ih T V w
theorem Fks.run {d:Nat}{o:Nat}{fs:List Field}{ks:LN}(h:Fks P o fs ks):∀{xs ys X Y:LV},tvB ks xs ys=true->X.drop o=xs->Y.drop o=ys->∀w,(Op.eqFields (d+1) X.toArray Y.toArray fs).run P w=.ok (K9 xs ys) w:=by
 induction h with
 | nil =>
  intro xs ys X Y E _ _ w;cases xs with
  | nil=>simp[Op.eqFields,K9]
  | cons x xs=>cases ys <;> simp[tvB]at E
 | @int o f fs ks H I G h ih =>
  intro xs ys X Y E J O w
  match xs,ys,E with
  | oG oH a::xs,oG oH b::ys,E=>exact ji H I (λw=>by simp[isAgg,run_underlying G]) (λm w=>by simp[Op.equalIn,run_underlying G,eqV]) J O (λS T=>ih E S T) w
 | @str o f fs ks H I G h ih =>
  intro xs ys X Y E J O w
  match xs,ys,E with
  | .string a::xs,.string b::ys,E=>exact ji H I (λw=>by simp[isAgg,run_underlying G]) (λm w=>by simp[Op.equalIn,run_underlying G,eqV]) J O (λS T=>ih E S T) w
 | @flag o f fs ks H I G h ih =>
  intro xs ys X Y E J O w
  match xs,ys,E with
  | .bool a::xs,.bool b::ys,E=>exact ji H I (λw=>by simp[isAgg,run_underlying G]) (λm w=>by simp[Op.equalIn,run_underlying G,eqV]) J O (λS T=>ih E S T) w
class Sk (P:O4)(t:Nat)(ks:outParam (LN)):Prop where
 u:∃fs:List Field,P.underlying t=some (.struct fs.toArray)/\Fks P 0 fs ks
 s:P.stoodInHeld t=false
 g:P.eqGuardType P.depth t=false
theorem KZ {ks:LN}[h:Sk P t ks]{xs ys:LV}(I:tvB ks xs ys=true)(w:O1):(Op.equal t (sT xs) (sT ys)).run P w=.ok (K9 xs ys) w:=by
 obtain⟨fs,E,J⟩:=h.u;have G:P.fieldsOf t=fs.toArray:=by unfold Program.fieldsOf;rw[E]
 have O:P.underlying t=some (.struct (P.fieldsOf t)):=by rw[G];exact E
 have H:=run_equalIn_struct (P:=P) w 9999 t xs.toArray ys.toArray O h.s;rw[G]at H;exact H.D (J.run (d:=9998) I U U w)
variable {pS:String}
theorem Qcy {ks:LN}[h:Sk P t ks]{x:O3}{xs ys:LV}(G:tvB ks xs ys=true)(hx:ev f x=sT xs)(H:ev f y=sT ys):
  (execOp (ev f) ⟨d,.binOp .eql t x y E,ty,pS,af,gd⟩).run P w=.ok (.value (.bool (K9 xs ys))) w:=by
 have I:(eqGuard .eql t x y (sT xs) (sT ys)).run P w=.ok () w:=by simp[eqGuard,h.g]
 simp only[execOp,hx,H,Sem.run_bind,I,Result.andThen_ok,binOp,KZ G,Sem.run_pure]
theorem Vx {ks:LN}[h:Sk P t ks]{x:O3}{xs ys:LV}(G:tvB ks xs ys=true)(hx:ev f x=sT xs)(H:ev f y=sT ys):
  (execOp (ev f) ⟨d,.binOp .neq t x y E,ty,pS,af,gd⟩).run P w=.ok (.value (.bool (!K9 xs ys))) w:=by
 have I:(eqGuard .neq t x y (sT xs) (sT ys)).run P w=.ok () w:=by simp[eqGuard,h.g]
 simp only[execOp,hx,H,Sem.run_bind,I,Result.andThen_ok,binOp,KZ G,Sem.run_pure]
end
abbrev kKy (k:Int×ByteArray):O2:=.agg #[sS k.1,.string k.2]
theorem Qmx (k k':Int×ByteArray):K9 [sS k.1,.string k.2] [sS k'.1,.string k'.2]=decide (k=k'):=by
 obtain⟨a,b⟩:=k;obtain⟨c,e⟩:=k';have E:(b == e)=decide (b=e):=by
  cases E:(b == e)with
  | true=>exact(OX ((MapKept.bytes_beq b e).1 E)).symm
  | false=>exact(OZ λh=>by rw[(MapKept.bytes_beq b e).2 h]at E;cases E).symm
 simp only[K9,eqV,E,Bool.and_true,Prod.mk.injEq];by_cases G:a=c
 ·subst G;simp
 simp[G]
theorem QoW {f0 f1:Field}[h:Sk P kt [0,1]](G:P.underlying kt=some (.struct #[f0,f1]))(T:f0.name ≠ "_") (n1:f1.name ≠ "_") (V:f0.offset=0) (o1:f1.offset=1) (H:P.underlying f0.type=some (.int .i64)) (I:P.underlying f1.type=some .string):Key P kt kKy:=by
 have Y:∀w,(isAgg f0.type).run P w=.ok false w:=λw=>by simp[isAgg,run_underlying H]
 have ha:∀w,(isAgg f1.type).run P w=.ok false w:=λw=>by simp[isAgg,run_underlying I]
 refine⟨λw em k=>?_,λw k ks es J=>?_,λk=>?_⟩
 ·obtain⟨a,b⟩:=k;have p0:∀w,(part f0.type #[sS a,.string b] 0).run P w=.ok (sS a) w:=λw=>zX (l:=[sS a,.string b]) (k:=0) Y U w;have p1:∀w,(part f1.type #[sS a,.string b] 1).run P w=.ok (.string b) w:=λw=>zX (l:=[sS a,.string b]) (k:=1) ha U w;have c0:∀(m:Nat) (w:O1),(Instr.checkKey em (m+1) f0.type (sS a)).run P w=.ok () w:=λm w=>by simp[Instr.checkKey,run_underlying H]
  have c1:∀(m:Nat) (w:O1),(Instr.checkKey em (m+1) f1.type (.string b)).run P w=.ok () w:=λm w=>by simp[Instr.checkKey,run_underlying I]
  simp only[kKy];unfold Instr.checkKey;simp only[Sem.run_bind,run_underlying G,Result.andThen_ok];simp[T,n1,V,o1,p0,p1,c0,c1]
 ·have ask:∀(ks:List (Int×ByteArray)) (es:List MapEntry) (i:Nat),es.map (·.key)=ks.map kKy->(Instr.findAsking kt (kKy k) es i).run P w=.ok (fnd k ks es i) w:=by
   intro ks;induction ks with
   | nil=>intro es i h;simp at h;subst h;simp[Instr.findAsking,fnd]
   | cons q ks ih =>
    intro es i E;cases es with
    | nil=>simp at E
    | cons e es =>
     simp only[oY,List.cons.injEq]at E;have O:=KZ (P:=P) (t:=kt) (xs:=[sS k.1,.string k.2]) (ys:=[sS q.1,.string q.2]) U w;rw[Qmx]at O;have hb:(Op.equal kt (kKy k) (kKy q)).run P w=.ok (decide (k=q)) w:=O;simp only[Instr.findAsking,E.1,Sem.run_bind,hb,Result.andThen_ok,fnd];by_cases S:k=q
     ·subst S;simp
     simp[S,(ih es (i+1) E.2)]
  cases es with
  | nil =>
   have:ks=[]:=by simpa using J.symm
   subst this;simp[Instr.findKey,run_underlying G,Instr.findNow,fnd]
  | cons e es =>
   have hn:Instr.findNow (.struct #[f0,f1]) (kKy k) (e::es) 0=none:=by simp[Instr.findNow,Instr.sameNow]
   simp only[Instr.findKey,Sem.run_bind,run_underlying G,Result.andThen_ok,hn];exact ask ks (e::es) 0 J
 simp[Instr.sameBits,(MapKept.bytes_beq k.2 k.2).2 rfl]
section
variable {pS:String}
theorem zu {e bys:Nat}[h:Sl P t e sz bys z]{base:Nat}{v:O2}(E:w.ownsRow base e sz v n cs):
  (Builtin.append_ #[t,t] ty #[v,nS]).run P w=.ok v w:=by
 obtain⟨i,hi,_,H,_⟩:=Sl.info h;rcases E.2 with⟨rfl,rfl⟩|⟨g,cap,cur,rfl,I,J,G,O,S,T⟩
 ·simp[Builtin.append_,run_underlying h.u,sizeOf,typeInfo,hi,Builtin.lenOf,Builtin.firstCells]
 simp[Builtin.append_,run_underlying h.u,sizeOf,typeInfo,hi,Builtin.lenOf,Builtin.firstCells,G,storeCells]
theorem Qbt {e bys:Nat}[h:Sl P t e sz bys z]{s:O3}{base:Nat}{v:O2}(E:w.ownsRow base e sz v n cs)(I:ev f s=v)
  {v2:O2} {m:Nat}   (G:Zn L ↑w v2 m sz news) (J:ev f y=v2) (O:∀u∈news,u.oneCell'=true)
  (H:n+m<=1099511627776) (S:base<=↑w)
  (hK:∀v' w',w'.ownsRow base e sz v' (n+m) (cs++news)->O5 (ob v) w w'->(∀b∈ob v',b∈ob v\/↑w<=b)->K (QN f d v') w') (T:bys<=128:=by decide):
  XO P ⟨d,.call ⟨.builtin .append,#[s,y],#[t,t]⟩,ty,pS,af,gd⟩ f w K:=by
 rcases G.2.2 with⟨e1,e2⟩|⟨a,c,e1,_,e3⟩
 ·subst e2;have V:news=[]:=Ls (by have:=G.1;simpa using this);subst V;have Y:(execOp (ev f) ⟨d,.call ⟨.builtin .append,#[s,y],#[t,t]⟩,ty,pS,af,gd⟩).run P w=.ok (.value v) w:=by
   simp[execOp,resolve,invoke,builtin,I,J,e1,zu (ty:=ty) E]
  exact xv Y (hK v w (oA E) (O5.Z _ _) (λb H=>.inl H))
 exact Q2 E I (J.D e1) G.1 e3 O H S hK T
end
theorem QfH {v:O2}(h:QL L ↑w v l)(x:Int):
  QY sV 211 [v,sS x] w λr w'=>r=.bool (decide (x∈l))/\w'=w:=by
 have S:=h.le;refine Zq func211 ?_;refine Qc<|Lg.Qb<|Qd<|Qc<|Lg.Qb<|Q7 (α:=Nat) [(4,17)] (λk=>[(5,sS k)]) (λk w'=>w'=w/\k<=l.length/\(x∈l↔x∈l.drop k)) (λk=>l.length - k) 0 La ⟨U,Lo _,od⟩ ?_;rintro k g w' ⟨rfl,T,G⟩;refine Qd<|Qc<|Lg.Qa<|Lg.Qa<|Lg.x (Yo h U)<|Lg.Z5 U U<|xe<|ZH rfl (λJ=>?_) (λJ=>?_)
 ·refine Qw<|Qc<|Lg.Qb<|Qh ⟨[.bool false],La,?_,U⟩;rw[Lt oa]at G;simp[tup,G]
 have I:k<l.length:=oa
 have hd:=Zc I;refine Qf<|Qd<|Qm<|Qc<|Lg.Qa<|Lg.Qa<|xii h U U I λV O=>Lg.x (Qy O U)<|Lg.Qa<|Lg.x (QR U U)<|xe<|QO rfl (λH=>?_) (λH=>?_)
 ·refine Qc<|Lg.Qb<|Qh ⟨[.bool true],La,?_,U⟩;have:x∈l:=by rw[G,hd,H];exact Lq
  simp[tup,this]
 refine Qf<|Qs<|Lg.Qa<|Lg.QH U U<|Lg.Qb<|⟨k+1,oa,La,U,oa,?_⟩;rw[G,hd,Lj];exact⟨λh=>h.resolve_left (λe=>H e.symm),.inr⟩
theorem Qcf (h:zP L ↑w ve a.ed)(s e:Int)(st:Int):
  QY sV 212 [.agg #[va,sS st,vm,ve],sS s,sS e] w λr w'=>r=sS (xh a.ed s e)/\sX w w':=by
 have he:=h.le;refine Zq func212 ?_;refine Qc<|Zl [va,sS st,vm,ve] λb3 T J hf G=>Lg.Qb ?_
 replace h:=h.I J;refine Qd<|Qc<|Lg.Qb<|Q7 (α:=Nat) [(6,38)] (λk=>[(7,sS k)]) (λk w'=>w'=T/\k<=a.ed.length/\xh (a.ed.drop k) s e=xh a.ed s e) (λk=>a.ed.length - k) 0 La ⟨U,Lo _,U⟩ ?_;rintro k g V ⟨rfl,hk,H⟩;refine Qd<|Qc<|Lg.Qa<|Lg.QQ U<|Lg.x (Qk G U U)<|Lg.x (Yo h U)<|Lg.Z5 U U<|xe<|ZH rfl (λY=>?_) (λY=>?_)
 ·refine Qw<|Qc<|Lg.Qb<|Qh ⟨[sS (-1)],La,?_,J⟩;rw[Lt oa]at H;rw[<-H];rfl
 have I:k<a.ed.length:=oa
 have hd:=Zc I;refine Qf<|Qd<|Qm<|QX (α:=Bool) [(15,32)] (λz=>[(32,.bool z)]) (λz w'=>w'=V/\z=decide (a.ed[k].1=s/\a.ed[k].2.1=e)) om ?_ ?_
 ·refine Qs<|Lg.QQ U<|Lg.x (Qk G U U)<|Lg.Qa<|xie h U U I λhg ha=>Lg.x (Zd U)<|Lg.x (Qy (ha.fld 0 _ U) U) <|
   Lg.Qa<|xb (QR U U) (λO=>?_) (λO=>?_)
  ·refine Lg.Qa<|Lg.QQ U<|Lg.x (Qk G U U)<|Lg.Qa<|xie h U U I λhh hb=>Lg.x (Zd U)<|Lg.x (Qy (hb.fld 1 _ U) U) <|
    Lg.Qa<|Lg.x (QR U U)<|Lg.QC U<|xe ?_
   exact⟨_,La,U,by simp[O]⟩
  refine Lg.Qa<|Zt<|Zt<|Ys<|Lg.QC U<|xe ?_;exact⟨_,La,U,by simp[O]⟩
 rintro z g w3 ⟨rfl,rfl⟩;refine QO rfl (λS=>?_) (λS=>?_)
 ·refine Qc<|Lg.QQ U<|Lg.x (Qk G U U)<|Lg.Qa<|xie h U U I λhi hc=>Lg.x (Zd U)<|Lg.x (Qy (hc.fld 2 _ U) U) <|
   Lg.Qb<|Qh ⟨[sS a.ed[k].2.2],La,?_,J⟩
  rw[<-H,hd,xh,OU S];rfl
 refine Qf<|Qs<|Lg.Qa<|Lg.QH U U<|Lg.Qb<|⟨k+1,oa,La,U,oa,?_⟩;rw[<-H,hd,xh,OT S]
def yW (l:LI)(n:Int):Int:=if n∈l then(l.idxOf n:Int)else -1
theorem QjG {n:Int}{k:Nat}(h:n∉l.take k)(G:k<l.length)(H:O6 l k=n):yW l n=k:=by
 have I:n∈l:=by rw[<-H,<-ZL G];exact Lm G
 unfold yW;rw[OU I];have J:l=l.take k++l.drop k:=(MG k l).symm;have:l.idxOf n=k:=by
  rw[J,MC,OT h,LF G,List.idxOf_cons,show l[k]=n by rw[ZL G];exact H];simp;omega
 rw[this]
theorem Qhd {v:O2}(h:QL L ↑w v l)(n:Int):
  QY sV 213 [v,sS n] w λr w'=>r=sS (yW l n)/\w'=w:=by
 have S:=h.le;refine Zq func213 ?_;refine Qc<|Qb<|Qd<|Qc<|Qb<|Q7 (α:=Nat) [(4,18)] (λz=>[(5,sS z)]) (λz w'=>w'=w/\z<=l.length/\n∉l.take z) (λz=>l.length - z) 0 La ⟨U,Lo _,od⟩ ?_;rintro k g T ⟨rfl,V,H⟩;refine Qd<|Qj<|Qa<|QF h U<|Z5 U U<|xe<|ZH rfl (λJ=>?_) (λJ=>?_)
 ·refine Qw<|Qc<|Qb ?_;rw[Lu oa]at H;exact Qh ⟨[sS (-1)],La,by unfold yW;rw[OT H];rfl,U⟩
 have G:k<l.length:=oa
 refine Qf<|Qd<|Qm<|Qj<|Qa<|xic (i:=k) h U U G λY O=>x (Qy O U)<|Qa<|x (QR U U)<|xe<|QO rfl (λI=>?_) (λI=>?_)
 ·refine Qj<|Qb<|Qh ⟨[sS k],La,by rw[QjG H G I];rfl,U⟩
 refine Qf<|Qs<|Qa<|QH U U<|Qb<|⟨k+1,oa,La,U,G,?_⟩;rw[Ln G,ZL G];simp only[oW,oJ,not_or];exact⟨H,λe=>I e.symm⟩
theorem qS {v:O2}(h:QL L ↑w v l)(hl:l.length<=1000000):
  QY sV 124 [v] w λr w'=>sX w w'/\∃va,r=.agg #[va,sS 0,nS,nS]/\Qq 3 ↑w w' va l:=by
 refine Zq func124 ?_;refine Qc<|QM [nS,sS 0,nS,nS] λb2 G T he V=>xe ?_;have hf:=T.size;have hg:=V.lt;refine Qc<|Qn<|XZ λb3 w2 H hh hi=>Qa<|?_;have Y:=T.D H;have hp:=H.size;have I:w2.ownsRow ↑G 3 1 (sL b3 0 0) 0 []:=hi.own (n:=0) (sz:=1) U oa hh;refine Qn<|Qbt I U (h.I Y) U (UX l) oa oa λva J hj ha hq=>?_;have O:Qq 3 ↑G J va l:=by
  have:J.ownsRow ↑G 3 1 va (0+l.length) ([]++l.map (.int .i64)):=hj;rw[LT,Mc]at this;exact this
 have hA:=Qq.ints (L:=[]) O oa od;have hk:=(V.I H).J ha (QP I hg);have hm:sX w J:=Y.S ha (λb S=>.inr (ov (Qg I b S).1));refine x (Qx ⟨hA.cells,Z⟩)<|QK [va,sS 0,nS,nS] hk ⟨hA.one,U,U,U,Z⟩ λw4 hc hn=>xe ?_;have ho:=Qe O hc (λb S=>by have:=(Qg O b S).1;simp;omega);exact Qh ⟨[.agg #[va,sS 0,nS,nS]],⟨Yl hn,Z⟩,hm.O hc he,va,U,ZB ho hf⟩
theorem xG:∀(n:Nat) (l:LI),l.Nodup->(∀x∈l,0<=x/\x<n)->l.length<=n
 | 0,l,_,h=>by
  cases l with
  | nil=>simp
  | cons a l=>have:=h a Lq;omega
 | n+1,l,hd,h=>by
  by_cases G:(n:Int)∈l
  ·have I:=xG n (l.erase (n:Int)) (hd.erase _) (λx hx=>by
    have H:=(List.Nodup.mem_erase_iff hd).1 hx;have J:=h x H.2;have O:x≠(n:Int):=H.1;omega)
   rw[List.length_erase_of_mem G]at I;omega
  have:=xG n l hd (λx hx=>by
   have J:=h x hx;have O:x≠(n:Int):=λe=>G (by rw[<-e];exact hx);omega)
  omega
def UM (a:Q6)(s:Int)(out:LI)(v:Int):LI:=if 0<=xh a.ed s v/\xh a.ed s v∉out then out++[xh a.ed s v]else out
def fdR (a:Q6)(out:LI)(s:Int):LI:=a.al.foldl (UM a s) out
def fdL (a:Q6):Nat->Nat->LI->LI
 | 0,_,out=>out
 | f+1,i,out=>if i<out.length then fdL a f (i+1) (fdR a out (O6 out i))else out
def fd0 (a:Q6):LI:=if 0<a.st then[0]else[]
def xp (a:Q6):LI:=fdL a a.st.toNat 0 (fd0 a)
structure zM (a:Q6)(out:LI):Prop where
 b:∀x∈out,0<=x/\x<a.st
 d:out.Nodup
theorem zM.len (h:zM a out)(G:0<=a.st):out.length<=a.st.toNat:=xG _ _ h.d (λx hx=>ov (h.b x hx))
theorem Qbu {s v:Int}(h:0<=xh es s v):(s,v,xh es s v)∈es:=by
 induction es with
 | nil=>simp[xh]at h
 | cons e es ih =>
  rw[xh]at h ⊢;split at h
  ·rename_i G;rw[OU G];obtain⟨p,q,r⟩:=e;obtain⟨H,I⟩:=G;subst H I;exact Lq
  rename_i G;rw[OT G];exact Lk _ (ih h)
theorem Qj0 (I:ZK a)(h:zM a out)(s v:Int):zM a (UM a s out v):=by
 unfold UM;split
 ·rename_i G;have J:=I.ed _ (Qbu G.1);refine⟨λx hx=>?_,?_⟩
  ·rcases Lc.1 hx with hx|hx
   ·exact h.b x hx
   simp only[oJ]at hx;subst hx;exact⟨G.1,J.2.2.2.2⟩
  rw[ME];refine⟨h.d,od,λx hx y H=>?_⟩;simp only[oJ]at H;subst H;exact λe=>G.2 (by rw[<-e];exact hx)
 exact h
theorem QmW {s v:Int}:∀x∈out,x∈UM a s out v:=λx hx=>by unfold UM;split;exact Mf _ hx;exact hx
theorem Qpj {s v:Int}(h:0<=xh a.ed s v):xh a.ed s v∈UM a s out v:=by
 unfold UM;by_cases G:xh a.ed s v∈out
 ·rw[OT (λe=>e.2 G)];exact G
 rw[OU ⟨h,G⟩];simp
theorem QjY {a:Q6}(G:ZK a)(s:Int):∀(vs:LI) (out:LI),zM a out->zM a (vs.foldl (UM a s) out)
 | [],_,h=>h
 | v::vs,_,h=>QjY G s vs _ (Qj0 G h s v)
theorem QbO {a:Q6}{s:Int}:∀(vs:LI) (out:LI),∀x∈out,x∈vs.foldl (UM a s) out
 | [],_,_,hx=>hx
 | _::vs,_,x,hx=>QbO vs _ x (QmW x hx)
theorem QjZ {a:Q6}{s:Int}:∀(vs:LI) (out:LI),∀v∈vs,0<=xh a.ed s v->xh a.ed s v∈vs.foldl (UM a s) out
 | v::vs,out,u,G,h=>by
  rcases Lj.1 G with rfl|G
  ·exact QbO vs _ _ (Qpj h)
  exact QjZ vs _ u G h
theorem QfK {a:Q6}{s:Int}:∀(vs:LI) (out:LI),∃r,vs.foldl (UM a s) out=out++r
 | [],out=>⟨[],od⟩
 | v::vs,out=>by
  obtain⟨r,G⟩:=QfK (a:=a) (s:=s) vs (UM a s out v);rw[L5,G];unfold UM;split
  ·exact⟨[xh a.ed s v]++r,od⟩
  exact⟨r,U⟩
theorem jq {r:LI}(h:i<l.length):O6 (l++r) i=O6 l i:=by
 rw[<-ZL h,<-ZL (by simp;omega),MI h]
def Cl (a:Q6)(out:LI)(i:Nat):Prop:=∀j,j<i->j<out.length->∀v∈a.al,0<=xh a.ed (O6 out j) v->xh a.ed (O6 out j) v∈out
theorem Cl.next (h:Cl a out i)(hi:i<out.length):Cl a (fdR a out (O6 out i)) (i+1):=by
 intro j S T v H G;obtain⟨r,O⟩:=QfK (a:=a) (s:=O6 out i) a.al out;have I:fdR a out (O6 out i)=out++r:=O;have J:j<out.length:=oa
 rw[I,jq J]at G ⊢;by_cases e:j=i
 ·subst e;have:=QjZ a.al out v H G;rw[<-I];exact this
 exact Mf _ (h j oa J v H G)
theorem QjX {a:Q6}(H:ZK a):∀(f i:Nat) (out:LI),zM a out->Cl a out i->i+f=a.st.toNat->zM a (fdL a f i out)/\Cl a (fdL a f i out) (fdL a f i out).length
 | 0,i,out,h,G,O=>by
  have:=h.len H.st0;exact⟨h,λj J I=>G j (by rw[fdL]at J;omega) I⟩
 | f+1,i,out,h,G,O=>by
  rw[fdL];split
  ·rename_i hi;exact QjX H f (i+1) _ (QjY H _ _ _ h) (G.next hi) oa
  rename_i hi;exact⟨h,λj J I=>G j oa I⟩
theorem Qj1 (a:Q6):zM a (fd0 a):=by
 unfold fd0;split
 ·rename_i h;exact⟨λx hx=>by simp only[oJ]at hx;subst hx;exact⟨oa,h⟩,od⟩
 exact⟨od,od⟩
theorem y9 (I:ZK a):zM a (xp a)/\∀s∈xp a,∀v∈a.al,0<=xh a.ed s v->xh a.ed s v∈xp a:=by
 obtain⟨J,O⟩:=QjX I a.st.toNat 0 (fd0 a) (Qj1 a) (λj G=>oa) oa;refine⟨J,λs S v T H=>?_⟩;obtain⟨j,G,rfl⟩:=LO S;have:=O j G G v T;unfold xp at G H ⊢;rw[ZL G]at H ⊢;exact this H
def Ve (a:Q6)(fd:LI)(i:Nat)(v:Int):Option Ed:=if 0<=xh a.ed (O6 fd i) v then some ((i:Int),v,yW fd (xh a.ed (O6 fd i) v))else none
def Xk (a:Q6)(fd:LI)(n:Nat):LI:=((oS 0 n).filter λi=>decide (O6 fd i∈a.mr)).map λi:Nat=>(i:Int)
def XB (a:Q6)(fd:LI)(n:Nat):List Ed:=(oS 0 n).flatMap λi=>a.al.filterMap (Ve a fd i)
def Xr (a:Q6):Q6:=⟨a.al,(xp a).length,Xk a (xp a) (xp a).length,XB a (xp a) (xp a).length⟩
theorem JC {β:Type}{r:Int->Int->Prop}{q:β->β->Prop}{g:Int->Option β}(G:∀x y u v,r x y->g x=some u->g y=some v->q u v):∀{l:LI},l.Pairwise r->(l.filterMap g).Pairwise q
 | [],_=>od
 | x::l,h=>by
  obtain⟨I,H⟩:=L8.1 h;rw[MA];split
  ·exact JC G H
  rename_i u J;refine L8.2 ⟨λv O=>?_,JC G H⟩;obtain⟨y,S,T⟩:=MZ.1 O;exact G x y u v (I y S) J T
theorem QbV (H:ZK a):ZK (Xr a)/\(Xr a).al=a.al/\(Xr a).st<=a.st:=by
 obtain⟨Y,h2⟩:=y9 H;have hl:=Y.len H.st0;have h0:=H.st0;have h4:=H.st1;refine⟨⟨H.al,H.ali,by simp[Xr],by simp only[Xr];omega,λs S=>?_,?_,λe J=>?_,?_⟩,U,by simp only[Xr];omega⟩
 ·simp only[Xr,Xk,OA,OH,OB]at S;obtain⟨i,⟨hi,_⟩,rfl⟩:=S;simp only[Xr];omega
 ·simp only[Xr,Xk];unfold Xa;rw[MQ];refine List.Pairwise.sublist M0 ?_;exact(Nj (s:=0) (n:=(xp a).length)).imp (λh=>oa)
 ·simp only[Xr,XB,List.mem_flatMap,List.mem_filterMap,OB]at J;obtain⟨i,⟨_,hi⟩,v,I,G⟩:=J;unfold Ve at G;split at G
  ·rename_i hn;cases G
   have T:i<(xp a).length:=oa
   have V:=h2 (O6 (xp a) i) (by rw[<-ZL T];exact Lm T) v I hn;have hx:=MJ V;simp only[Xr];unfold yW;rw[OU V];exact⟨oa,oa,I,oa,oa⟩
  cases G
 simp only[Xr,XB];have key:∀(is:LN),is.Pairwise (·<·)->(is.flatMap λi=>a.al.filterMap (Ve a (xp a) i)).Pairwise λx y:Ed=>x.1<y.1\/(x.1=y.1/\x.2.1<y.2.1):=by
  intro is;induction is with
  | nil=>intro _;simp
  | cons i is ih =>
   intro hp;obtain⟨p1,p2⟩:=L8.1 hp;rw[LM,MH];have from_i:∀(i:Nat) (e:Ed),e∈a.al.filterMap (Ve a (xp a) i)->e.1=i:=by
    intro i e J;obtain⟨v,_,G⟩:=MZ.1 J;unfold Ve at G;split at G
    ·cases G;rfl
    cases G
   refine⟨?_,ih p2,λe J e' ha=>?_⟩
   ·refine JC (r:=(·<·)) (λx y u v hb O I=>?_) H.ali;unfold Ve at O I;split at O
    ·cases O;split at I
     ·cases I;exact .inr ⟨U,hb⟩
     cases I
    cases O
   obtain⟨j,hj,hc⟩:=Me.1 ha;have e1:=from_i i e J;have e2:=from_i j e' hc;have:=p1 j hj;left;omega
 exact key _ (Nj (s:=0) (n:=(xp a).length))
theorem Qhf (h:ZM L ↑w va vm ve a)(ho:ZK a):
  QY sV 210 [.agg #[va,sS a.st,vm,ve]] w λr w'=>sX w w'/\Qq 3 ↑w w' r (xp a):=by
 have h0:=ho.st0;have h1:=ho.st1;have hU:=ho.al_le;refine Zq func210 ?_;refine Qc<|Zl [va,sS a.st,vm,ve] λb1 O hh hV hs=>Qb<|Qc<|Qb ?_;have h8:=hh.size;refine QX (α:=O2) [(3,3),(7,12)] (λz=>[(3,z)]) (λz w'=>sX O w'/\Qq 3 ↑O w' z (fd0 a)) om ?_ ?_
 ·refine Qc<|Qo U hs U U<|x (Yc U U)<|xe<|ZH U (λh9=>?_) (λh9=>?_)
  ·refine Qf ?_;exact⟨nS,La,O5.Z _ _,by unfold fd0;rw[OT h9];exact QE _ _ _ _⟩
  refine Qs<|Qa<|Qn<|Za [[sS 0]] λhW w2 hv hX hA=>?_;have hn:w2.ownsRow ↑O 3 1 (nS) 0 []:=QE _ _ _ _;have hY:=hv.size;refine Qn<|Q2 (news:=[sS 0]) (L:=[]) hn U U U (hA.at od) oq oa oa λv3 w3 hB hC hZ =>
   Qb<|⟨v3,La,hv.S hC (λb hb=>by simp[ob]at hb),?_⟩
  unfold fd0;rw[OU h9];exact hB
 rintro v0 g4 w4 ⟨hD,hE⟩;refine Zf (xp a) λT hT=>?_;have hF:fdL a a.st.toNat 0 (fd0 a)=T:=hT;refine Qd<|Qc<|Qb<|Q7 (α:=Nat×LI×O2) [(3,6),(13,48)] (λz=>[(3,z.2.2),(4,sS z.1)])
  (λz w'=>sX O w'/\Qq 3 ↑O w' z.2.2 z.2.1/\zM a z.2.1/\z.1<=z.2.1.length/\fdL a (a.st.toNat - z.1) z.1 z.2.1=T) (λz=>a.st.toNat - z.1) (0,fd0 a,v0) oB
  ⟨hD,hE,Qj1 a,Lo _,hF⟩ ?_
 rintro⟨i,out,v⟩ g5 w5 ⟨hj,V,G,hi,Y⟩;simp only[]at V G hi Y;have hw:=G.len h0;have hy:=Qq.ints (L:=[]) V oa od;refine Qd<|Qj<|Qa<|QF hy U<|Z5 U U<|xe<|ZH rfl (λhz=>?_) (λhz=>?_)
 ·have e:out=T:=by
   rw[<-Y];generalize a.st.toNat - i=f;cases f with
   | zero=>rfl
   | succ f=>rw[fdL,OT oa]
  refine Qw<|Qj<|Qb ?_;rw[e]at V;exact Qh ⟨[v],La,hh.D hj,by rw[hT];exact ZB V h8⟩
 have I:i<out.length:=oa
 have hG:a.st.toNat - i=(a.st.toNat - (i+1))+1:=oa
 rw[hG,fdL,OU I]at Y;refine Zf (O6 out i) λs J=>?_;rw[J]at Y;refine Zf (fdR a out s) λR hR=>?_;rw[hR]at Y;unfold fdR at hR;refine Qf<|Qd<|Qm<|Qc<|Qb<|Q7 (α:=Nat×LI×O2) [(3,3),(5,6),(19,48)] (λz=>[(3,z.2.2),(5,sS z.1)])
  (λz w'=>sX O w'/\Qq 3 ↑O w' z.2.2 z.2.1/\zM a z.2.1/\z.1<=a.al.length/\i<z.2.1.length/\O6 z.2.1 i=s/\(a.al.drop z.1).foldl (UM a s) z.2.1=R) (λz=>a.al.length - z.1) (0,out,v) oB
  ⟨hj,V,G,Lo _,I,J,hR⟩ ?_
 clear hj V G hi hw hy I J hR hz;rintro⟨k,out,v⟩ g6 w6 ⟨ha,he,G,hk,I,J,H⟩;simp only[]at he G hk I J H;have hw:=G.len h0;have h2:=(h.al.I hh).I ha;have hl:=hs.I ha;have h3:=Qq.ints (L:=[]) he oa od;refine Qd<|Qj<|Qo U hl U U<|QF h2 U<|Z5 U U<|xe<|ZH rfl (λhH=>?_) (λhH=>?_)
 ·refine Qw<|Qs<|Qa<|QH U U<|Qb ?_;rw[Lt oa]at H;have hI:out=R:=H;exact⟨(i+1,out,v),og,oB,ha,he,G,I,by simp only[];rw[hI];exact Y⟩
 have hf:k<a.al.length:=oa
 rw[LF hf,L5,ZL hf]at H;refine Zf (O6 a.al k) λu hu=>?_;rw[hu]at H;have hJ:=(h.ed.I hh).I ha;refine Zf (xh a.ed s u) λt ht=>?_;have hK:UM a s out u=if 0<=t/\t∉out then out++[t]else out:=by unfold UM;rw[ht]
 have hm:=Qj0 ho G s u;rw[hK]at H hm;refine Qf<|Qd<|Qm<|Qd<|Zz [] (YW 0 12 [10])<|pq (λ_ S=>Zu (hl.I S) U U)<|p Qv<|p Qv<|pic (i:=i) U h3 U U I λga h4=>?_;rw[J]at h4;refine pq (λ_ S=>Qy (h4.I S) U)<|p (QG U)<|pq (λ_ S=>Qk (hl.I S) U U)<|p Qv <|
  pic (i:=k) U h2 U U hf λgb h5=>?_
 rw[hu]at h5;have hsr:=Qcf (va:=va) (vm:=vm) (a:=a) (hJ.I (O5.C [] w6)) s u a.st;rw[ht]at hsr;refine pq (λ_ S=>Qy (h5.I S) U)<|pk<|xg<|hsr.Y ?_;rintro r7 w7 ⟨rfl,hL⟩;have hg:=(O5.C [] w6).D hL;refine⟨hg,p ZG<|pe ?_⟩;have h6:=Ql he hg;have hM:=h3.I hg;refine QX (α:=Unit) [(37,44)] (λz=>[(44,.bool (decide (0<=t/\t∉out)))]) (λz w'=>w'=w7) om ?_ ?_
 ·refine Qs<|Qa<|xb (YC U U) (λhp=>?_) (λhp=>?_)
  ·refine Qa<|Qa<|Qa<|Qz<|(QfH hM t).Y ?_;rintro r8 w8 ⟨rfl,rfl⟩;refine x (Zy U)<|QC U<|xe<|⟨(),⟨OV Value.bool ?_,Z⟩,U⟩;show(!decide (t∈out))=_;rw[Bool.eq_iff_iff];simp[hp]
  refine Qa<|Zt<|KB<|QC U<|xe ?_;exact⟨(),⟨OV Value.bool (OZ (λe=>hp e.1)).symm,Z⟩,U⟩
 rintro _ g9 w9 rfl;refine ZH rfl (λhq=>?_) (λhq=>?_)
 ·rw[OT hq]at H;refine Qf<|Qs<|Qa<|QH U U<|Qb<|⟨(k+1,out,v),og,oB,ha.D hg,h6,G,hf,I,J,H⟩
 rw[OU hq]at H hm;have h7:=ha.D hg;have gc:=h7.size;refine Qs<|Qa<|Qa<|Qn<|Za [[sS t]] λgg gh hr gi hN=>?_;have hO:=Ql h6 hr;have gj:=hr.size;refine Qn<|Q2 (news:=[sS t]) (L:=[]) hO U U U (hN.at od) oq oa oa λhP gk hQ hS gl =>
  Qb ?_
 have hge:=Qg he;refine Qs<|Qa<|QH U U<|Qb<|⟨(k+1,out++[t],hP),og,oB,(h7.D hr).S hS (λb hb=>.inr (hge b hb).1),Qq.snoc hQ,hm,hf,by simp;omega,?_,H⟩;simp only[];rw[jq I];exact J
structure CrI (w7:O1)(b4:Nat)(vcl:O2)(n:Int)(vm vd:O2)(M:LI)(E:List Ed)(w:O1):Prop where
 st:O5 [b4] w7 w
 B:QZ ↑w b4 66 [vcl,sS n,vm,vd]
 m:Qq 3 ↑w7 w vm M
 e:YP 159 ↑w7 w vd E
 dj:Dj vm vd
section
variable {w7 w'':O1}{b4:Nat}{vcl:O2}{n:Int}{vd:O2}{M:LI}{E:List Ed}
theorem CrI.I (h:CrI w7 b4 vcl n vm vd M E w)(G:sX w w'):CrI w7 b4 vcl n vm vd M E w':=⟨h.st.D G,h.B.I G,Ql h.m G,Ql h.e G,h.dj⟩
theorem CrI.setM (h:CrI w7 b4 vcl n vm vd M E w)(J:b4<w7.heap.size){G:O2}{M':LI}(O:O5 (ob vm) w w')(S:Qq 3 ↑w7 w' G M')(T:∀b∈ob G,b∈ob vm\/↑w<=b)(H:O5 [b4] w' w'')
  (V:QZ ↑w'' b4 66 [vcl,sS n,G,vd]):CrI w7 b4 vcl n G vd M' E w'' :=
 ⟨(h.st.S O (λb J=>.inr (Qg h.m b J).1)).Q H,V,Qe S H (λb I=>by have:=(Qg S b I).1;simp;omega),
  Qe (Qe h.e O h.dj.symm) H (λb I=>by have:=(Qg h.e b I).1;simp;omega),(h.dj.symm.grow T (Q8 h.e)).symm⟩
theorem CrI.setE (h:CrI w7 b4 vcl n vm vd M E w)(J:b4<w7.heap.size){G:O2}{E':List Ed}(O:O5 (ob vd) w w')(S:YP 159 ↑w7 w' G E')(T:∀b∈ob G,b∈ob vd\/↑w<=b)(H:O5 [b4] w' w'')
  (V:QZ ↑w'' b4 66 [vcl,sS n,vm,G]):CrI w7 b4 vcl n vm G M E' w'' :=
 ⟨(h.st.S O (λb J=>.inr (Qg h.e b J).1)).Q H,V,Qe (Qe h.m O h.dj) H (λb I=>by have:=(Qg h.m b I).1;simp;omega),
  Qe S H (λb I=>by have:=(Qg S b I).1;simp;omega),h.dj.grow T (Q8 h.m)⟩
end
theorem QaR (a:Q6)(fd:LI)(k:Nat):Xk a fd (k+1)=if O6 fd k∈a.mr then Xk a fd k++[(k:Int)]else Xk a fd k:=by
 unfold Xk;rw[MB,L4,Lr,LT];by_cases h:O6 fd k∈a.mr
 ·rw[OU h,Md,OU (OX h)];rfl
 rw[OT h,Md,OT (by rw[OZ h];simp),Nm,Nr,LS]
theorem Qdt (a:Q6)(fd:LI):∀k,(Xk a fd k).length<=k
 | 0=>by simp[Xk]
 | k+1=>by
  have:=Qdt a fd k;rw[QaR];split
  ·simp;omega
  omega
theorem QhD (a:Q6)(fd:LI)(k:Nat):XB a fd (k+1)=XB a fd k++a.al.filterMap (Ve a fd k):=by
 unfold XB;rw[MB,LA,LT];simp
theorem jO (h:ZM L ↑w va vm ve a)(V:ZK a):
  QY sV 125 [.agg #[va,sS a.st,vm,ve]] w λr w'=>sX w w'/\JK ↑w ↑w' r (Xr a):=by
 have h1:=V.st1;have kr:=V.al_le;have ga:=((y9 V).1).len V.st0;refine Zq func125 ?_;refine Zf (xp a) λfd hs=>?_;rw[hs]at ga;have gb:Xr a=⟨a.al,fd.length,Xk a fd fd.length,XB a fd fd.length⟩:=by unfold Xr;rw[hs]
 refine Qc<|Zl [va,sS a.st,vm,ve] λb1 w1 gc kt hv=>QM [nS,sS 0,nS,nS] λb2 w2 hw ku hD=>xe ?_;have Y:=gc.D hw;have hfr:=Qhf (h.I Y) V;rw[hs]at hfr;refine Qc<|QT (hv.I hw) U U<|Qz<|hfr.Y ?_;rintro vf w3 ⟨hn,gg⟩;refine Qb ?_;have hE:=Y.D hn;have hF:=(hv.I hw).I hn;refine Qc<|Qo U hF U U<|Qz<|(qS (h.al.I hE) oa).Y ?_;rintro r4 w4 ⟨hG,vcl,rfl,ha⟩;have hH:=Qq.ints (L:=[]) ha oa od;refine QM [nS,sS 0,nS,nS] λb4 w5 gh gi gj =>
  QK [vcl,sS 0,nS,nS] gj ⟨hH.one,U,U,U,Z⟩ λw6 gk hJ=>xe ?_
 have hz:sX w4 w6:=gh.O gk gi;have he:=hG.D hz;have hK:=Qq.ints (L:=[]) gg oa od;have kv:=hn.size;have kw:=hG.size;have kx:=hz.size;have kz:=hv.lt;have k0:=hD.lt;have k4:=hJ.lt;refine Qj<|QF hK U<|QQ U<|Qn<|Qu (u:=sS fd.length) hJ U U od rfl λw7 S gl=>xe ?_;have k5:=S.size;have k6:O5 [b4] w3 w7:=(he.any (L:=[b4])).Q S;have hL:sX w w7:=(hE.D he).O S oa;have hM:QL [b4] ↑w7 vf fd:=((hK.up (L':=[b4]) (λb G=>.inr (by simp at G;omega))).I he).st S;have h0:ZM [b4] ↑w7 va vm ve a:=(h.up (λb G=>.inr (by simp at G;omega))).I hL;have gm:Qq 3 ↑w3 w7 vcl a.al:=Qe (Ql ha hz) S (λb G=>by have:=Q8 ha b G;simp;omega);have hN:=(hF.I he).J S (by simp;omega);have hf:b4<w7.heap.size:=oa
 have n1:b1∉[b4]:=by simp;omega
 have n2:b2∉[b4]:=by simp;omega
 refine Qd<|Qc<|Qb<|Q7 (α:=Nat×O2×O2) [(5,7),(16,69)] (λz=>[(5,sS z.1)])
  (λz w'=>z.1<=fd.length/\CrI w7 b4 vcl fd.length z.2.1 z.2.2 (Xk a fd z.1) (XB a fd z.1) w'/\(XB a fd z.1).length<=z.1*32) (λz=>fd.length - z.1) (0,nS,nS) La
  ⟨Lo _,⟨O5.Z _ _,gl,QE _ _ _ _,QE _ _ _ _,Dj.nil' _⟩,Lo _⟩ ?_
 rintro⟨i,v1,v2⟩ g8 w8 ⟨hi,I,h2⟩;simp only[]at hi I h2;have gn:=Qdt a fd i;have hO:=hM.st I.st;refine Qd<|Qj<|Qa<|QF hO U<|Z5 U U<|xe<|ZH rfl (λgo=>?_) (λgo=>?_)
 ·have gp:i=fd.length:=oa
  rw[gp]at I h2 gn;refine Qw ?_;have gq:=Qq.ints (L:=[]) I.m oa od;have gr:=YP.eds (L:=[]) I.e oa od;refine Qc<|QT I.B U U<|QK [vcl,sS fd.length,v1,v2] ((((hD.I hn).I he).J S (by simp;omega)).J I.st n2) ⟨hH.one,U,gq.one,gr.one,Z⟩ λw9 hp gs=>xe ?_;refine Qh ⟨[.agg #[vcl,sS fd.length,v1,v2]],⟨Yl gs,Z⟩,(hL.O I.st oa).O hp oa,?_⟩;rw[gb];have k1:=Qe (Qe gm I.st (λb G=>by have:=Q8 ha b G;simp;omega)) hp (λb G=>by have:=(Qg ha b G).1;simp;omega);have k2:=Qe I.m hp (λb G=>by have:=(Qg I.m b G).1;simp;omega);have k3:=Qe I.e hp (λb G=>by have:=(Qg I.e b G).1;simp;omega);refine⟨vcl,v1,v2,U,λL' h3=>⟨?_,?_,?_⟩⟩
  ·exact Qq.ints k1 (by show a.al.length<=_;omega) (λb G=>ov (h3 b G))
  ·exact Qq.ints k2 (by show(Xk a fd fd.length).length<=_;omega) (λb G=>ov (h3 b G))
  exact YP.eds k3 (by show(XB a fd fd.length).length<=_;omega) (λb G=>ov (h3 b G))
 have h4:i<fd.length:=oa
 refine Zf (O6 fd i) λs hq=>?_;have hg:=QaR a fd i;rw[hq]at hg;refine Qf<|Qd<|Qm<|QX (α:=O2) [(22,34)] (λz=>[]) (λz w'=>CrI w7 b4 vcl fd.length z v2 (Xk a fd (i+1)) (XB a fd i) w') om ?_ ?_
 ·have gt:=h0.st I.st;have gu:=hN.J I.st n1;refine Qd<|Zz [] (YW 0 7 [6])<|p (QG U)<|pq (λ_ H=>Qk (gu.I H) U U)<|p Qv<|p Qv<|pic (i:=i) U hO U U h4 λk7 hP=>?_;rw[hq]at hP;refine pq (λ_ H=>Qy (hP.I H) U)<|pk<|xg<|(QfH (gt.mr.I (O5.C [] w8)) s).Y ?_;rintro k8 k9 ⟨rfl,rfl⟩;have h5:=I.I (O5.C [] w8);refine⟨O5.C _ _,pe ?_⟩;refine ZH U (λh6=>?_) (λh6=>?_)
  ·rw[OT h6]at hg;refine Qf ?_;exact⟨v1,Z,by rw[hg];exact h5⟩
  rw[OU h6]at hg;refine Qs<|Qo U h5.B U U<|Qa<|Qn<|Za [[sS i]] λma mf gv mg gw=>?_;have hh:=h5.I gv;refine Qn<|Q2 (news:=[sS i]) (L:=[]) hh.m U U U (gw.at od) oq oa hh.st.size λhQ gx gy Y gz=>?_;have hR:Qq 3 ↑w7 gx hQ (Xk a fd i++[(i:Int)]):=Qq.snoc gy;refine QQ U<|Qn<|Qu (hh.B.J Y (QP hh.m hf)) U U od (Qq.ints (L:=[]) hR (by simp;omega) od).one λmh g0 g2 =>
   xe ?_
  exact⟨hQ,Z,by rw[hg];exact hh.setM hf Y hR gz g0 g2⟩
 rintro v3 mj mo g3;refine Zf (XB a fd (i+1)) λE1 h7=>?_;have hS:=QhD a fd i;rw[h7]at hS;refine Qc<|Qb<|Q7 (α:=Nat×List Ed×O2) [(6,7),(35,69)] (λz=>[(6,sS z.1)])
  (λz w'=>z.1<=a.al.length/\CrI w7 b4 vcl fd.length v3 z.2.2 (Xk a fd (i+1)) z.2.1 w'/\z.2.1.length<=i*32+z.1/\z.2.1++(a.al.drop z.1).filterMap (Ve a fd i)=E1) (λz=>a.al.length - z.1) (0,XB a fd i,v2) La
  ⟨Lo _,g3,h2,hS.symm⟩ ?_
 rintro⟨k,E,vd⟩ mq hT ⟨hk,O,g4,J⟩;simp only[]at hk O g4 J;have h8:=h0.st O.st;have hr:=hN.J O.st n1;have hU:=hM.st O.st;refine Qd<|Qj<|Qo U hr U U<|QF h8.al U<|Z5 U U<|xe<|ZH rfl (λg5=>?_) (λg5=>?_)
 ·refine Qw<|Qs<|Qa<|QH U U<|Qb ?_;rw[Lt oa,List.filterMap_nil,LS]at J;refine⟨(i+1,v3,vd),og,La,h4,?_,?_⟩
  ·simp only[];rw[h7,<-J];exact O
  simp only[];rw[h7,<-J];omega
 have T:k<a.al.length:=oa
 refine Zf (O6 a.al k) λu hu=>?_;rw[LF T,ZL T,hu,MA]at J;refine Zf (xh a.ed s u) λt ht=>?_;have g6:Ve a fd i u=if 0<=t then some ((i:Int),u,yW fd t)else none:=by unfold Ve;rw[hq,ht]
 rw[g6]at J;have hsr:=Qcf (va:=va) (vm:=vm) (a:=a) (h8.ed.I (O5.C [] hT)) s u a.st;rw[ht]at hsr;refine Qf<|Qd<|Qm<|Qd<|Zz [] (YW 0 12 [10])<|pq (λ_ H=>Zu (hr.I H) U U)<|p Qv<|p Qv<|pic (i:=i) U hU U U h4 λms hV=>?_;rw[hq]at hV;refine pq (λ_ H=>Qy (hV.I H) U)<|p (QG U)<|pq (λ_ H=>Qk (hr.I H) U U)<|p Qv <|
  pic (i:=k) U h8.al U U T λmt hW=>?_
 rw[hu]at hW;refine pq (λ_ H=>Qy (hW.I H) U)<|pk<|xg<|hsr.Y ?_;rintro mu h9 ⟨rfl,g7⟩;have hj:=(O5.C [] hT).D g7;refine⟨hj,p ZG<|pe ?_⟩;have hl:=O.I hj;have g9:=hr.I hj;have ka:=hU.I hj;refine Qj<|x (YC U U)<|xe<|ZH rfl (λhA=>?_) (λhA=>?_)
 ·rw[OT hA]at J;refine Qf<|Qs<|Qa<|QH U U<|Qb<|⟨(k+1,E,vd),og,La,T,hl,og,J⟩
 rw[OU hA]at J;have kb:=Qg O.e;have kc:QL (b4::ob vd) ↑h9 va a.al:=(((h0.al.up (L':=b4::ob vd) (λb G=>by
  rcases Lj.1 G with rfl|G
  ·exact .inl od
  exact .inr (kb b G).1)).J O.st od).I hj)
 have ke:=QP hl.e hf;have kf:b1∉ob vd:=QP hl.e oa;refine Zz (ob vd) (YW 0 16 [10,12,13,15])<|p (QG U)<|pq (λ_ H=>Qk (hl.B.J H ke) U U)<|p Qv<|p (QG U)<|pq (λ_ H=>Qk (g9.J H kf) U U) <|
  p Qv<|pic (i:=k) U kc U U T λmv hX=>?_
 rw[hu]at hX;refine pq (λ_ H=>Qy (hX.J H (λb G=>Lk _ G)) U)<|p Qv<|p Qv <|
  pk<|xg<|(Qhd (ka.I (O5.C [] h9)) t).Y ?_
 rintro mw my ⟨rfl,rfl⟩;refine⟨O5.C _ _,p (λ_=>Qx ⟨U,U,U,Z⟩)<|pk<|Za [QA ((i:Int),u,yW fd t)] λmz m2 kg m3 kh=>?_⟩;have hB:=(O5.C [] h9).D kg;have hm:=hl.I hB;refine⟨hB.any,?_⟩;refine pk<|Q2 (news:=QA ((i:Int),u,yW fd t)) (L:=[]) hm.e U U U (kh.at od) (λy hy=>by simp only[QA,oL,oK,or_false]at hy;rcases hy with rfl|rfl|rfl <;> rfl) oa hm.st.size λhY ki kj hC kk=>⟨(hB.any (L:=ob vd)).Q hC,?_⟩
 have hZ:YP 159 ↑w7 ki hY (E++[((i:Int),u,yW fd t)]):=YP.snoc kj;refine p (QG U)<|pkk<|Qu (hm.B.J hC (QP hm.e hf)) U U od (YP.eds (L:=[]) hZ (by simp;omega) od).one λm4 kn ko =>
  pe ?_
 have kq:=hm.setE hf hC hZ kk kn ko;refine Qs<|Qa<|QH U U<|Qb<|⟨(k+1,E++[((i:Int),u,yW fd t)],hY),og,La,T,kq,by simp;omega,?_⟩;simp only[o6,Ow];exact J
section
variable {pS:String}
theorem JW {G:Nat}{x:O3}{k:IntKind}{a b:Int}(hx:ev f x=.int k a)(H:ev f y=.int k b)(I:0<=a)(O:0<b):
  (execOp (ev f) ⟨d,.binOp .rem t x y G,ty,pS,af,gd⟩).run P w=.ok (.value (.int k (a % b))) w:=by
 refine Jy hx H ?_;have J:¬b=0:=oa
 simp[binOp,Op.intDiv,J,Int.tmod_eq_emod_of_nonneg I]
end
instance ayMa1:Ay sV 26 5 22 5:=⟨oe,oe⟩
instance ayMa2:Ay sV 22 5 5 1:=⟨oe,oe⟩
abbrev bys (ns:LN):LV:=ns.map λn:Nat=>.int .u8 (n:Int)
theorem qW (h:j<ns.length):(bys ns)[j]?=some (.int .u8 ((ns.getD j 0:Nat):Int)):=by simp[bys,oR,h]
theorem Qdv:∀(ns:LN),Zb (bys ns)
 | []=>trivial
 | _::ns=>⟨rfl,Qdv ns⟩
theorem JH (h:∀n∈ns,n<256)(j:Nat):ns.getD j 0<256:=by
 by_cases G:j<ns.length
 ·simp only[oR,Og G,Option.getD_some];exact h _ (Lm G)
 simp[oR,G]
structure GrI (al:LI)(S i k:Nat)(M:LI)(E:List Ed):Prop where
 mb:∀x∈M,0<=x/\x<S
 mi:Xa M
 ml:∀x∈M,x<(i:Int)+1
 mn:M.length<=S
 eb:∀e∈E,0<=e.1/\e.1<S/\e.2.1∈al/\0<=e.2.2/\e.2.2<S
 ei:E.Pairwise λx y=>x.1<y.1\/(x.1=y.1/\x.2.1<y.2.1)
 el:∀e∈E,e.1<i\/(e.1=i/\e.2.1∈al.take k)
 en:E.length<=i*5+k
theorem QmQ {S:Nat}{M:LI}(G:∀x∈M,0<=x/\x<S)(hi:Xa M):M.length<=S:=xG S M (hi.imp (λh=>oa)) G
theorem GrI.mark {S:Nat}{M:LI}{E:List Ed}(h:GrI al S i 0 M E)(G:∀x∈M,x<(i:Int))(hi:i<S):GrI al S i 0 (M++[(i:Int)]) E:=by
 have H:∀x∈M++[(i:Int)],0<=x/\x<S:=λx hx=>by
  rcases Lc.1 hx with hx|hx
  ·exact h.mb x hx
  simp only[oJ]at hx;omega
 have I:Xa (M++[(i:Int)]):=by
  refine MH.2 ⟨h.mi,od,λx hx y J=>?_⟩;simp only[oJ]at J;subst J;exact G x hx
 refine⟨H,I,λx hx=>?_,QmQ H I,h.eb,h.ei,h.el,h.en⟩;rcases Lc.1 hx with hx|hx
 ·have:=G x hx;omega
 simp only[oJ]at hx;omega
theorem GrI.skip {S k:Nat}{M:LI}{E:List Ed}(h:GrI al S i k M E)(G:k<al.length):GrI al S i (k+1) M E :=
 ⟨h.mb,h.mi,h.ml,h.mn,h.eb,h.ei,λe H=>(h.el e H).imp id (λx=>⟨x.1,by rw[Ln G];exact Mf _ x.2⟩),ov h.en⟩
theorem GrI.edge {S k:Nat}{M:LI}{E:List Ed}(h:GrI al S i k M E)(H:k<al.length)(O:Xa al)(hi:i<S){t:Int}(T:0<=t)(V:t<S):GrI al S i (k+1) M (E++[((i:Int),O6 al k,t)]):=by
 have Y:O6 al k∈al:=KN H;refine⟨h.mb,h.mi,h.ml,h.mn,λe G=>?_,?_,λe G=>?_,by have:=h.en;simp;omega⟩
 ·rcases Lc.1 G with G|G
  ·exact h.eb e G
  simp only[oJ]at G;subst G;exact⟨og,og,Y,T,V⟩
 ·refine MH.2 ⟨h.ei,od,λx hx y J=>?_⟩;simp only[oJ]at J;subst J;rcases h.el x hx with I|⟨I,h2⟩
  ·left;exact I
  right;refine⟨I,?_⟩;simp only[];have hp:Xa (al.take k++al.drop k):=by rw[MG];exact O
  refine(MH.1 hp).2.2 _ h2 _ ?_;rw[LF H,ZL H];exact Lq
 rw[Ln H,ZL H];rcases Lc.1 G with G|G
 ·exact(h.el e G).imp id (λx=>⟨x.1,Mf _ x.2⟩)
 simp only[oJ]at G;subst G;exact .inr ⟨U,Nz _ od⟩
theorem GrI.next {S k:Nat}{M:LI}{E:List Ed}(h:GrI al S i k M E)(I:k<=5):GrI al S (i+1) 0 M E :=
 ⟨h.mb,h.mi,λx hx=>ov (h.ml x hx),h.mn,h.eb,h.ei,λe G=>by rcases h.el e G with H|H <;> (left;omega),ov h.en⟩
theorem Qg1 {v:O2}(h:QL L ↑w v al)(G:∀e∈al,0<=e/\e<32)(hi:Xa al)(hn:ns.length=27)(hp:∀n∈ns,n<256):
  QY sV 65 [v,sT (bys ns)] w λr w'=>sX w w'/\∃a:Q6,JK ↑w ↑w' r a/\ZK a/\a.st<=5/\a.al=al /\
   (ns.getD 0 0<250->∃a0:Q6,ZK a0/\0<a0.st/\a0.st<=((1+ns.getD 0 0 % 5:Nat):Int)/\a=Xr a0):=by
 have kx:al.length<=32:=xG 32 al (hi.imp (λh=>oa)) (λx hx=>ov (G x hx));refine Zq func65 ?_;have g0:=qW (ns:=ns) (j:=0) oa;have g1:=qW (ns:=ns) (j:=1) oa;have l0:=JH hp 0;have l1:=JH hp 1;refine Zf (ns.getD 0 0) λs0 hX=>?_;refine Zf (ns.getD 1 0) λm1 hY=>?_;rw[hX]at g0 l0;rw[hY]at g1 l1;refine Qc<|Zl (bys ns) λb3 w1 hZ kz h4=>QM [nS,sS 0,nS,nS] λb4 w2 h5 k0 hr=>xe ?_;have ho:=hZ.D h5;have hs:=h4.I h5;have k4:=h4.lt;have k5:=hr.lt;refine Qd<|Qc<|Qo U hs U g0<|x (YC U U)<|xe<|QO rfl (λga=>?_) (λga=>?_)
 ·refine Qj<|Qz<|(qS (h.I ho) oa).Y ?_;rintro r3 w3 ⟨h6,vcl,rfl,T⟩;have hu:=Qq.ints (L:=[]) T oa od;refine QK [vcl,sS 0,nS,nS] (hr.I h6) ⟨hu.one,U,U,U,Z⟩ λw4 h7 gb=>xe ?_;have gc:=Qe T h7 (λb G=>by have:=(Qg T b G).1;simp;omega);refine Qh ⟨[.agg #[vcl,sS 0,nS,nS]],⟨Yl gb,Z⟩,(ho.D h6).O h7 oa,⟨al,0,[],[]⟩,?_,?_,(by decide:(0:Int)<=5),U,λh=>OW h oa⟩
  ·exact⟨vcl,_,_,U,λL' gg=>⟨Qq.ints gc (by show al.length<=_;omega) (λb G=>ov (gg b G)),Zn.nil _ _ _,Zn.nil _ _ _⟩⟩
  exact⟨G,hi,(by decide:(0:Int)<=0),(by decide:(0:Int)<=4096),od,od,od,od⟩
 refine Qf<|Qj<|Qz<|(qS (h.I ho) oa).Y ?_;rintro r5 w5 ⟨h8,vcl,rfl,T⟩;have hu:=Qq.ints (L:=[]) T oa od;refine QM [nS,sS 0,nS,nS] λI w6 gh gi gk =>
  QK [vcl,sS 0,nS,nS] gk ⟨hu.one,U,U,U,Z⟩ λw7 gl h9=>xe ?_
 have hA:sX w5 w7:=gh.O gl gi;have hh:=h8.D hA;have k6:=h8.size;have k7:=h9.lt;refine Zf (1+s0 % 5) λS hS=>?_;have gm:(1:Int)+(s0:Int) % 5=(S:Int):=oa
 refine Qc<|Qo U (hs.I hh) U g0<|x (JW (a:=(s0:Int)) (b:=5) U U oa oa)<|x (Z6 (k':=.i64) U ⟨oa,oa⟩)<|QH U U<|x (KC U) <|
  Qn<|Qu (u:=sS S) h9 U (OV sS gm) od rfl λJ he gn=>xe ?_
 have k8:=he.size;have k9:O5 [I] w2 J:=(hh.any (L:=[I])).Q he;have hB:sX w J:=(ho.D hh).O he oa;have hC:QL [I] ↑J v al:=(h.up (L':=[I]) (λb G=>.inr (by simp at G;omega))).I hB;have go:Qq 3 ↑w2 J vcl al:=Qe (Ql T hA) he (λb G=>by have:=Q8 T b G;simp;omega);have hD:=(hs.I hh).J he (by simp;omega);have gp:=(hr.I hh).J he (by simp;omega);have hj:I<J.heap.size:=oa
 have n3:b3∉[I]:=by simp;omega
 have n4:b4∉[I]:=by simp;omega
 refine Qd<|Qc<|Qb<|Q7 (α:=Nat×O2×O2×LI×List Ed) [(6,8),(22,76)] (λz=>[(6,sS z.1)])
  (λz w'=>z.1<=S/\CrI J I vcl S z.2.1 z.2.2.1 z.2.2.2.1 z.2.2.2.2 w'/\GrI al S z.1 0 z.2.2.2.1 z.2.2.2.2/\∀x∈z.2.2.2.1,x<(z.1:Int)) (λz=>S - z.1) (0,nS,nS,[],[]) La
  ⟨Lo _,⟨O5.Z _ _,gn,QE _ _ _ _,QE _ _ _ _,Dj.nil' _⟩,⟨od,od,od,od,od,od,od,od⟩,od⟩ ?_
 rintro⟨i,v1,v2,M,E⟩ g9 w9 ⟨gq,H,O,hM⟩;simp only[]at gq H O hM;have ma:=O.mn;have mf:=O.en;refine Qd<|Qj<|Qo U H.B U U<|Z5 U U<|xe<|ZH rfl (λgr=>?_) (λgr=>?_)
 ·have mg:i=S:=oa
  refine Qw ?_;have gs:=Qq.ints (L:=[]) H.m oa od;have gt:=YP.eds (L:=[]) H.e oa od;have gu:Qq 3 ↑w2 w9 vcl al:=Qe go H.st (λb G=>by have:=Q8 T b G;simp;omega);have gv:ZM [] ↑w9 vcl v1 v2 ⟨al,(S:Int),M,E⟩:=⟨Qq.ints gu (by show al.length<=_;omega) od,gs,gt⟩;have hv:ZK ⟨al,(S:Int),M,E⟩:=⟨G,hi,og,og,O.mb,O.mi,O.eb,O.ei⟩;have hw:=QbV hv;have hE:sX w w9:=hB.O H.st oa;have gw:=gp.J H.st n4;have mh:=H.st.size;refine Qc<|QT H.B U U<|Qz<|(jO (a:=⟨al,(S:Int),M,E⟩) gv hv).Y ?_;rintro vr mj ⟨hH,hF⟩;obtain⟨us,hJ,hK,gx⟩:=J5 hF;refine Qn<|Zv (us:=us) (gw.I hH) U hJ hK U gx λmo hL gy=>xe ?_;have gz:=hE.size;refine Qh ⟨[sT us],⟨⟨_,U,Yb hK (gy.at (L:=[]) od).cells⟩,Z⟩,(hE.D hH).O hL oa,Xr ⟨al,(S:Int),M,E⟩,?_,hw.1,?_,hw.2.1,λ_=>⟨⟨al,(S:Int),M,E⟩,hv,og,og,U⟩⟩
  ·show JK _ _ (sT us) _;rw[<-hJ];exact(KW hF oa hL).Y gz
  have:=hw.2.2;simp only[]at this;omega
 have hz:i<S:=oa
 refine Qf<|Qd<|Qm<|QX (α:=O2×LI) [(28,39)] (λz=>[]) (λz w'=>CrI J I vcl S z.1 v2 z.2 E w'/\GrI al S i 0 z.2 E) om ?_ ?_
 ·have g2:m1 / 2 ^ i<256:=Nat.lt_of_le_of_lt (Nat.div_le_self _ _) l1;refine Qc<|Qo U (hD.J H.st n3) U g1<|Qa<|x (Qaf (n:=i) U U (by show i<=8;omega))<|x (yG (a:=m1 / 2 ^ i) (b:=1) (OV (Value.int .u8) (Qbg m1 i)) U g2 ol)<|x (QR U U)<|xe<|ZH U (λg3=>?_) (λg3=>?_)
  ·refine Qf ?_;exact⟨(v1,M),Z,H,O⟩
  refine Qs<|Qo U H.B U U<|Qa<|Qn<|Za [[sS i]] λmq ms g4 mt g5=>?_;have hl:=H.I g4;refine Qn<|Q2 (news:=[sS i]) (L:=[]) hl.m U U U (g5.at od) oq oa hl.st.size λhN g6 g7 hO g8=>?_;have hP:Qq 3 ↑J g6 hN (M++[(i:Int)]):=Qq.snoc g7;refine QQ U<|Qn<|Qu (hl.B.J hO (QP hl.m hj)) U U od (Qq.ints (L:=[]) hP (by simp;omega) od).one λmu ka kb =>
   xe ?_
  exact⟨(hN,M++[(i:Int)]),Z,hl.setM hj hO hP g8 ka kb,O.mark hM hz⟩
 rintro⟨v3,M3⟩ mv mw ⟨hQ,hR⟩;simp only[]at hQ hR;refine Qc<|Qb<|Q7 (α:=Nat×O2×List Ed) [(7,8),(40,76)] (λz=>[(7,sS z.1)])
  (λz w'=>z.1<=al.length/\z.1<=5/\CrI J I vcl S v3 z.2.1 M3 z.2.2 w'/\GrI al S i z.1 M3 z.2.2) (λz=>5 - z.1) (0,v2,E) La
  ⟨Lo _,Lo _,hQ,hR⟩ ?_
 rintro⟨k,vd,F⟩ my kc ⟨hk,hT,hf,hg⟩;simp only[]at hk hT hf hg;have ke:=hC.st hf.st;have mz:=hg.en;refine Qd<|QX (α:=Unit) [(40,47)] (λz=>[(47,.bool (decide (k<al.length/\k<5)))]) (λz w'=>w'=kc) om ?_ ?_
 ·refine Qs<|Qa<|Qa<|QF ke U<|xb (YX U U) (λhU=>?_) (λhU=>?_)
  ·refine Qa<|Qa<|Z5 U U<|QC U<|xe<|⟨(),⟨OV Value.bool ?_,Z⟩,U⟩;exact decide_eq_decide.2 ⟨λe=>⟨oa,oa⟩,λe=>oa⟩
  refine Qa<|Ys<|QC U<|xe ?_;exact⟨(),⟨OV Value.bool (OZ (λe=>hU oa)).symm,Z⟩,U⟩
 rintro _ m2 V rfl;refine ZH rfl (λh0=>?_) (λh0=>?_)
 ·refine Qw<|Qs<|Qa<|QH U U<|Qb<|⟨(i+1,v3,vd,M3,F),og,La,hz,hf,hg.next hT,λx hx=>by have:=hg.ml x hx;simp only[];omega⟩
 have hk1:k<al.length:=h0.1;have h1:k<5:=h0.2;have gj:=qW (ns:=ns) (j:=0+2+i*5+k*1) oa;have lj:=JH hp (0+2+i*5+k*1);refine Zf (ns.getD (0+2+i*5+k*1) 0) λq hq=>?_;rw[hq]at gj lj;have kf:=hD.J hf.st n3;have kg:0<=(q:Int) % ((S:Int)+2):=Int.emod_nonneg _ oa;refine Qf<|Qd<|Qm<|Qd<|Zz [] (YW 0 12 [])<|p Qv<|p Qv<|p (QG U)<|p (λ_=>Yj (i:=i) U U oa)<|p (λ_=>Yj (i:=k) U U h1)<|pq (λ_ Y=>Qk (kf.I Y) U gj) <|
  p (λ_=>Z6 (k':=.i64) U ⟨oa,oa⟩)<|p (QG U)<|pq (λ_ Y=>Qk (hf.B.I Y) U U)<|p (λ_=>XX U U ⟨oa,oa⟩) <|
  p (λ_=>JW (a:=(q:Int)) (b:=(S:Int)+2) U U oa oa)<|p ZG<|pe ?_
 have ha:=hf.I (O5.C [] V);refine Zf ((q:Int) % ((S:Int)+2)) λt ht=>?_;refine Qj<|Qo U ha.B U U<|Z5 U U<|xe<|ZH rfl (λkh=>?_) (λkh=>?_)
 ·refine Qf<|Qs<|Qa<|QH U U<|Qb<|⟨(k+1,vd,F),og,La,hk1,h1,ha,hg.skip hk1⟩
 have ki:=Qg ha.e;have kj:QL (I::ob vd) { V with drawn:=V.drawn+1 }.heap v al:=((hC.up (L':=I::ob vd) (λb G=>by
  rcases Lj.1 G with rfl|G
  ·exact .inl od
  exact .inr (ki b G).1)).J ha.st od)
 have kk:=QP ha.e hj;refine qZ (O5 (ob vd) { V with drawn:=V.drawn+1 }) [oE 0,oE 1,oE 2,oE 3,oE 4,oE 5,oE 6,oE 7,oE 8,oF 9,oF 10,oE 11,oF 12] mixed om oe (O5.C _ _) ?_
 refine p (QG U)<|pq (λ_ Y=>Qk (ha.B.J Y kk) U U)<|p Qv<|p Qv<|p Qv <|
  pic (i:=k) U kj U U hk1 λm3 kn=>pq (λ_ Y=>Qy (kn.J Y (λb G=>Lk _ G)) U)<|p Qv<|p (λ_=>Qx ⟨U,U,U,Z⟩) <|
  pk<|Za [QA ((i:Int),O6 al k,(q:Int) % ((S:Int)+2))] λm4 m5 ko m6 kq=>?_
 have h2:=(O5.C [] { V with drawn:=V.drawn+1 }).D ko
 have hm:=ha.I h2;refine⟨h2.any,?_⟩;refine pk<|Q2 (news:=QA ((i:Int),O6 al k,(q:Int) % ((S:Int)+2))) (L:=[]) hm.e U U U (kq.at od) (λy hy=>by simp only[QA,oL,oK,or_false]at hy;rcases hy with rfl|rfl|rfl <;> rfl) oa hm.st.size λhV kr kt h3 ku=>⟨(h2.any (L:=ob vd)).Q h3,?_⟩
 have hW:YP 159 ↑J kr hV (F++[((i:Int),O6 al k,(q:Int) % ((S:Int)+2))]):=YP.snoc kt;refine p (QG U)<|pkk<|Qu (hm.B.J h3 (QP hm.e hj)) U U od (YP.eds (L:=[]) hW (by simp;omega) od).one λm7 kv kw=>pe ?_;refine Qs<|Qa<|QH U U<|Qb<|⟨(k+1,hV,F++[((i:Int),O6 al k,(q:Int) % ((S:Int)+2))]),og,La,hk1,h1,(hm.setE hj h3 hW ku kv kw),hg.edge hk1 hi hz kg oa⟩
section
variable {pS:String}
theorem qF [Ag P t sz]{x:O3}{o:Nat}(h:QZ ↑w b T cs)(hx:ev f x=.pointer (some ⟨b,o,none⟩))(G:us.length=sz)(H:∀j u,us[j]?=some u->cs[o+j]?=some u):
  (execOp (ev f) ⟨d,.load t x,ty,pS,af,gd⟩).run P w=.ok (.value (sT us)) w:=by
 refine zU hx G λj u I=>?_;rw[JS,KG,h.cell];exact H j u I
end
theorem Qnw {o:Nat}:∀j u,(bys ((ns.drop o).take n))[j]?=some u->(bys ns)[o+j]?=some u:=by
 intro j u h;simp only[bys,List.getElem?_map,List.getElem?_take,List.getElem?_drop]at h ⊢;split at h
 ·exact h
 cases h
theorem Qnx (h:∀n∈ns,n<256)(o n:Nat):∀m∈(ns.drop o).take n,m<256:=λm G=>h m (Ma (LX G))
theorem Qe8 (m k:Nat):∀e∈setK m k,0<=e/\e<k:=by
 intro e G;simp only[setK,OA,OH,OB]at G;obtain⟨i,⟨hi,_⟩,rfl⟩:=G;omega
theorem Qfp (keep:Bool->Bool->Bool):∀(n:Nat) (a b:LI),a.length+b.length<=n->Xa a->Xa b->Xa (mrg keep a b):=by
 intro n;induction n with
 | zero =>
  intro a b h _ _;have S:a=[]:=Ls oa;have T:b=[]:=Ls oa;subst S T;rw[K6];exact List.Pairwise.nil
 | succ n ih =>
  intro a b V ia ib;by_cases h:a=[]/\b=[]
  ·obtain⟨rfl,rfl⟩:=h;rw[K6];exact List.Pairwise.nil
  have Y:=yZ h;have itl:∀(c:Bool) (l:LI),Xa l->Xa (tl c l):=λc l I=>by
   cases c
   ·exact I
   cases l with
   | nil=>exact I
   | cons y l=>exact I.tail
  have J:=ih (tl (JG a b) a) (tl (JG b a) b) oa (itl _ _ ia) (itl _ _ ib);rw[KE keep h];cases keep (JG a b) (JG b a)with
  | false=>simpa using J
  | true =>
   simp only[cond_true,Ow];refine L8.2 ⟨λx hx=>?_,J⟩;have H:=(z0 (itl _ _ ia) (itl _ _ ib) x).1 hx;cases a with
   | nil =>
    cases b with
    | nil=>exact OW ⟨U,U⟩ h
    | cons y b =>
     simp only[JG,tl,cond_true,cond_false,Oo,oK,false_or,Lg.hx,On]at H ⊢;exact ib.lt_of H.1
   | cons u a =>
    cases b with
    | nil =>
     simp only[JG,tl,cond_true,cond_false,Oo,oK,or_false,Lg.hx,On]at H ⊢;exact ia.lt_of H.1
    | cons y b =>
     rcases Int.lt_trichotomy u y with O|O|O
     ·have e1:decide (u<=y)=true:=OX oa;have e2:decide (y<=u)=false:=OZ oa;simp only[JG,tl,e1,e2,cond_true,cond_false,Oo,Lg.hx,On]at H ⊢;rcases H.1 with G|G
      ·exact ia.lt_of G
      rcases Lj.1 G with G|G
      ·omega
      have:=ib.lt_of G;omega
     ·have e1:decide (u<=y)=true:=OX oa;have e2:decide (y<=u)=true:=OX oa;simp only[JG,tl,e1,e2,cond_true,Oo,Lg.hx,On]at H ⊢;rcases H.1 with G|G
      ·have:=ia.lt_of G;omega
      have:=ib.lt_of G;omega
     have e1:decide (u<=y)=false:=OZ oa;have e2:decide (y<=u)=true:=OX oa;simp only[JG,tl,e1,e2,cond_true,cond_false,Oo,Lg.hx,On]at H ⊢;rcases H.1 with G|G
     ·rcases Lj.1 G with G|G
      ·omega
      have:=ia.lt_of G;omega
     exact ib.lt_of G
theorem QeS {J O S:O2}(h:ZM L ↑w va vm ve a)(T:ZM L' ↑w J O S a):
  QY sV 16 [.agg #[va,sS a.st,vm,ve],.agg #[J,sS a.st,O,S]] w λr w'=>r=.bool true/\sX w w':=by
 refine Zq func16 ?_;refine Qc<|Zl [va,sS a.st,vm,ve] λb2 w1 hi hl hj=>Zl [J,sS a.st,O,S] λb3 w2 hb hm G=>Qb ?_;have V:=hi.D hb;have H:=hj.I hb;refine Qc<|Qo U H U U<|Qo U G U U<|xb (QR U U) (λ_=>?_) (λh9=>OW U h9);refine Qa<|Qo U H U U<|Qo U G U U<|Qz<|(JQ (h.al.I V) (T.al.I V)).Y ?_;rintro r3 w3 ⟨hc,I⟩;rw[OX rfl]at hc;subst hc;have Y:=V.D I;refine x (qE U) <|
  Qa<|Qo rfl (H.I I) U U<|QQ U<|x (Qk (G.I I) U U) <|
  Qz<|(JQ (h.mr.I Y) (T.mr.I Y)).Y ?_
 rintro r4 w4 ⟨he,hf⟩;rw[OX rfl]at he;subst he;have ha:=Y.D hf;have hg:=I.D hf;refine QC rfl<|Qa<|QQ U<|x (Qk (H.I hg) U U) <|
  Qo rfl (G.I hg) U U<|Qz<|(QaG (h.ed.I ha) (T.ed.I ha)).Y ?_
 rintro r5 w5 ⟨hh,hk⟩;rw[OX rfl]at hh;subst hh;refine QC rfl<|Qb<|Qh ⟨[.bool true],La,U,ha.D hk⟩
section
variable {pS:String}
end
section
variable {w4 w'':O1}{m q:Bool}{vd:O2}{E D:LI}
end
section
variable {pS:String}
end
def grid (g:Nat->Int->Option Ed)(vs:LI)(n:Nat):List Ed:=(oS 0 n).flatMap λj=>vs.filterMap (g j)
theorem qQ (g:Nat->Int->Option Ed)(vs:LI)(n:Nat):grid g vs (n+1)=grid g vs n++vs.filterMap (g n):=by
 unfold grid;rw[MB,LA];simp
theorem Qc5 (l m:List Ed)(s v:Int):xj (l++m) s v=match xj l s v with|some u=>some u|none=>xj m s v:=by
 induction l with
 | nil=>rfl
 | cons e l ih =>
  rw[Mw,xj,xj];split
  ·rfl
  exact ih
def jA (g:Nat->Int->Option Ed):Prop:=∀j v e,g j v=some e->e.1=(j:Int)/\e.2.1=v
theorem Qc3 {g:Nat->Int->Option Ed}(G:jA g)(j:Nat)(v:Int):∀(vs:LI),xj (vs.filterMap (g j)) j v=if v∈vs then(g j v).map (·.2.2)else none
 | []=>by simp[xj]
 | u::vs=>by
  have ih:=Qc3 G j v vs;rw[MA];cases E:g j u with
  | none =>
   simp only[];rw[ih];by_cases e:v=u
   ·subst e;simp[E]
   simp[e]
  | some e =>
   have H:=G j u e E;simp only[];rw[xj];by_cases e2:u=v
   ·subst e2;rw[OU H,OU Lq,E];rfl
   rw[OT (λh=>e2 (H.2.symm.D h.2)),ih];simp[Ne.symm e2]
theorem Qc2 {g:Nat->Int->Option Ed}(E:jA g)(h:j≠i)(v:Int)(vs:LI):xj (vs.filterMap (g j)) i v=none:=by
 refine QaH λe G I=>?_;obtain⟨u,_,H⟩:=MZ.1 G;have:=E j u e H;omega
theorem Qhp {g:Nat->Int->Option Ed}(E:jA g)(vs:LI)(j:Nat)(v:Int):∀n,xj (grid g vs n) j v=if j<n/\v∈vs then(g j v).map (·.2.2)else none
 | 0=>by simp[grid,xj]
 | n+1=>by
  rw[qQ,Qc5,Qhp E vs j v n];by_cases e:j=n
  ·subst e;rw[OT oa,Qc3 E];simp
  rw[Qc2 E (Ne.symm e)];by_cases h:j<n/\v∈vs
  ·rw[OU h,OU ⟨oa,h.2⟩];cases(g j v).map (·.2.2) <;> rfl
  rw[OT h,OT (λG=>h ⟨oa,G.2⟩)]
theorem QcT {g:Nat->Int->Option Ed}{vs:LI}{e:Ed}(h:e∈grid g vs n):∃j v,j<n/\v∈vs/\g j v=some e:=by
 unfold grid at h;obtain⟨j,E,G⟩:=Me.1 h;obtain⟨v,H,I⟩:=MZ.1 G;rw[MD]at E;exact⟨j,v,oa,H,I⟩
theorem QfI {g:Nat->Int->Option Ed}(E:jA g){vs:LI}(hi:Xa vs):∀n,(grid g vs n).Pairwise λx y:Ed=>x.1<y.1\/(x.1=y.1/\x.2.1<y.2.1)
 | 0=>by simp[grid]
 | n+1=>by
  rw[qQ,MH];refine⟨QfI E hi n,JC (r:=(·<·)) (λx y u v V I J=>?_) hi,λe O S T=>?_⟩
  ·have G:=E n x u I;have H:=E n y v J;right;omega
  obtain⟨j,v,Y,_,G⟩:=QcT O;obtain⟨v',_,H⟩:=MZ.1 T;have h3:=E j v e G;have h4:=E n v' S H;left;omega
theorem QqR (l:List Q6):∀(acc:LI),(∀a∈l,Xa a.al)->Xa acc->Xa (l.foldl (λacc a=>mrg (· || ·) acc a.al) acc)/\∀x,x∈l.foldl (λacc a=>mrg (· || ·) acc a.al) acc↔x∈acc\/∃a∈l,x∈a.al:=by
 induction l with
 | nil=>intro acc _ h;exact⟨h,λx=>od⟩
 | cons a l ih =>
  intro acc G h;have H:=G a Lq;obtain⟨I,J⟩:=ih (mrg (· || ·) acc a.al) (λb O=>G b (Lk _ O)) (Qfp _ _ _ _ (Lx _) h H);rw[L5];refine⟨I,λx=>?_⟩;rw[J x,z0 h H];simp only[oL,exists_eq_or_imp];constructor
  ·rintro(⟨E|E,_⟩|E)
   ·exact .inl E
   ·exact .inr (.inl E)
   exact .inr (.inr E)
  rintro(E|E|E)
  ·exact .inl ⟨.inl E,by simp[E]⟩
  ·exact .inl ⟨.inr E,by simp[E]⟩
  exact .inr E
theorem QfQ {l:List Q6}(h:∀a∈l,ZK a):Xa (evs l):=(QqR l [] (λa E=>(h a E).ali) od).1
theorem QfP {l:List Q6}(h:∀a∈l,ZK a)(x:Int):x∈evs l↔∃a∈l,x∈a.al:=by
 have:=(QqR l [] (λa E=>(h a E).ali) od).2 x;unfold evs;rw[this];simp
def syF (aa:List Q6)(tup:List (LI))(j:Nat)(v:Int):Option Ed:=(Y6 v aa (tup.getD j [])).map λu=>((j:Int),v,(tup.idxOf u:Int))
theorem Qon (aa:List Q6)(tup:List (LI)):jA (syF aa tup):=by
 intro j v e h;unfold syF at h;obtain⟨u,_,rfl⟩:=Ms.1 h;exact⟨U,U⟩
theorem QcX {α β:Type}{f g:α->Option β}:∀{l:List α},(∀x∈l,f x=g x)->l.filterMap f=l.filterMap g
 | [],_=>rfl
 | x::l,h=>by rw[MA,MA,h x Lq,QcX (λy E=>h y (Lk _ E))]
theorem QjR {f:α->Option β}{v:α}{e:β}(h:f v=some e):[v].filterMap f=[e]:=by rw[MA,h];rfl
theorem QmS {f:α->Option β}{v:α}(h:f v=none):[v].filterMap f=[]:=by rw[MA,h];rfl
theorem Qii {tup:List (LI)}{v:Int}(h:Y6 v aa (tup.getD j [])=none):syF aa tup j v=none:=by unfold syF;rw[h];rfl
theorem Qcd {tup:List (LI)}{v:Int}(h:Y6 v aa (tup.getD j [])=some u):syF aa tup j v=some ((j:Int),v,(tup.idxOf u:Int)):=by unfold syF;rw[h];rfl
def Clo (aa:List Q6)(tup:List (LI))(j:Nat)(vs:LI):Prop:=∀v∈vs,∀u,Y6 v aa (tup.getD j [])=some u->u∈tup
theorem VJ {tup r:List (LI)}(h:j<tup.length):(tup++r).getD j []=tup.getD j []:=by simp[oR,List.getElem?_append_left h]
theorem QeZ {tup r:List (LI)}{vs:LI}(E:j<tup.length)(G:Clo aa tup j vs):vs.filterMap (syF aa (tup++r) j)=vs.filterMap (syF aa tup j):=by
 refine QcX λv H=>?_;unfold syF;rw[VJ E];cases I:Y6 v aa (tup.getD j [])with
 | none=>rfl
 | some u =>
  simp only[Oz,Option.some.injEq,Prod.mk.injEq,true_and];rw[MC,OU (G v H u I)]
theorem Clo.pre {tup r:List (LI)}{vs:LI}(G:j<tup.length)(H:Clo aa tup j vs):Clo aa (tup++r) j vs:=by
 intro v I u E;rw[VJ G]at E;exact Mf _ (H v I u E)
theorem yO {l:List α}{u:α}(h:l.Nodup)(G:u∉l):(l++[u]).Nodup:=by
 rw[ME];exact⟨h,od,λa H b E=>by simp only[oJ]at E;subst E;exact λe=>G (by rw[<-e];exact H)⟩
theorem j4 {aa:List Q6}{i:Nat}:∀(vs:LI) (s I:Sy),i<s.tup.length->s.tup.Nodup->yo aa i (jZ s i) vs s=some I ->
  ∃r,I.tup=s.tup++r/\I.mk'=s.mk'/\I.ed=s.ed++vs.filterMap (syF aa I.tup i)/\Clo aa I.tup i vs/\I.tup.Nodup
 | [],s,I,_,hd,e=>by cases e;exact⟨[],od,rfl,od,λv hv=>(by cases hv),hd⟩
 | v::vs,s,I,hi,hd,e=>by
  rw[yo]at e;obtain⟨J,E,Y⟩:=MO.1 e;have key:∃T,J.tup=s.tup++T/\J.mk'=s.mk'/\J.ed=s.ed++[v].filterMap (syF aa J.tup i)/\Clo aa J.tup i [v]/\J.tup.Nodup:=by
   unfold syE at E;have eT:jZ s i=s.tup.getD i []:=rfl;rw[eT]at E;cases O:Y6 v aa (s.tup.getD i [])with
   | none =>
    rw[O]at E;cases E
    refine⟨[],od,rfl,by rw[QmS (Qii O),Oy],λv' G u H=>?_,hd⟩;simp only[oJ]at G;subst G;rw[O]at H;cases H
   | some u =>
    rw[O]at E;simp only[]at E;by_cases H:u∈s.tup
    ·rw[OU H]at E;cases E
     refine⟨[],od,rfl,by rw[QjR (Qcd O)],λv' G u' S=>?_,hd⟩;simp only[oJ]at G;subst G;simp only[]at S ⊢;rw[O]at S;cases S;exact H
    rw[OT H]at E;split at E
    ·cases E
    cases E
    have e2:(s.tup++[u]).getD i []=s.tup.getD i []:=VJ hi;have e3:(s.tup++[u]).idxOf u=s.tup.length:=by rw[MC,OT H];simp
    refine⟨[u],U,U,?_,λv' G u' S=>?_,yO hd H⟩
    ·rw[QjR (Qcd (tup:=s.tup++[u]) (u:=u) (by rw[e2];exact O)),e3]
    simp only[oJ]at G;subst G;rw[e2,O]at S;cases S;simp
  obtain⟨T,k1,k2,k3,k4,k5⟩:=key;have V:i<J.tup.length:=by rw[k1];simp;omega
  have eT:jZ J i=jZ s i:=by unfold jZ;rw[k1];exact VJ hi
  rw[<-eT]at Y;obtain⟨r2,g1,g2,g3,g4,g5⟩:=j4 vs J I V k5 Y;refine⟨T++r2,by rw[g1,k1,LC],g2.D k2,?_,?_,g5⟩
  ·rw[g3,k3,LC];congr 1;rw[show v::vs=[v]++vs from rfl,List.filterMap_append];congr 1;rw[g1];exact(QeZ V k4).symm
  intro v' G u H;rcases Lj.1 G with rfl|G
  ·have:=k4.pre (r:=r2) V;rw[<-g1]at this;exact this v' Lq u H
  exact g4 v' G u H
structure SyG (aa:List Q6)(i:Nat)(s:Sy):Prop where
 nd:s.tup.Nodup
 le:i<=s.tup.length
 hd:s.tup.getD 0 []=oO aa.length 0/\0<s.tup.length
 mk2:s.mk'=((oS 0 i).filter λj=>JZ aa (s.tup.getD j [])).map λj:Nat=>(j:Int)
 ed:s.ed=grid (syF aa s.tup) (evs aa) i
 cl:∀j,j<i->Clo aa s.tup j (evs aa)
theorem J1 {α β:Type}{f g:α->List β}:∀{l:List α},(∀x∈l,f x=g x)->l.flatMap f=l.flatMap g
 | [],_=>rfl
 | x::l,h=>by rw[LM,LM,h x Lq,J1 (λy E=>h y (Lk _ E))]
theorem SyG.next {s E:Sy}(h:SyG aa i s)(hi:i<s.tup.length)(e:yo aa i (jZ s i) (evs aa) (Yn aa i (jZ s i) s)=some E):SyG aa (i+1) E:=by
 have H:(Yn aa i (jZ s i) s).tup=s.tup:=by unfold Yn;split <;> rfl
 have T:(Yn aa i (jZ s i) s).ed=s.ed:=by unfold Yn;split <;> rfl
 have O:jZ (Yn aa i (jZ s i) s) i=jZ s i:=by show(Yn aa i (jZ s i) s).tup.getD i []=s.tup.getD i [];rw[H]
 rw[<-O]at e;obtain⟨r,g1,V,S,Y,g5⟩:=j4 (evs aa) _ E (by rw[H];exact hi) (by rw[H];exact h.nd) (by rw[O]at e ⊢;exact e);rw[H]at g1;rw[T]at S;have pre:∀j,j<=i->E.tup.getD j []=s.tup.getD j []:=λj G=>by rw[g1];exact VJ oa
 refine⟨g5,by rw[g1];simp;omega,⟨by rw[pre 0 oa];exact h.hd.1,by rw[g1];simp;omega⟩,?_,?_,λj G=>?_⟩
 ·rw[V,MB,L4,Lr,LT];have e1:((oS 0 i).filter λj=>JZ aa (E.tup.getD j []))=(oS 0 i).filter λj=>JZ aa (s.tup.getD j []):=by
   refine List.filter_congr λj G=>?_;rw[MD]at G;rw[pre j oa]
  rw[e1];unfold Yn;by_cases I:JZ aa (jZ s i)=true
  ·rw[OU I];have J:JZ aa (E.tup.getD i [])=true:=by rw[pre i (Lx _)];exact I
   simp only[List.filter_cons,J,if_true,List.filter_nil,oY,OL];rw[h.mk2]
  rw[OT I];have J:JZ aa (E.tup.getD i [])=false:=by rw[pre i (Lx _)];exact eq_false_of_ne_true I
  rw[Md,OT (by rw[J];simp),Nm,h.mk2];simp
 ·rw[S,qQ,h.ed];congr 1;unfold grid;refine J1 λj G=>?_;rw[MD]at G;rw[g1];exact(QeZ oa (h.cl j oa)).symm
 by_cases e2:j=i
 ·subst e2;exact Y
 have:=(h.cl j oa).pre (r:=r) oa;rw[<-g1]at this;exact this
theorem Qcc {aa:List Q6}:∀(f i:Nat) (s E:Sy),SyG aa i s->syL aa f i s=some E->∃G,SyG aa G E/\(E.tup.length=G\/G=i+f)
 | 0,i,s,E,h,e=>by cases e;exact⟨i,h,.inr U⟩
 | f+1,i,s,E,h,e=>by
  rw[syL]at e;split at e
  ·rename_i hi;obtain⟨H,I,J⟩:=MO.1 e;obtain⟨G,O,S⟩:=Qcc f (i+1) H E (h.next hi I) J;exact⟨G,O,oa⟩
  cases e;exact⟨i,h,.inl (ov h.le)⟩
structure SyP (aa:List Q6)(A:Q6)(Q:List (LI)):Prop where
 al:A.al=evs aa
 st:A.st=(Q.length:Int)
 nd:Q.Nodup
 v:∀t∈Q,Vt aa t
 le:Q.length<=4096
 hd:0<Q.length->Q.getD 0 []=oO aa.length 0
 mk2:A.mr=((oS 0 Q.length).filter λj=>JZ aa (Q.getD j [])).map λj:Nat=>(j:Int)
 ed:A.ed=grid (syF aa Q) (evs aa) Q.length
 cl:∀j,j<Q.length->Clo aa Q j (evs aa)
theorem JL (J:∀a∈aa,ZK a){A:Q6}{Q:List (LI)}(h:xo aa=some (A,Q)):SyP aa A Q/\(Q.length=0↔∃a∈aa,a.st=0):=by
 have G:=zS J h;unfold xo at h;split at h
 ·rename_i H;cases h
  exact⟨⟨U,U,od,od,od,λh=>by simp at h,od,by simp[grid],λj I=>by simp at I⟩,oA H⟩
 rename_i H;obtain⟨s,O,S⟩:=Ms.1 h;have T:SyG aa 0 (j5 aa):=⟨by simp[j5],od,⟨by simp[j5],by simp[j5]⟩,by simp[j5],by simp[j5,grid],λj I=>oa⟩;obtain⟨V,E,h4⟩:=Qcc 4096 0 (j5 aa) s T O;cases S
 have Y:V=s.tup.length:=by
  have h5:=E.le;have h6:=G.2;simp only[]at h6;omega
 subst Y;refine⟨⟨rfl,U,E.nd,G.1,G.2,λ_=>E.hd.1,E.mk2,E.ed,E.cl⟩,?_⟩;have:=E.hd.2;constructor
 ·intro h;have h7:s.tup.length=0:=h;omega
 intro h;exact OW h H
theorem SyP.to {A:Q6}{Q:List (LI)}(h:SyP aa A Q)(G:j<Q.length){v:Int}(H:v∈evs aa)(I:Y6 v aa (Q.getD j [])=some u):Q.idxOf u<Q.length/\Q.getD (Q.idxOf u) []=u:=by
 have E:=MJ (h.cl j G v H u I);refine⟨E,?_⟩;simp[oR,E]
theorem SyP.okay (G:∀a∈aa,ZK a){A:Q6}{Q:List (LI)}(h:SyP aa A Q):ZK A:=by
 have V:=h.le;refine⟨λe E=>?_,by rw[h.al];exact QfQ G,by rw[h.st];omega,by rw[h.st];omega,λs H=>?_,?_,λe E=>?_,by rw[h.ed];exact QfI (Qon aa Q) (QfQ G) _⟩
 ·rw[h.al]at E;obtain⟨a,O,hx⟩:=(QfP G e).1 E;exact(G a O).al e hx
 ·rw[h.mk2]at H;simp only[OA,OH,OB]at H;obtain⟨i,⟨hi,_⟩,rfl⟩:=H;rw[h.st];omega
 ·rw[h.mk2];unfold Xa;rw[MQ];refine List.Pairwise.sublist M0 ?_;exact(Nj (s:=0) (n:=Q.length)).imp (λh=>oa)
 rw[h.ed]at E;obtain⟨j,v,S,I,J⟩:=QcT E;unfold syF at J;obtain⟨u,T,rfl⟩:=Ms.1 J;have:=(h.to S I T).1;rw[h.st,h.al];exact⟨og,og,I,og,og⟩
open Go.RowKit
instance:LawfulBEq ByteArray where
 eq_of_beq h:=(MapKept.bytes_beq _ _).1 h;rfl:=(MapKept.bytes_beq _ _).2 U
def chr (s:ByteArray)(i:Nat):Nat:=(s.get! i).toNat
theorem QpG {s:ByteArray}(h:i<s.size):(s[i]'h).toNat=chr s i:=by
 unfold chr;obtain⟨d⟩:=s;have hd:i<d.size:=h;simp[ByteArray.get!,hd,ByteArray.getElem_eq_getElem_data]
theorem QhG {a b:ByteArray}(h:a.data.toList=b.data.toList):a=b:=by
 obtain⟨⟨x⟩⟩:=a;obtain⟨⟨y⟩⟩:=b;have E:x=y:=h;rw[E]
theorem bytes_beq (a b:ByteArray):(a.toList == b.toList)=decide (a=b):=by
 rw[ByteArray.toList_eq,ByteArray.toList_eq];by_cases h:a=b
 ·subst h;simp
 rw[OZ h];have:a.data.toList≠b.data.toList:=λe=>h (QhG e);simpa using this
section
variable {pS:String}{t':Nat}{x:O3}
theorem QiN [h:St P t]{s:ByteArray}{k:IntKind}(hx:ev f x=.string s)(G:ev f y=.int k i)(hi:i<s.size):
  (execOp (ev f) ⟨d,.index t x y,ty,pS,af,gd⟩).run P w=.ok (.value (.int .u8 (chr s i))) w:=by
 have E:=run_index_string (P:=P) w t s k i h.u;rw[dif_pos ⟨oa,oa⟩]at E;have e:(s[(i:Int).toNat]'(oA hi)).toNat=chr s i:=QpG hi;simp only[execOp,hx,G,Sem.run_bind,E,Result.andThen_ok,Sem.run_pure,e]
theorem Qd7 [h:St P t]{s:ByteArray}(hx:ev f x=.string s):
  (execOp (ev f) ⟨d,.call ⟨.builtin .len,#[x],#[t]⟩,ty,pS,af,gd⟩).run P w=.ok (.value (sS s.size)) w:=QiM h.u hx
theorem XW {a b:ByteArray}(hx:ev f x=.string a)(E:ev f y=.string b):
  (execOp (ev f) ⟨d,.binOp .eql t x y t',ty,pS,af,gd⟩).run P w=.ok (.value (.bool (decide (a=b)))) w:=by
 have G:(eqGuard .eql t x y (.string a) (.string b)).run P w=.ok () w:=by simp[eqGuard]
 simp only[execOp,hx,E,Sem.run_bind,G,Result.andThen_ok,binOp_string_eql,Sem.run_pure,bytes_beq]
theorem YT {a b:ByteArray}(hx:ev f x=.string a)(E:ev f y=.string b)(J:a.size+b.size<=1000000000):
  (execOp (ev f) ⟨d,.binOp .add t x y t',ty,pS,af,gd⟩).run P w=.ok (.value (.string (a++b))) w:=by
 have G:(eqGuard .add t x y (.string a) (.string b)).run P w=.ok () w:=by simp[eqGuard]
 have I:¬(((a.size+b.size:Nat):Int) > IntKind.i64.max):=by
  rw[show IntKind.i64.max=9223372036854775807 from rfl];omega
 simp only[execOp,hx,E,Sem.run_bind,G,Result.andThen_ok,binOp_string_add,Op.stringOp,OT I,Sem.run_pure]
theorem Ql9 {a:Nat}(hx:ev f x=.int .u16 a)(E:ev f y=.int .u16 b)(G:a<65536)(I:b<65536):
  (execOp (ev f) ⟨d,.binOp .and t x y t',ty,pS,af,gd⟩).run P w=.ok (.value (.int .u16 ((a &&& b:Nat):Int))) w:=by
 refine Jy hx E ?_;have hi:inK .u16 ((a &&& b:Nat):Int):=by
  have:a &&& b<=a:=Nat.and_le_left;exact⟨oa,oa⟩
 simp only[binOp,Op.intBits,BitVec.ofInt_natCast,ne_eq,not_true_eq_false,if_false,Sem.run_pure];rw[BitVec.toNat_and,BitVec.toNat_ofNat,BitVec.toNat_ofNat,Nb (show a<2 ^ IntKind.u16.bits from G),Nb (show b<2 ^ IntKind.u16.bits from I),YR hi]
theorem Qfg {a:Nat}(E:a<65536)(G:b<65536):a ||| b<65536:=Nat.or_lt_two_pow (n:=16) E G
theorem Qd6 {a:Nat}(hx:ev f x=.int .u16 a)(I:ev f y=.int .u16 b)(E:a<65536)(G:b<65536):
  (execOp (ev f) ⟨d,.binOp .or t x y t',ty,pS,af,gd⟩).run P w=.ok (.value (.int .u16 ((a ||| b:Nat):Int))) w:=by
 refine Jy hx I ?_;have hi:inK .u16 ((a ||| b:Nat):Int):=by
  have:=Qfg E G;exact⟨oa,oa⟩
 simp only[binOp,Op.intBits,BitVec.ofInt_natCast,ne_eq,not_true_eq_false,if_false,Sem.run_pure];rw[BitVec.toNat_or,BitVec.toNat_ofNat,BitVec.toNat_ofNat,Nb (show a<2 ^ IntKind.u16.bits from E),Nb (show b<2 ^ IntKind.u16.bits from G),YR hi]
theorem QiI {k:IntKind}{a:Int}(hx:ev f x=.int k a)(E:ev f y=.int k' n)(G:n<=k.bits)(hi:inK k (a*2 ^ n)):
  (execOp (ev f) ⟨d,.binOp .shl t x y t',ty,pS,af,gd⟩).run P w=.ok (.value (.int k (a*2 ^ n))) w:=by
 refine Jy hx E ?_;have I:¬((n:Int)<0):=oa
 simp only[binOp,Op.shift,I,if_false,Ou,Nat.min_eq_left G,Sem.run_pure];rw[YR hi]
end
section
variable {P:O4}{ops:xD}{K:xx}{f:Fr}{w:O1}{d:xE}{ty:Nat}{pS:String}{af:xC}{gd:xq}{l:xD}
 {t e sz bys:Nat} {z:O2} {x y1 y2:O3} {L:LN} {v:O2} {n:Nat} {cs:LV} {H:xA} {k k':IntKind} {hi:Nat}
theorem QiH [h:Sl P t e sz bys z](G:Zn L H v n sz cs)(hx:ev f x=v)(I:ev f y1=.int k hi)(J:ev f y2=.int k' hi)(V:hi<=n):
  ∃v',Zn L H v' hi sz (cs.take (hi*sz))/\∀w,(execOp (ev f) ⟨d,.slice t x none (some y1) (some y2),ty,pS,af,gd⟩).run P w=.ok (.value v') w:=by
 obtain⟨ii,O,_,Y,_⟩:=Sl.info h;rcases G.2.2 with⟨rfl,rfl⟩|⟨a,cap,rfl,hc,S⟩
 ·have T:hi=0:=oa
  subst T;refine⟨nS,?_,λw=>?_⟩
  ·rw[OP,List.take_zero];exact Zn.nil _ _ _
  simp[execOp,hx,I,J,Instr.sliceAt,Instr.slice,Instr.sliceBounds,Instr.sliceBound,asIntOf,run_underlying h.u,sizeOf,typeInfo,O]
 refine⟨.slice (some a) hi hi,⟨?_,ov G.2.1,.inr ⟨a,hi,U,Lx _,λu E=>S.out u (LX E),λu E=>S.lt u (LX E),λj u E=>?_⟩⟩,λw=>?_⟩
 ·rw[LB,G.1,Mk (L3 _ V)]
 ·rw[LW]at E;split at E
  ·exact S.cell j u E
  cases E
 by_cases T:hi=0
 ·subst T;simp[execOp,hx,I,J,Instr.sliceAt,Instr.slice,Instr.sliceBounds,Instr.sliceBound,asIntOf,run_underlying h.u,sizeOf,typeInfo,O]
 simp[execOp,hx,I,J,Instr.sliceAt,Instr.slice,Instr.sliceBounds,Instr.sliceBound,asIntOf,run_underlying h.u,sizeOf,typeInfo,O,Addr.add];intro h9;omega
end
section
variable {l:xD}{C:xz}{pl:xt}
theorem xB {b:Bool}(E:(execOp (ev f) o).run P w=.ok (.value (.bool b)) w)(J:b=true->XL P ops K l (QN f o.dst (.bool true)) w)(O:b=false->XL P ops K l (QN f o.dst (.bool false)) w)
  (I:Z9 ops f o=true:=by rfl):XL P ops K (o::l) f w:=by
 cases G:b with
 | true=>rw[G]at E;exact x E (J G) I
 | false=>rw[G]at E;exact x E (O G) I
theorem pB {b:Bool}(E:∀w',(execOp (ev f) (QS ops i)).run P w'=.ok (.value (.bool b)) w')(J:b=true->XP P ops C K pl (QN f (QS ops i).dst (.bool true)) w)(O:b=false->XP P ops C K pl (QN f (QS ops i).dst (.bool false)) w)
  (I:Z9 ops f (QS ops i)=true:=by rfl):XP P ops C K ((i,true)::pl) f w:=by
 cases G:b with
 | true=>rw[G]at E;exact p E (J G) I
 | false=>rw[G]at E;exact p E (O G) I
theorem Qj7 {G:Prop}(b:Bool)(E:b=true->G)(I:b=false->G):G:=by cases h:b with|true=>exact E h|false=>exact I h
theorem bT {q:Prop}[Decidable q](h:q):true=decide q:=(OX h).symm
theorem bF {q:Prop}[Decidable q](h:¬q):false=decide q:=(OZ h).symm
theorem bD {q r:Prop}[Decidable q][Decidable r](h:q↔r):decide q=decide r:=decide_eq_decide.2 h
end
section
variable {pS:String}{x:O3}
theorem yF {q:Prop}[Decidable q](hx:ev f x=.bool (decide q)):(execOp (ev f) ⟨d,.unOp .not t x,ty,pS,af,gd⟩).run P w=.ok (.value (.bool (decide (¬q)))) w:=by
 rw[Zy hx];simp
end
structure Kq where
 nm:ByteArray
 co:Bool
 ob:Bool
 fo:Bool
 fl:Int
structure XD where
 nm:ByteArray
 a:Q6
structure qv where
 nm:ByteArray
 ls:xw
structure xK where
 nm:ByteArray
 ts:xw
 bd:Int
structure ZF where
 ev:List Kq
 co:List XD
 rq:List XD
 ex:List qv
 cs:List xK
def Vo (n:Nat):LI:=(oV n).map λi:Nat=>(i:Int)
def nmP (i c:Nat):Prop:=((97<=c/\c<=122)\/(65<=c/\c<=90)\/c=95)\/(i≠0/\48<=c/\c<=57)
instance (i c:Nat):Decidable (nmP i c):=by unfold nmP;infer_instance
def nmQ (s:ByteArray)(i:Nat):Bool:=decide (nmP i (chr s i))
def Xj (s:ByteArray):Bool:=(oS 0 s.size).all (nmQ s) && decide (0<s.size/\s.size<=32)
def JA (seen:List ByteArray)(e:Kq):Int:=if Xj e.nm=false then 7 else if e.nm∈seen then 8 else if e.fl<0\/4<e.fl then 2 else if e.fl≠0/\(e.co || e.ob)=true then 13 else 0
def zn:List ByteArray->List Kq->Int
 | _,[]=>0
 | seen,e::l=>if JA seen e≠0 then JA seen e else zn (seen++[e.nm]) l
def Kv (l:List Kq):Int:=if 32<l.length then 3 else zn [] l
def ixs {α:Type}(q:α->Bool):Nat->List α->LI
 | _,[]=>[]
 | i,e::l=>if q e=true then(i:Int)::ixs q (i+1) l else ixs q (i+1) l
def unc (l:List Kq):LI:=ixs (λe=>!e.co) 0 l
def X6 (sz:LI):Option Int->List (Int×Int)->Int
 | _,[]=>0
 | pr,l::ls=>if l.1<0\/(sz.length:Int)<=l.1 then 2 else if jL pr l.1=true then 5 else if l.2<0\/O6 sz l.1.toNat<=l.2 then 2 else X6 sz (some l.1) ls
def Jr (sz:LI)(ls:xw):Int:=if ls.length=0 then 12 else X6 sz none ls
def grt (n:Int):Bool:=decide (n < -65536) || decide (65536<n)
def Kn (sz:LI):Option Int->List (Int×Int)->Int
 | _,[]=>0
 | pr,l::ls=>if l.1<0\/(sz.length:Int)<=l.1 then 2 else if jL pr l.1=true then 5 else if l.2=0\/grt l.2=true then 2 else Kn sz (some l.1) ls
def XN (sz:LI)(k:xK):Int:=if k.ts.length=0 then 12 else if Kn sz none k.ts≠0 then Kn sz none k.ts else if grt k.bd=true then 2 else 0
def Ku (seen:List ByteArray)(s:ByteArray):Int:=if Xj s=false then 7 else if s∈seen then 8 else 0
def Yz (sz:LI):List ByteArray->List qv->Int
 | _,[]=>0
 | seen,x::l=>if Ku seen x.nm≠0 then Ku seen x.nm else if Jr sz x.ls≠0 then Jr sz x.ls else Yz sz (seen++[x.nm]) l
def Xg (sz:LI):List ByteArray->List xK->Int
 | _,[]=>0
 | seen,x::l=>if Ku seen x.nm≠0 then Ku seen x.nm else if XN sz x≠0 then XN sz x else Xg sz (seen++[x.nm]) l
def KQ (n:Int):Bool:=decide (n<1) || decide (4096<n)
def YG (sz:LI)(ex:List qv)(cs:List xK):Int:=if 8<sz.length then 3 else if sz.any KQ=true then 2 else if 32<ex.length\/32<cs.length then 3 else if Yz sz [] ex≠0 then Yz sz [] ex else Xg sz [] cs
def mns (a b:LI):LI:=mrg (λp q=>p && !q) a b
def VH (a:Q6):Bool:=decide (JB a=0) && decide ((Yk a).st=a.st/\(Yk a).al=a.al/\(Yk a).mr=a.mr/\(Yk a).ed=a.ed)
def Yy (nev:Nat)(amg:LI)(seen:List ByteArray)(x:XD):Int :=
 if Xj x.nm=false then 7 else if x.nm∈seen then 8 else if JB x.a≠0 then JB x.a else if VH x.a=false then 6 else if x.a.st=0 then 12 else
 if(x.a.al.any λe=>decide ((nev:Int)<=e))=true then 2 else if(mns x.a.al amg).length≠0 then 9 else 0
def YE (nev:Nat)(al:LI):List ByteArray->LI->List XD->Int×List ByteArray×LI
 | s,u,[]=>(0,s,u)
 | s,u,x::l=>if Yy nev al s x≠0 then(Yy nev al s x,s,u)else YE nev al (s++[x.nm]) (mrg (· || ·) u x.a.al) l
def J3 (nev:Nat)(u:LI):List ByteArray->List XD->Int
 | _,[]=>0
 | s,x::l=>if Yy nev u s x≠0 then Yy nev u s x else J3 nev u (s++[x.nm]) l
def szs (l:List XD):LI:=l.map (·.a.st)
def O7 (l:List XD):List Q6:=l.map (·.a)
def Zj (c:ZF):Int :=
 if Kv c.ev≠0 then Kv c.ev else if c.co.length=0 then 12 else if 8<c.co.length\/12<c.co.length+c.rq.length then 3 else
 if(YE c.ev.length (Vo c.ev.length) [] [] c.co).1≠0 then(YE c.ev.length (Vo c.ev.length) [] [] c.co).1 else
 if J3 c.ev.length (YE c.ev.length (Vo c.ev.length) [] [] c.co).2.2 (YE c.ev.length (Vo c.ev.length) [] [] c.co).2.1 c.rq≠0 then J3 c.ev.length (YE c.ev.length (Vo c.ev.length) [] [] c.co).2.2 (YE c.ev.length (Vo c.ev.length) [] [] c.co).2.1 c.rq else
 YG (szs c.co) c.ex c.cs
def Uq (t:LI)(x:qv):Bool:=x.ls.all λl=>decide (t.getD l.1.toNat 0=l.2)
def Qqk (t:LI)(k:xK):Int:=k.ts.foldl (λs p=>s+p.2*t.getD p.1.toNat 0) 0
def qz (t:LI)(k:xK):Bool:=decide (k.bd<Qqk t k)
def fix {α:Type}(q:α->Bool):Nat->List α->Int
 | _,[]=>-1
 | i,e::l=>if q e=true then(i:Int)else fix q (i+1) l
def vio (c:ZF)(t:LI):Option (Int×Int):=
 if 0<=fix (Uq t) 0 c.ex then some (1,fix (Uq t) 0 c.ex)else if 0<=fix (qz t) 0 c.cs then some (2,fix (qz t) 0 c.cs)else none
def rfr (v:Int):Nat->List XD->LI->Int
 | i,x::l,s::ss=>if v∈x.a.al/\(xj x.a.ed s v).isSome=false then(i:Int)else rfr v (i+1) l ss
 | _,_,_=>-1
structure Rsn where
 st:Int
 kd:Int
 ix:Int
 ev:Int
def rfd (c:ZF)(rs:LI):LI->Option (Int×Int)
 | []=>none
 | v::l=>if 0<=rfr v 0 c.rq rs/\(c.ev.getD v.toNat ⟨.empty,false,false,false,0⟩).co=false then some (rfr v 0 c.rq rs,v)else rfd c rs l
def Qhl (a:Q6)(s:Int):LI:=(Z7 a.ed s).map (·.2.1)
def rsn (c:ZF)(pl:Q6)(plc:Int)(i:Nat)(t:LI):Option Rsn :=
 match vio c (t.take c.co.length)with
 | some (k,j)=>some ⟨i,k,j,-1⟩
 | none=>match rfd c (t.drop c.co.length) (Qhl pl plc)with
  | some (j,v)=>some ⟨i,3,j,v⟩
  | none=>none
structure Spc where
 a:Q6
 co:List (LI)
 rq:List (LI)
 pl:LI
 fb:List Rsn
def plx (ps:List (LI))(t:LI):Int:=if t∈ps then(ps.idxOf t:Int)else 0
def Qor (c:ZF)(pl:Q6)(ps:List (LI))(s:Spc)(p:LI×Nat):Spc :=
 ⟨s.a,s.co++[p.1.take c.co.length],s.rq++[p.1.drop c.co.length],s.pl++[plx ps (p.1.take c.co.length)],
  match rsn c pl (plx ps (p.1.take c.co.length)) p.2 p.1 with|some r=>s.fb++[r]|none=>s.fb⟩
def Y3 (c:ZF):Int:=if Zj c≠0 then Zj c else if qt (O7 c.co)≠0 then qt (O7 c.co)else match xo (O7 c.co)with
 | none=>3
 | some _=>if qt (O7 c.co++O7 c.rq)≠0 then qt (O7 c.co++O7 c.rq)else match xo (O7 c.co++O7 c.rq)with
  | none=>3
  | some _=>0
def syA (l:List Q6):Q6:=match xo l with|none=>⟨[],0,[],[]⟩|some z=>z.1
def syQ (l:List Q6):List (LI):=match xo l with|none=>[]|some z=>z.2
def spc (c:ZF):Spc:=(syQ (O7 c.co++O7 c.rq)).zipIdx.foldl (Qor c (syA (O7 c.co)) (syQ (O7 c.co))) ⟨syA (O7 c.co++O7 c.rq),[],[],[],[]⟩
def IxQ {α:Type}(q:α->Bool)(es:List α)(r:O2):Prop:=(r=sS (-1)/\∀m (E:m<es.length),q (es[m]'E)=false)\/∃(i:Nat) (hi:i<es.length),r=sS i/\q (es[i]'hi)=true/\∀m (E:m<i),q (es[m]'oa)=false
theorem QmL [Fu sV g fn]{cap:LV}{q:Ed->Bool}{v:O2}(h:zP L ↑w v es)
  (T:∀(e:Ed) (G:O1),sX w G->QY sV g ([sT (QA e)]++cap) G λr w'=>r=.bool (q e)/\sX G w'):
  QY sV 331 [v,.func (.func g) #[] cap.toArray] w λr w'=>sX w w'/\IxQ q es r:=by
 have hb:=h.le;refine Zq func331 ?_;refine Qc<|Qb<|Qd<|Qj<|QF h U<|Qa<|xe<|Q7 (α:=Nat) [(4,5),(8,18)] (λz=>[(8,sS z)]) (λz w'=>z<=es.length/\sX w w'/\∀m (E:m<es.length),m<z->q (es[m]'E)=false) (λz=>es.length - z) 0 La ⟨Lo _,O5.Z _ _,λm _ V=>OW V (Nk m)⟩ ?_;rintro k g1 G ⟨hk1,H,J⟩;refine Zo rfl U (λY=>?_) (λY=>?_)
 ·refine Qw<|Qc<|Qb<|Qh ⟨[sS (-1)],La,H,.inl ⟨U,λm E=>J m E oa⟩⟩
 have I:k<es.length:=oa
 refine Qf<|Qd<|Qm<|Qj<|Qb<|Qj<|Qa<|Qa<|xie (h.I H) U U I λhc ha=>x (Qr ha U U)<|Qn<|xc (first:=[]) (capt:=cap) U<|(T (es[k]'I) G H).Y ?_;rintro r2 w2 ⟨rfl,S⟩;refine xe<|QU rfl (λO=>?_) (λO=>?_)
 ·refine Qj<|Qb<|Qh ⟨[sS k],La,H.D S,.inr ⟨k,I,U,O,λm E=>J m oa E⟩⟩
 refine Qf<|Qs<|QH U U<|Qa<|xe<|⟨k+1,oa,La,I,H.D S,λm E he=>?_⟩;by_cases e:m=k
 ·subst e;exact O
 exact J m E oa
theorem QmK [Fu sV g fn]{cap:LV}{q:Int->Bool}{v:O2}{es:LI}(h:QL L ↑w v es)
  (T:∀(e:Int) (G:O1),sX w G->QY sV g ([sS e]++cap) G λr w'=>r=.bool (q e)/\sX G w'):
  QY sV 66 [v,.func (.func g) #[] cap.toArray] w λr w'=>sX w w'/\IxQ q es r:=by
 have hb:=h.le;refine Zq func66 ?_;refine Qc<|Qb<|Qd<|Qj<|QF h U<|Qa<|xe<|Q7 (α:=Nat) [(4,5),(8,18)] (λz=>[(8,sS z)]) (λz w'=>z<=es.length/\sX w w'/\∀m (E:m<es.length),m<z->q (es[m]'E)=false) (λz=>es.length - z) 0 La ⟨Lo _,O5.Z _ _,λm _ V=>OW V (Nk m)⟩ ?_;rintro k g1 G ⟨hk1,H,J⟩;refine Zo rfl U (λY=>?_) (λY=>?_)
 ·refine Qw<|Qc<|Qb<|Qh ⟨[sS (-1)],La,H,.inl ⟨U,λm E=>J m E oa⟩⟩
 have I:k<es.length:=oa
 refine Qf<|Qd<|Qm<|Qj<|Qb<|Qj<|Qa<|Qa<|xii (h.I H) U U I λhc ha=>x (Qy ha U)<|Qn<|xc (first:=[]) (capt:=cap) U<|(T (es[k]'I) G H).Y ?_;rintro r2 w2 ⟨rfl,S⟩;refine xe<|QU rfl (λO=>?_) (λO=>?_)
 ·refine Qj<|Qb<|Qh ⟨[sS k],La,H.D S,.inr ⟨k,I,U,O,λm E=>J m oa E⟩⟩
 refine Qf<|Qs<|QH U U<|Qa<|xe<|⟨k+1,oa,La,I,H.D S,λm E he=>?_⟩;by_cases e:m=k
 ·subst e;exact O
 exact J m E oa
theorem Qf2 [Fu sV g fn]{cap:LV}{q:Int->Bool}{v:O2}{es:LI}(h:QL L ↑w v es)
  (I:∀(e:Int) (G:O1),sX w G->QY sV g ([sS e]++cap) G λr w'=>r=.bool (q e)/\sX G w'):
  QY sV 133 [v,.func (.func g) #[] cap.toArray] w λr w'=>r=.bool (es.any q)/\sX w w':=by
 refine Zq func133 ?_;refine Qc<|Qb<|Qj<|Qa<|jF<|(QmK h I).Y ?_;rintro T G ⟨H,E⟩;refine Or.elim E (λE=>?_) (λE=>?_)
 ·obtain⟨rfl,J⟩:=E;have e:es.any q=false:=by
   rw[NE];intro z O;obtain⟨i,hi,rfl⟩:=LO O;rw[J i hi];simp
  refine x (YC U U)<|Qb<|Qh ⟨[.bool false],La,by rw[e];rfl,H⟩
 obtain⟨i,hi,rfl,S,_⟩:=E;have e:es.any q=true:=Nt.2 ⟨_,Lm hi,S⟩;have e2:decide ((0:Int)<=(i:Int))=true:=od
 refine x (YC U U)<|Qb<|Qh ⟨[.bool (decide ((0:Int)<=(i:Int)))],La,by rw[e,e2];rfl,H⟩
theorem Qfk (es:List Ed)(s v:Int):xh es s v=xh (Z7 es s) s v:=by
 induction es with
 | nil=>rfl
 | cons e es ih =>
  unfold Z7 at *;rw[Md];by_cases h:e.1=s
  ·rw[OU (oA h),xh,xh,ih]
  rw[OT (oA h),xh,OT (λc=>h c.1),ih]
theorem Qea:∀(l:List Ed) (s v:Int) (i:Nat) (hi:i<l.length),(∀e∈l,e.1=s)->(l[i]'hi).2.1=v->(∀m (E:m<i),(l[m]'oa).2.1≠v)->xh l s v=(l[i]'hi).2.2
 | e::l,s,v,0,_,G,H,_=>by rw[xh,OU ⟨G e Lq,H⟩];rfl
 | e::l,s,v,i+1,hi,G,H,E=>by
  rw[xh,OT (λc=>E 0 oa c.2)];exact Qea l s v i (oA hi) (λe I=>G e (Lk _ I)) H (λm J=>E (m+1) oa)
theorem Qi3:∀(l:List Ed) (s v:Int),(∀e∈l,e.2.1≠v)->xh l s v=-1
 | [],_,_,_=>rfl
 | e::l,s,v,h=>by rw[xh,OT (λc=>h e Lq c.2)];exact Qi3 l s v (λe E=>h e (Lk _ E))
theorem Qja {n:Int}(e:Ed)(w:O1)(G:QZ ↑w b T [sS n]):
  QY sV 332 ([sT (QA e)]++[sP b]) w λr w'=>r=.bool (decide (e.2.1=n))/\sX w w':=by
 refine Zq func332 ?_;refine Qc<|Zl (QA e) λb2 I E J H=>Qb<|Qc<|Qo U H U U<|Xn (G.I E) U U<|x (QR U U)<|Qb<|Qh ⟨[_],La,U,E⟩
theorem Qdz {st:Int}(h:zP L ↑w ve a.ed)(H:ZK a)(s v:Int)(ha:0<=s)(J:s<a.st):
  QY sV 298 [.agg #[va,sS st,vm,ve],sS s,sS v] w λr w'=>r=sS (xh a.ed s v)/\sX w w':=by
 have hh:=H.st1;refine Zq func298 ?_;refine Qc<|Zl [va,sS st,vm,ve] λb3 w1 J hj hb=>Zl [sS v] λb5 w2 O hk hc=>Qb<|Qc<|QT (hb.I O) U U<|Qa<|Qz<|(Qbs ((h.I J).I O) H.eds (λe E=>⟨(H.ed e E).1,ov (H.ed e E).2.1⟩) s ha oa).Y ?_;rintro vo w3 ⟨S,hE⟩;refine Qb ?_;have hf:∀e∈Z7 a.ed s,e.1=s:=λe E=>(ZV E).2;rw[Qfk];refine Qj<|x (ZD (l:=[]) (l':=[.tmp 5]))<|Qz<|(QmL (q:=λe=>decide (e.2.1=v)) (cap:=[sP b5]) hE (λe T I=>Qja e T ((hc.I S).I I))).Y ?_;rintro r4 T ⟨I,G⟩;have V:=((J.D O).D S).D I;refine Or.elim G (λG=>?_) (λG=>?_)
 ·obtain⟨rfl,hq⟩:=G;have e1:xh (Z7 a.ed s) s v=-1:=Qi3 _ _ _ λe E=>by
   obtain⟨i,hi,rfl⟩:=LO E;simpa using hq i hi
  rw[e1];refine Qb<|Qd<|Qj<|Z5 U U<|xe<|jv U ?_;refine Qc<|Qb<|Qh ⟨[sS (-1)],La,U,V⟩
 obtain⟨i,hi,rfl,h1,h2⟩:=G;have e1:xh (Z7 a.ed s) s v=((Z7 a.ed s)[i]'hi).2.2:=Qea _ s v i hi hf (oA h1) (λm hm=>oA (h2 m hm));rw[e1];refine Qb<|Qd<|Qj<|Z5 U U<|xe<|QO U (λY=>OW Y oa) (λY=>?_);refine Qf<|Qj<|Qa<|xie (hE.I I) U U hi λhl hg=>x (Zd U)<|x (Qy (hg.fld 2 _ U) U)<|Qb<|Qh ⟨[_],La,U,V⟩
def flw (a:Q6):Int->LI->Int×Nat
 | s,[]=>(s,0)
 | s,v::u=>if xh a.ed s v<0 then(s,0)else((flw a (xh a.ed s v) u).1,(flw a (xh a.ed s v) u).2+1)
theorem QoL (E:ZK a){s v:Int}(h:¬xh a.ed s v<0):xh a.ed s v<a.st:=(E.ed _ (Qbu oa)).2.2.2.2
theorem Qhg {vw:O2}{st:Int}(h:zP L ↑w ve a.ed)(H:QL L' ↑w vw u)(S:ZK a)(s:Int)(ha:0<=s)(T:s<a.st):
  QY sV 260 [.agg #[va,sS st,vm,ve],sS s,vw] w λr w'=>r=.tuple #[sS (flw a s u).1,sS (flw a s u).2]/\sX w w':=by
 have hi:=H.le;refine Zq func260 ?_;refine Qc<|Zl [va,sS st,vm,ve] λb3 w1 T hj hb=>x Qi<|Qb<|Qd<|Qj<|QF H U<|Qa<|xe<|Q7 (α:=Nat×Int) [(1,1),(6,10),(13,27)] (λz=>[(1,sS z.2),(13,sS z.1)]) (λz w'=>z.1<=u.length/\0<=z.2/\z.2<a.st/\sX w1 w'/\flw a s u=((flw a z.2 (u.drop z.1)).1,(flw a z.2 (u.drop z.1)).2+z.1)) (λz=>u.length - z.1) (0,s) oB ⟨Lo _,ha,by assumption,O5.Z _ _,od⟩ ?_;rintro⟨k,t⟩ g w2 ⟨hk,hc,he,O,E⟩;have I:=T.D O;refine Zo rfl U (λV=>?_) (λV=>?_)
 ·refine Qw<|Qj<|Qa<|QF H U<|x Qi<|Qb ?_;rw[Lt oa]at E;have hg:k=u.length:=by have hl:¬(k:Int)<(u.length:Int):=V;omega
  refine Qh ⟨[sS t,sS u.length],oB,?_,I⟩;rw[E,hg];simp[flw,tup]
 have G:k<u.length:=oa
 rw[Zc G,flw]at E;refine Qf<|Qd<|Qm<|Qj<|xii (H.I I) U U G λhm hh=>x (Qy hh U)<|x Qi<|Qb<|Qc<|QT (hb.I O) U U<|Qa<|Qa<|Qz<|(Qdz (h.I I) S t (u[k]'G) hc he).Y ?_;rintro r3 w3 ⟨rfl,Y⟩;refine Qb<|Qd<|Qj<|Z5 U U<|xe<|QO rfl (λJ=>?_) (λJ=>?_)
 ·rw[OU J]at E;refine Qj<|Qa<|x Qi<|Qb<|Qh ⟨[sS t,sS k],oB,?_,I.D Y⟩;rw[E];simp[tup]
 rw[OT J]at E;refine Qf<|Qs<|Qa<|Qb<|Qs<|QH U U<|Qa<|xe<|⟨(k+1,xh a.ed t (u[k]'G)),og,oB,G,og,(QoL S J),O.D Y,?_⟩;simp only[];rw[E];simp;omega
def cks (a:Q6)(s:Int):Int:=if JB a≠0 then JB a else if s<0\/a.st<=s then 2 else 0
theorem Kw (h:ZM L ↑w va vm ve a)(s:Int):
  QY sV 256 [.agg #[va,sS a.st,vm,ve],sS s] w λr w'=>r=sS (cks a s)/\sX w w':=by
 refine Zq func256 ?_;refine Qc<|Zl [va,sS a.st,vm,ve] λb2 V J Y O=>Qb<|Qd<|Qc<|QT O U U<|Qz<|(Js (h.I J)).Y ?_;rintro r2 T ⟨rfl,S⟩;refine Qb ?_;unfold cks;have E:=J.D S;refine Qj<|Zx U U<|xe<|QO rfl (λG=>?_) (λG=>?_)
 ·refine Qj<|Qb<|Qh ⟨[_],La,by rw[OU G];rfl,E⟩
 rw[OT G];refine Qf<|Qd<|QX (α:=Unit) [(11,18)] (λz=>[(18,.bool (decide (s<0\/a.st<=s)))]) (λz w'=>w'=T) om ?_ ?_
 ·refine Qs<|Qa<|xb (YX U U) (λH=>?_) (λH=>?_)
  ·refine Qa<|Zt<|KB<|QC U<|xe ?_;exact⟨(),⟨by rw[OX (Or.inl H)];rfl,Z⟩,U⟩
  refine Qa<|Qa<|Qo U (O.I S) U U<|x (YC U U)<|QC U<|xe ?_;exact⟨(),⟨by show Value.bool (decide (a.st<=s))=_;simp[H],Z⟩,rfl⟩
 rintro z g w3 rfl;refine QO rfl (λI=>?_) (λI=>?_)
 ·refine Qc<|Qb<|Qh ⟨[_],La,by rw[OU I];rfl,E⟩
 refine Qf<|Qc<|Qb<|Qh ⟨[_],La,by rw[OT I];rfl,E⟩
theorem Qdi {s:Int}(h:cks a s=0):ZK a/\0<=s/\s<a.st:=by
 unfold cks at h;split at h
 ·rename_i E;exact OW h E
 rename_i E;split at h
 ·cases h
 rename_i G;exact⟨(Z4 a).1 (Lp.1 E),oa,oa⟩
theorem Ql2 (e:Int)(w:O1)(E:QZ ↑w b T (va::us))(G:QL L ↑w va al):
  QY sV 259 ([sS e]++[sP b]) w λr w'=>r=.bool (decide (e∉al))/\sX w w':=by
 refine Zq func259 ?_;refine Qc<|Qb<|Qc<|Qo U E U U<|Qa<|Qz<|(Yr G e).Y ?_;rintro H I ⟨rfl,rfl⟩;refine x (Zy U)<|Qb<|Qh ⟨[_],La,?_,O5.Z _ _⟩;show Value.bool (!decide (e∈al))=_;rw[decide_not]
def Ql1 (a:Q6)(s:Int)(u:LI):Int:=if cks a s≠0 then cks a s else if(u.any λe=>decide (e∉a.al))=true then 9 else 0
theorem QpV {vw:O2}(h:ZM L ↑w va vm ve a)(T:QL L' ↑w vw u)(s:Int):
  QY sV 194 [.agg #[va,sS a.st,vm,ve],sS s,vw] w λr w'=>sX w w'/\r=if Ql1 a s u≠0 then .tuple #[sS 0,sS 0,sS (Ql1 a s u)]else .tuple #[sS (flw a s u).1,sS (flw a s u).2,sS 0]:=by
 refine Zq func194 ?_;refine Qc<|Zl [va,sS a.st,vm,ve] λb3 w1 V hb J=>x Qi<|x Qi<|Qb<|Qd<|Qc<|QT J U U<|Qa<|Qz<|(Kw (h.I V) s).Y ?_;rintro r2 w2 ⟨rfl,O⟩;refine Qb ?_;have G:=V.D O;unfold Ql1;refine Qj<|Zx U U<|xe<|QO rfl (λE=>?_) (λE=>?_)
 ·refine Qj<|x Qi<|x Qi<|Qb<|Qh ⟨[_,_,_],oC,G,by rw[OU E,OU E];rfl⟩
 have hc:cks a s=0:=Lp.1 E;obtain⟨ho,h0,h1⟩:=Qdi hc;rw[OT E];refine Qf<|Qd<|Qj<|x (ZD (l:=[]) (l':=[.tmp 3]))<|Qz<|(Qf2 (q:=λe=>decide (e∉a.al)) (cap:=[sP b3]) (T.I G) (λe Y H=>Ql2 e Y ((J.I O).I H) ((h.al.I G).I H))).Y ?_;rintro r3 w3 ⟨rfl,ha⟩;refine xe ?_;have I:=G.D ha;refine QU rfl (λS=>?_) (λS=>?_)
 ·rw[OU S];refine Qc<|x Qi<|x Qi<|Qb<|Qh ⟨[_,_,_],oC,I,by rw[OU ol];rfl⟩
 rw[OT (by rw[S];simp)];refine Qf<|Qc<|QT ((J.I O).I ha) U U<|Qa<|Qa<|Qz<|(Qhg (h.ed.I I) (T.I I) ho s h0 h1).Y ?_;rintro r4 Y ⟨rfl,H⟩;refine Qa<|x (Zi U U) <|
  QW rfl rfl<|x Qi<|Qb<|Qj<|Qa<|x Qi<|x Qi<|Qb<|Qh ⟨[_,_,_],oC,I.D H,U⟩
def enb (a:Q6)(s:Int):LI:=(Z7 a.ed s).map (·.2.1)
theorem Qkd {l:List Ed}{k:Nat}(h:k<l.length):(l.take (k+1)).map (·.2.1)=(l.take k).map (·.2.1)++[(l[k]'h).2.1]:=by
 rw[List.take_add_one,LG h,Lr];rfl
theorem QeT (h:ZM L ↑w va vm ve a)(s:Int):
  QY sV 186 [.agg #[va,sS a.st,vm,ve],sS s] w λr w'=>sX w w'/\∃v,r=.tuple #[v,sS (cks a s)]/\(cks a s≠0->v=ZE)/\(cks a s=0->Qq 3 ↑w w' v (enb a s)):=by
 refine Zq func186 ?_;refine Qc<|Zl [va,sS a.st,vm,ve] λb2 w1 ha hz hf=>x Qi<|Qb<|Qd<|Qc<|QT hf U U<|Qa<|Qz<|(Kw (h.I ha) s).Y ?_;rintro r2 w2 ⟨rfl,hg⟩;refine Qb ?_;have O:=ha.D hg;refine Qj<|Zx U U<|xe<|QO rfl (λS=>?_) (λS=>?_)
 ·refine Qj<|x Qi<|Qb<|Qh ⟨[ZE,_],oB,O,ZE,U,λ_=>U,λe=>OW e S⟩
 have hc:cks a s=0:=Lp.1 S;obtain⟨G,h0,h1⟩:=Qdi hc;have h2:=G.st1;rw[hc];refine Qf<|Qc<|Qb<|Qd<|Qc<|QT (hf.I hg) U U<|Qa<|Qz<|(Qbs (h.ed.I O) G.eds (λe he=>⟨(G.ed e he).1,ov (G.ed e he).2.1⟩) s h0 oa).Y ?_;rintro vo w3 ⟨hi,hE⟩;refine QF hE U<|Qa<|xe ?_;have hh:=O.D hi;have hj:=hh.size;have hl:=Vz a.ed s;have h3:=G.ed_le;refine Zf (Z7 a.ed s) λos H=>?_;rw[H]at hE hl;refine Q7 (α:=Nat×O2) [(7,7),(9,9),(20,29)] (λz=>[(7,z.2),(20,sS z.1)]) (λz w'=>z.1<=os.length/\sX w3 w'/\Qq 3 ↑w3 w' z.2 ((os.take z.1).map (·.2.1))) (λz=>os.length - z.1) (0,nS) ⟨U,by rw[H];rfl,Z⟩ ⟨Lo _,O5.Z _ _,QE _ _ _ _⟩ ?_;rintro⟨k,v⟩ g w4 ⟨hk,J,I⟩;simp only[]at hk I;have h4:=J.size;refine Zo rfl U (λT=>?_) (λT=>?_)
 ·refine Qw<|Qj<|x Qi<|Qb ?_;rw[Lu (by rw[H]at T;omega)]at I;refine Qh ⟨[v,_],oB,hh.D J,v,U,λe=>OW U e,λ_=>?_⟩;unfold enb;rw[H];exact ZB I hj
 have E:k<os.length:=by rw[H]at T;omega
 refine Qf<|Qd<|Qm<|Qc<|xie (hE.I J) U U E λh5 hm=>x (Qr hm U U)<|QM [sS 0,sS 0,sS 0] λb9 w5 hn hp hq=>QK (QA (os[k]'E)) hq oC λw6 hr hs =>
  xe ?_
 have V:sX w4 w6:=hn.O hr hp;have ht:=Ql I V;refine Qs<|Qa<|Qo U hs U U<|Qn<|Xy (us:=[[sS (os[k]'E).2.1]]) U U ol od ⟨rfl,rfl,Z⟩ λh6 w7 Y h7 hu=>?_;have hv:=Ql ht Y;have h8:=(V.D Y).size;have h9:((os.take k).map (·.2.1)).length<=131072:=by simp;omega
 refine Qn<|Q2 (news:=[sS (os[k]'E).2.1]) (L:=[]) hv U U U (hu.at od) oq oa oa λv8 w8 hw hy hA=>Qb<|Qs<|QH rfl rfl<|Qa<|xe<|⟨(k+1,v8),og,oB,E,((J.D V).D Y).S hy (λb hb=>.inr ((Qg I) b hb).1),?_⟩;simp only[];rw[Qkd E];exact Qq.snoc hw
theorem QdJ {v:O2}(h:QL L ↑w v l)(n:Int):
  QY sV 188 [v,sS n] w λr w'=>r=sS (KM n none l)/\w'=w:=by
 have hc:=h.le;refine Zq func188 ?_;refine Qc<|Qb<|Qd<|Qj<|QF h U<|Qa<|xe<|Q7 (α:=Nat) [(4,6),(9,32)] (λk=>[(9,sS k)]) (λk w'=>w'=w/\k<=l.length/\KM n (pv l k) (l.drop k)=KM n none l) (λk=>l.length - k) 0 La ⟨U,Lo _,U⟩ ?_;rintro k g S ⟨rfl,hk,E⟩;refine Zo rfl U (λT=>?_) (λT=>?_)
 ·refine Qw<|Qc<|Qb<|Qh ⟨[sS 0],La,?_,U⟩;rw[<-E,Lt oa];rfl
 have G:k<l.length:=oa
 rw[(Zc G),KM]at E;refine Qf<|Qd<|Qm<|Qj<|xii h U U G λhe V=>x (Qy V U)<|x Qi<|Qb<|Qd<|QX (α:=Bool) [(14,20)] (λz=>[(20,.bool z)]) (λz w'=>w'=S/\z=decide (l[k]<0\/n<=l[k])) om ?_ ?_
 ·refine Qs<|Qa<|xb (YX U U) (λH=>?_) (λH=>?_)
  ·refine Qa<|Zt<|QC U<|xe ?_;exact⟨true,La,U,by simp[H]⟩
  refine Qa<|Qa<|Qa<|x (YC U U)<|QC U<|xe ?_;exact⟨_,La,U,by simp[H]⟩
 rintro z g Y ⟨rfl,rfl⟩;refine QO rfl (λI=>?_) (λI=>?_)
 ·refine Qc<|Qb<|Qh ⟨[sS 2],La,?_,U⟩;rw[<-E,OU I];rfl
 rw[OT I]at E;refine Qf<|QX (α:=Bool) [(21,31)] (λz=>[(31,.bool z)]) (λz w'=>w'=Y/\z=jL (pv l k) l[k]) om ?_ ?_
 ·refine Qs<|Qa<|xb (Yc U U) (λha=>?_) (λha=>?_)
  ·have hk1:((k:Int) - 1)=((k - 1:Nat):Int):=oa
   refine Qa<|Qa<|Qa<|Qa<|x (XR U U ⟨oa,oa⟩)<|xii (i:=k - 1) h U (by show Value.int _ ((k:Int) - 1)=_;rw[hk1]) oa λhf hb=>x (Qy hb rfl)<|x (Vi rfl rfl)<|QC rfl<|xe<|⟨_,La,U,?_⟩;have:pv l k=some l[k - 1]:=by
    have J:k≠0:=oa
    simp[pv,J,show k - 1<l.length by omega]
   rw[this];rfl
  refine Qa<|Zt<|Zt<|KB<|QC U<|xe ?_;have J:k=0:=oa
  exact⟨false,La,U,by simp[pv,J,jL]⟩
 rintro z g w3 ⟨rfl,rfl⟩;refine QU rfl (λO=>?_) (λO=>?_)
 ·refine Qc<|Qb<|Qh ⟨[sS 5],La,?_,U⟩;rw[<-E,OU O];rfl
 rw[OT (by simp[O])]at E;refine Qf<|Qs<|QH U U<|Qa<|xe ?_;exact⟨k+1,oa,La,U,oa,by rw[VU G];exact E⟩
open Go.RowKit
def upY (P:O4)(m:Nat)(dst:xE)(f:Fr)(K:xx):Result Next->Prop
 | .ok (.value v) w'=>K (QN f dst v) w'
 | .ok .skip w'=>K (QN f dst undef) w'
 | .ok (.enter g args) w'=>Calls P g args w' λe E=>match e with| .returned v=>K (QN f dst v) E|_=>False
 | .ok (.round l fn tmps assign body) w'=>RoundIn (fen none) (m - 1) P l fn tmps assign body w' λe E=>match e with| .returned v=>K (QN f dst v) E|_=>False
 | _=>False
def XOY (P:O4)(m:Nat)(o:Oper)(f:Fr)(w:O1)(K:xx):Prop:=upY P m o.dst f K ((execOp (ev f) o).run P w)
def J9 (P:O4)(m:Nat)(ops:xD)(K:xx):xD->Fr->O1->Prop
 | [],f,w=>K f w
 | o::l,f,w=>bif Z9 ops f o then XOY P m o f w (J9 P m ops K l)else J9 P m ops K l (QN f o.dst undef) w
section
variable {m:Nat}
theorem XOY.of_XO {K':xx}(hK:∀f w,K f w->K' f w)(h:XO P o f w K):XOY P m o f w K':=by
 unfold XO at h;unfold XOY;generalize (execOp (ev f) o).run P w=r at h;cases r with
 | ok nx w' =>
  cases nx <;> simp only[upF]at h <;> simp only[upY]
  case value v=>exact hK _ _ h
  case skip=>exact hK _ _ h
  case enter g args =>
   refine Calls.mono h λe G E=>?_;cases e with
   | returned v=>exact hK _ _ E
   | panicked c=>exact E.elim
   | outgrown=>exact E.elim
 | halt x w'=>exact h.elim
theorem J9.pre {ops:xD}{K:xx}{l2:xD}:∀(E:xD) (f:Fr) (w:O1),XL P ops (λf w=>J9 P m ops K l2 f w) E f w->J9 P m ops K (E++l2) f w
 | [],f,w,h=>by unfold XL at h;exact h
 | o::E,f,w,h=>by
  unfold XL at h;show(bif Z9 ops f o then XOY P m o f w (J9 P m ops K (E++l2))else J9 P m ops K (E++l2) (QN f o.dst undef) w);cases G:Z9 ops f o with
  | false=>rw[G]at h;exact J9.pre E _ _ h
  | true=>rw[G]at h;exact XOY.of_XO (λf w h=>J9.pre E f w h) h
theorem J9.pre2 {o1 o2:Oper}{l2:xD}(h:XL P ops (λf w=>J9 P m ops K l2 f w) [o1,o2] f w):J9 P m ops K (o1::o2::l2) f w:=J9.pre [o1,o2] f w h
theorem J9.of_XL {l:xD}(h:XL P ops K l f w):J9 P m ops K l f w:=by
 have:=J9.pre (m:=m) (l2:=[]) l f w h
 rwa [LS]at this
theorem Qk0 {a:Act}{K':Act->O1->Prop}{Q:Exit->Act->O1->Prop}(h:Xm n ds a f)
  (hK:∀v w',K (QN f o.dst v) w'->K' (a.put o.dst v) w') (hx:XOY P m o f w K):o.wpIn (fen none) m P a w K' Q:=by
 unfold XOY at hx;refine⟨λ_ _=>trivial,?_⟩;have e:Oper.semAt (fen none).round a.eval o=execOp (ev f) o:=by rw[h.eval];rfl
 rw[e];generalize (execOp (ev f) o).run P w=r at hx;cases r with
 | ok nx w' =>
  cases nx <;> simp only[upY]at hx <;> simp only[Oper.uponIn]
  case value v=>exact hK v w' hx
  case skip=>exact hK _ w' hx
  case enter g args =>
   refine⟨λh=>by simp[Fence.wide]at h,?_⟩;refine(callsIn_wide (n:=m - 1)).2 (Calls.mono hx λe G E=>?_);cases e with
   | returned v=>exact hK v G E
   | panicked c=>exact E.elim
   | outgrown=>exact E.elim
  case round l fn tmps assign body =>
   refine⟨λh=>by simp[Fence.wide]at h,?_⟩;refine RoundIn.mono hx λe G E=>?_;cases e with
   | returned v=>exact hK v G E
   | panicked c=>exact E.elim
   | outgrown=>exact E.elim
 | halt x w'=>exact hx.elim
theorem QdB {Q:Exit->LN->Fr->O1->Prop}{all:xD}(G:∀o∈all,∀d,o.dst=some d->d<n)(f0:Fr):
  ∀(l:xD) (k:Nat) (a:Act) (f:Fr) (w:O1),(∀j,l[j]?=all[k+j]?)->Xm n ds a f->(∀t,Ym all t=false->f t=f0 t) ->
   J9 P m all (λf w=>Q .normal ds f w) l f w ->
   wpOpsIn (fen none) m P all.toArray (λe V w'=>∃ds' f',Xm n ds' V f'/\(∀t,Ym all t=false->f' t=f0 t)/\Q e ds' f' w') (oS k l.length) a w
 | [],_,a,f,w,_,E,H,h=>⟨ds,f,E,H,by unfold J9 at h;exact h⟩
 | o::l,k,a,f,w,J,E,H,h=>by
  have O:all[k]?=some o:=by simpa using(J 0).symm
  have I:o∈all:=Mt O;have ih:=λa f w=>QdB (Q:=Q) G f0 l (k+1) a f w (λj=>by have:=J (j+1);simpa[ON,Nat.add_comm 1 j]using this);have next:∀v,(∀t,Ym all t=false->QN f o.dst v t=f0 t):=λv t S=>(Y2 (JU I S) v).D (H t S);simp only[oX,OC,wpOpsIn,o0,O];rw[Up E G o];unfold J9 at h;cases T:Z9 all f o with
  | false =>
   rw[T]at h;exact⟨λ_ _=>trivial,ih _ _ _ (E.put (G o I) _) (next _) h⟩
  | true =>
   rw[T]at h;exact Qk0 E (λv w' hx=>ih _ _ _ (E.put (G o I) v) (next v) hx) h
theorem V9 {Q:Exit->LN->Fr->O1->Prop}{l:xD}(E:XM n l=true)(h:J9 P m l (λf w=>Q .normal ds f w) l f w):WG none m P n (.region id l.toArray false) Q ds f w:=by
 unfold WG;intro a G;refine wpIn_region ?_;have:=QdB (m:=m) (Xz E) f l 0 a f w od G (λ_ _=>rfl) h;simpa[List.range_eq_range',Ju]using this
theorem xy {rest:xD}{pS:String}{x:O3}{l:Nat}{R:Ending->O1->Prop}
  (hx:ev f x=.func (.yield l) #[] #[]) (E:YieldAt (fen none) (m - 1) P l #[ev f y] w R) (hK:∀e w',R e w'->∃v,e=.returned v/\J9 P m ops K rest (QN f d v) w')
  (G:Z9 ops f ⟨d,.call ⟨.value x,#[y],at_⟩,ty,pS,af,gd⟩=true:=by rfl):
  J9 P m ops K (⟨d,.call ⟨.value x,#[y],at_⟩,ty,pS,af,gd⟩::rest) f w:=by
 obtain⟨fn,tmps,assign,body,H,I⟩:=E;have J:(execOp (ev f) ⟨d,.call ⟨.value x,#[y],at_⟩,ty,pS,af,gd⟩).run P w=.ok (.round l fn tmps assign body) w:=by
  simp[execOp,resolve,hx,Deferred.ofValue,invoke,H]
 unfold J9;rw[G];simp only[XOY,J,upY,cond_true];exact I.mono λe w' h=>by obtain⟨v,rfl,O⟩:=hK e w' h;exact O
end
attribute [irreducible] J9
structure Lw (B:Nat)(L:LN)(w w':O1):Prop where
 os:w'.os=w.os
 tape:w'.tape=w.tape
 output:w'.output=w.output
 size:w.heap.size<=↑w'
 low:∀k,k<B->k∉L->w'.heap[k]?=w.heap[k]?
theorem Lw.refl (B:Nat)(L:LN)(w:O1):Lw B L w w:=⟨U,U,U,Lx _,λ_ _ _=>U⟩
theorem Lw.D {B:Nat}{L:LN}{E w w':O1}(h:Lw B L E w)(k:Lw B L w w'):Lw B L E w' :=
 ⟨k.os.D h.os,k.tape.D h.tape,k.output.D h.output,LH h.size k.size,λi hi G=>(k.low i hi G).D (h.low i hi G)⟩
theorem O5.lw {E:O1}(h:O5 L w w')(k:Lw ↑w L w' E):O5 L w E :=
 ⟨k.os.D h.os,k.tape.D h.tape,k.output.D h.output,LH h.size k.size,λi hi G=>(k.low i hi G).D (h.block i hi G)⟩
structure Vg (B:Nat)(L:LN)(W W':O1):Prop where
 lw:Lw B L W W'
 other:∀(k:Nat) (o:Obj),W.heap[k]?=some o->o.isCells=false->W'.heap[k]?=some o
theorem Vg.refl (B:Nat)(L:LN)(w:O1):Vg B L w w:=⟨Lw.refl _ _ _,λ_ _ h _=>h⟩
theorem Vg.D {B:Nat}{L:LN}{E w w':O1}(h:Vg B L E w)(k:Vg B L w w'):Vg B L E w':=⟨h.lw.D k.lw,λi o hi G=>k.other i o (h.other i o hi G) G⟩
theorem Vg.J {W:O1}(h:O5 X W W')(S:B<=↑W)(H:∀b∈X,(b∈L\/B<=b)/\∃o:Obj,W.heap[b]?=some o/\o.isCells=true):Vg B L W W':=by
 refine⟨⟨h.os,h.tape,h.output,h.size,λk G J=>h.block k oa (λhx=>?_)⟩,λk o G O=>?_⟩
 ·rcases(H k hx).1 with E|E
  ·exact J E
  omega
 refine(h.block k (LK.1 G).1 (λhx=>?_)).D G;obtain⟨T,E,I⟩:=(H k hx).2;rw[G]at E;cases E;rw[O]at I;cases I
theorem Vg.I {W:O1}(h:sX W W')(E:B<=↑W):Vg B L W W':=Vg.J h E (λ_ G=>by cases G)
theorem QZ.cells (h:QZ H b T cs):∃o:Obj,H[b]?=some o/\o.isCells=true:=⟨_,h,U⟩
theorem Vg.blk {W:O1}(h:O5 [b] W W')(E:B<=↑W)(G:QZ ↑W b T cs)(H:b∈L\/B<=b):Vg B L W W' :=
 Vg.J h E (λc I=>by
  have e:c=b:=by simpa using I
  subst e;exact⟨H,G.cells⟩)
def YI (B:Nat)(I:xz):Prop:=∀W W' X,I W->O5 X W W'->(∀r∈X,B<=r/\∃o:Obj,W.heap[r]?=some o/\o.isCells=false)->I W'
theorem YI.own {I:β->O1->Prop}(h:∀s,YI B (I s)):OwnFrom B I:=λs W W' row G H J =>
 h s W W' _ G (O5.of_grown H) (λr E=>J r (by cases row <;> simp at E ⊢;exact E.symm))
theorem YI.blk :YI B (λW=>QZ ↑W b T cs):=λW W' X h G H=>h.J G (λI=>by
 obtain⟨_,o,E,J⟩:=H b I;unfold QZ at h;rw[h]at E;cases E;cases J)
theorem YI.and {I J:xz}(h:YI B I)(k:YI B J):YI B (λW=>I W/\J W):=λW W' X hi E G=>⟨h W W' X hi.1 E G,k W W' X hi.2 E G⟩
theorem YI.ex {I:β->O1->Prop}(h:∀z,YI B (I z)):YI B (λW=>∃z,I z W):=λW W' X ⟨z,hi⟩ E G=>⟨z,h z W W' X hi E G⟩
theorem YI.pure (p:Prop):YI B (λ_=>p):=λ_ _ _ h _ _=>h
theorem YI.J (I:↑w<=B):YI B (λW=>O5 L w W):=λW W' X h E G=>h.S E (λb H=>.inr (ov (G b H).1))
theorem QV {base e:Nat}{v:O2}(h:w.ownsRow base e sz v n cs):∀b∈ob v,∃o:Obj,w.heap[b]?=some o/\o.isCells=true:=by
 intro b E;rcases h.2 with⟨G,_⟩|⟨g,cap,cur,G,I,H,_⟩
 ·subst G;simp[ob]at E
 subst G;simp[ob]at E;subst E;exact⟨_,H,U⟩
theorem YI.row {base e:Nat}{v:O2}:YI B (λW=>W.ownsRow base e sz v n cs):=λW W' X h H I=>Qe h H (λb J hx=>by
 obtain⟨_,o,O,S⟩:=I b hx;obtain⟨T,E,G⟩:=QV h b J;rw[O]at E;cases E;rw[S]at G;cases G)
theorem QnJ {m:Nat}{Q:Exit->LN->Fr->O1->Prop}{g:O3}{p:Nat}{assign body:Code}(L:LN)(V:1<=m)
    [hF:Fu P gf fn]  (hg:ev f g=.func (.func gf) #[] capt.toArray) {enc:α->O2} {S:List α->Prop}  (hp:p<n)
  (he:SeqStopsK (fen none) (m - 1) P gf capt.toArray (λx=>#[enc x]) (Lw ↑w L) S (λ_=>True) N w)
  (I:List α->O1->Prop) (hI:∀s,YI ↑w (I s)) (h0:I [] w) (A:Fr->α->Fr->O1->Prop) (hA:∀x E,YI ↑w (A f x E))
  (hb:∀l pre x W,I pre W->WG (some l) (m - 1 - 1) P n assign (QdR (λY E W'=>Y=[]/\Vg ↑w L W W'/\I pre W'/\A f x E W') (λ_ _ _ _=>False)) [] (upd f p (enc x)) W)
  (hc:∀l pre x E W,I pre W->A f x E W->pre.length<N->WG (some l) (m - 1 - 1) P n body (QdR (λ_ _ W'=>Vg ↑w L W W'/\I (pre++[x]) W') (λ_ _ _ _=>False)) [] E W)
  (hf:∀D xs W,↑w<=D->S xs->I xs W->W.heap[D]?=some (.deferred (some []))->Q .normal (D::ds) f W):
  WG none m P n (.rangeFunc g #[p] assign body) Q ds f w:=by
 unfold WG at hb hc ⊢;intro a O;have eg:∀args w,(callFunc gf args).run P w=.ok (.enter gf args) w:=by
  intro args w;have V:¬fn.name = "runtime.NumGoroutine" := by simpa using hF.nm
  have J:¬fn.body=none:=by have:=hF.b;intro e;rw[e]at this;cases this
  simp[callFunc,hF.f,V,J]
 have keep:∀{W W':O1},Vg ↑w L W W'->KeepsFrom ↑w W W':=λh=>⟨h.lw.size,λk o _ hk ho=>h.other k o hk ho⟩;refine wpIn_rangeFunc_ownH (F:=fen none) U V (gf:=gf) (lb:=capt.toArray) (by rw[O.eval];exact hg) Z eg he (λh k=>h.D k)
  (λW l o o' hl ho _ _=>⟨U,U,U,od,λk hk _=>World.putObj_heap_other oa⟩) (Below.refl _ _) (λ_=>rfl) I (λ_ _ _=>False) (YI.own hI) (λ_ _ _ _ _ hs _ _=>hs) h0
  (λx T W=>∃E,Xm n [] T E/\A f x E W) (λx T=>YI.own λ_=>YI.ex λE=>YI.and (YI.pure _) (hA x E)) ?_ ?_ ?_ ?_
 ·intro l pre x W K hi hK;have hr:Xm n [] { tmps:=((#[p]:Array Nat).zip #[enc x]).foldl (λt (p,v)=>t.setIfInBounds p v) a.tmps,defers:=[] } (upd f p (enc x)):=by
   have J:Xm n [] { a with defers:=[] } f:=⟨O.size,U,O.get⟩
   have G:=J.put (dst:=some p) (λd e=>by cases e;exact hp) (enc x);have e:((#[p]:Array Nat).zip #[enc x]).foldl (λt (p,v)=>t.setIfInBounds p v) a.tmps=a.tmps.setIfInBounds p (enc x):=od
   rw[e];exact G
  refine wpIn_mono (hb l pre x W hi _ hr) ?_;rintro e T W' ⟨Y,E,J,_,G⟩;cases e with
  | normal=>obtain⟨rfl,h4,H,h6⟩:=G;exact hK T W' (keep h4) h4.lw H ⟨E,J,h6⟩
  | exit id=>exact G.elim
  | goto l=>exact G.elim
  | ret=>exact G.elim
  | panic ch=>exact G.elim
  | outgrown=>exact G.elim
 ·rintro l pre x T W _ _ hi ⟨E,J,G⟩ hh;refine wpIn_mono (hc l pre x E W hi G hh T J) ?_;rintro e hj W' ⟨Y,hm,h4,_,H⟩;cases e with
  | normal=>exact⟨keep H.1,H.1.lw,H.2⟩
  | exit id=>exact H.elim
  | goto l=>exact H.elim
  | ret=>exact H.elim
  | panic ch=>exact H.elim
  | outgrown=>exact H.elim
 ·intro D xs W hD hS hi hd;exact⟨D::ds,f,⟨O.size,by rw[show coll (D::ds)={ target:=.collected D,args:=#[] }::coll ds from rfl,O.defers],O.get⟩,λ_ _=>rfl,hf D xs W hD hS hi hd⟩
 intro D c pre W _ _ h _;exact h.elim
def QpK (P:O4)(t:Nat):Option (LV×xu):=match P.info? t,P.underlying t with
 | some it,some (.struct fs)=>match it.zero,fs.toList.mapM (λf=>(P.info? f.type).map λi=>(f.offset,i.size))with
  | some (.agg zs),some pl=>some (zs.toList,pl)
  | _,_=>none
 | _,_=>none
class Bw (P:O4)(t:Nat)(zs:outParam (LV))(pl:outParam xu):Prop where
 h:QpK P t=some (zs,pl):=by first|kernel_rfl|decide|rfl|exact sY (by kernel_rfl)
 b:pl.all (λx=>x.1+x.2<=zs.length)=true:=by first|kernel_rfl|decide|rfl|exact sY (by kernel_rfl)
def Qcl:LV->Nat->LV->LV
 | zs,_,[]=>zs
 | zs,o,u::us=>Qcl (zs.set o u) (o+1) us
def QkV (pl:xu)(zs:LV):List (Nat×LV)->LV
 | []=>zs
 | (j,us)::ps=>QkV pl (Qcl zs (pl.getD j (0,0)).1 us) ps
def QnP:List (Nat×O2)->List (Nat×LV)->Prop
 | [],[]=>True
 | (j,v)::vs,(j',us)::uss=>v.cells=us.toArray/\j=j'/\QnP vs uss
 | _,_=>False
theorem Qck:∀(us zs:LV) (o:Nat),(Qcl zs o us).length=zs.length
 | [],_,_=>rfl
 | u::us,zs,o=>by rw[Qcl,Qck us,Mb]
theorem Qac (o:Nat):∀(us:LV) (k:Nat) (zs:LV),(us.zipIdx k).foldl (λ(cs:Array O2) (x:O2×Nat)=>cs.setIfInBounds (o+x.2) x.1) zs.toArray=(Qcl zs (o+k) us).toArray
 | [],_,_=>rfl
 | u::us,k,zs=>by
  rw[NN,L5,Qcl];have:=Qac o us (k+1) (zs.set (o+k) u);rw[<-List.setIfInBounds_toArray]at this;exact this
theorem QjT {pl:xu}:∀(vs:List (Nat×O2)) (uss:List (Nat×LV)) (zs:LV),QnP vs uss->uss.all (λp=>p.1<pl.length && (p.2.length == (pl.getD p.1 (0,0)).2))=true ->
  (∀x∈pl,x.1+x.2<=zs.length)->Instr.fill (pl.toArray[·]?) zs.toArray vs=some (QkV pl zs uss).toArray
 | [],[],zs,_,_,_=>rfl
 | [],_::_,_,h,_,_=>h.elim
 | _::_,[],_,h,_,_=>h.elim
 | (j,v)::vs,(j',us)::uss,zs,H,G,I=>by
  obtain⟨S,rfl,H⟩:=H;simp only[oT,oM,decide_eq_true_eq,beq_iff_eq]at G;obtain⟨⟨E,J⟩,G⟩:=G;have O:pl.getD j (0,0)=pl[j]'E:=by simp[oR,E]
  have T:=I _ (Lm E);unfold Instr.fill;simp only[o0,Og E,S];rw[O]at J;rw[OT (by simp only[Od,J,ne_eq,not_true,decide_false,Bool.false_or,decide_eq_true_eq];omega)];have e:=Qac (pl[j]'E).1 us 0 zs;rw[Np]at e;have e2:(us.toArray.zipIdx).foldl (λ(cs:Array O2) (x:O2×Nat)=>cs.setIfInBounds ((pl[j]'E).1+x.2) x.1) zs.toArray=(Qcl zs (pl[j]'E).1 us).toArray:=by
   rw[<-e];simp
  rw[e2,QkV,O];simpa only[o0]using(QjT vs uss (Qcl zs (pl[j]'E).1 us) H G (λx hx=>by rw[Qck];exact I x hx))
theorem QeG {zs:LV}{pl:xu}(h:QpK P t=some (zs,pl))(I:pl.all (λx=>x.1+x.2<=zs.length)=true)(vs:List (Nat×O2))(uss:List (Nat×LV))(J:QnP vs uss)
  (O:uss.all (λp=>p.1<pl.length && (p.2.length == (pl.getD p.1 (0,0)).2))=true):P.built t vs=some (QkV pl zs uss).toArray:=by
 have S:∀x∈pl,x.1+x.2<=zs.length:=λo T=>oA (Mh.1 I o T)
 unfold QpK at h;unfold Program.built;cases hi:P.info? t with
 | none=>simp[hi]at h
 | some it =>
  cases H:P.underlying t with
  | none=>simp[hi,H]at h
  | some dd =>
   simp only[hi,H]at h;cases dd <;> simp only[]at h <;> try (cases h)
   case struct fs =>
    cases E:it.zero with
    | none=>simp[E]at h
    | some z =>
     cases z <;> simp only[E]at h <;> try (cases h)
     rename_i za;cases G:fs.toList.mapM (λf=>(P.info? f.type).map λi=>(f.offset,i.size))with
     | none=>simp[G]at h
     | some pl' =>
      simp only[G,Option.some.injEq,Prod.mk.injEq]at h;obtain⟨rfl,rfl⟩:=h;simp only[E,G,Value.cells];exact QjT vs uss za.toList J O S
theorem Q5 {pS:String}{zs:LV}{pl:xu}[h:Bw P t zs pl]{parts:List (Nat×O3)}(uss:List (Nat×LV))
  (E:QnP (parts.map λx=>(x.1,ev f x.2)) uss) (G:uss.all (λp=>p.1<pl.length && (p.2.length == (pl.getD p.1 (0,0)).2))=true:=by rfl):
  (execOp (ev f) ⟨d,.build t parts.toArray,ty,pS,af,gd⟩).run P w=.ok (.value (sT (QkV pl zs uss))) w:=by
 simp only[execOp,Sem.run_bind,(run_build (P:=P) w t (parts.toArray.map λ(i,x)=>(i,ev f x)) _ (by simpa using(QeG h.h h.b _ uss E G))),Result.andThen_ok,Sem.run_pure]
def cnE (p:Ed->Bool)(es:List Ed):Int:=((es.filter p).length:Int)
def gA (n:Nat)(f:Nat->Int):LI:=(oV n).map f
theorem Qph (n:Nat)(f:Nat->Int):(gA n f).length=n:=by simp[gA]
theorem QjO {f:Nat->Int}(h:i<(gA n f).length):(gA n f)[i]'h=f i:=by simp[gA]
theorem Qpg {f g:Nat->Int}{u:Int}(G:u=g i)(h:∀j,j<n->j≠i->g j=f j):(gA n f).set i u=gA n g:=by
 apply Mv
 ·simp[gA]
 intro k H E;rw[M9,QjO E];by_cases e:i=k
 ·rw[OU e,G,e]
 rw[OT e,QjO];exact(h k (by simpa[gA]using E) (Ne.symm e)).symm
def fS (es:List Ed)(s:Nat):Int:=cnE (λe=>decide (e.1<(s:Int))) es
section
variable {pS:String}
theorem Qi0 [h1:X8 P t]{x:O3}{g E:Nat->Int}{u:Int}(G:QZ ↑w b T ((gA n g).map (.int .i64)))(hx:ev f x=.pointer (some ⟨b,0+i*1,none⟩))(H:ev f y=sS u)(hi:i<n)(I:(gA n g).set i u=gA n E)
  (hK:∀w',O5 [b] w w'->QZ ↑w' b T ((gA n E).map (.int .i64))->K (QN f d undef) w'):XO P ⟨d,.store t x y,ty,pS,af,gd⟩ f w K :=
 KD G hx H (by rw[Qph];exact hi) λw' J O=>hK w' J (by rw[<-I];exact O)
end
open Go.RowKit
section
variable {pS:String}{l:xD}
end
def Ur {α:Type}(f:Nat->α)(i:Nat)(x:α):Nat->α:=λj=>if j=i then x else f j
theorem YA (f:Nat->α)(i:Nat)(x:α):Ur f i x i=x:=by simp[Ur]
theorem Y5 (f:Nat->α)(x:α)(h:j≠i):Ur f i x j=f j:=by simp[Ur,h]
theorem Qic (k:α->β)(n:Nat)(f:Nat->α)(i:Nat)(x:α):((oV n).map λj=>k (f j)).set i (k x)=(oV n).map λj=>k (Ur f i x j):=by
 apply Mv
 ·simp
 intro j E G;rw[M9];by_cases e:i=j
 ·subst e;simp[YA]
 rw[OT e];simp[Y5 _ _ (Ne.symm e)]
structure Un (base:Nat)(w:O1)(n:Nat)(f:Nat->O2)(g:Nat->LI):Prop where
 own:∀i,i<n->Qq 3 base w (f i) (g i)
 dj:∀i j,i<n->j<n->i≠j->Dj (f i) (f j)
theorem Un.app {base:Nat}{f:Nat->O2}{g:Nat->LI}(h:Un base w n f g)(hi:i<n)(O:Qq 3 base w' v' l)(S:O5 (ob (f i)) w w')
  (T:∀b∈ob v',b∈ob (f i)\/↑w<=b):Un base w' n (Ur f i v') (Ur g i l):=by
 refine⟨λj E=>?_,λj k E H G=>?_⟩
 ·by_cases e:j=i
  ·subst e;rw[YA,YA];exact O
  rw[Y5 _ _ e,Y5 _ _ e];exact Qe (h.own j E) S (h.dj j i E hi e)
 have key:∀j,j<n->j≠i->Dj v' (f j):=λj E e b V I=>by
  rcases T b V with J|J
  ·exact h.dj i j hi E (Ne.symm e) b J I
  have:=Q8 (h.own j E) b I;omega
 by_cases e1:j=i
 ·subst e1;rw[YA,Y5 _ _ (Ne.symm G)];exact key k H (Ne.symm G)
 rw[Y5 _ _ e1];by_cases e2:k=i
 ·subst e2;rw[YA];exact(key j E e1).symm
 rw[Y5 _ _ e2];exact h.dj j k E H G
theorem Un.J {base:Nat}{f:Nat->O2}{g:Nat->LI}(h:Un base w n f g)(E:O5 X w w')(G:∀i,i<n->∀b∈ob (f i),b∉X):Un base w' n f g :=
 ⟨λi hi=>Qe (h.own i hi) E (G i hi),h.dj⟩
theorem Un.I {base:Nat}{f:Nat->O2}{g:Nat->LI}(h:Un base w n f g)(E:sX w w'):Un base w' n f g:=h.J E (λ_ _ _ _=>od)
def Xf (es:List Ed)(s:Nat):LI:=(es.filter λe=>decide (e.2.2=(s:Int))).map (·.1)
theorem Qen (es:List Ed)(e:Ed)(E:0<=e.2.2):∀s,Ur (Xf es) e.2.2.toNat (Xf es e.2.2.toNat++[e.1]) s=Xf (es++[e]) s:=by
 intro s;unfold Xf;rw[L4,Lr];by_cases h:s=e.2.2.toNat
 ·subst h;rw[YA];have:e.2.2=(e.2.2.toNat:Int):=oa
  simp[<-this]
 rw[Y5 _ _ h];have:¬e.2.2=(s:Int):=oa
 simp[this]
theorem Qhc {s:Nat}{p:Int}(h:p∈Xf es s):∃e∈es,e.1=p/\e.2.2=(s:Int):=by
 unfold Xf at h;simp only[OA,OH,decide_eq_true_eq]at h;obtain⟨e,⟨E,G⟩,H⟩:=h;exact⟨e,E,H,G⟩
theorem qO (es:List Ed)(s:Nat):(Xf es s).length<=es.length:=by
 unfold Xf;rw[Lh];exact Mg _ _
def bwE (s:Int)(st:LI×LI)(p:Int):LI×LI:=if O6 st.1 p.toNat<0 then(st.1.set p.toNat (O6 st.1 s.toNat+1),st.2++[p])else st
def zH (n:Nat)(to:LI):LI:=(oV n).map λi:Nat=>if(i:Int)∈to then 0 else -1
structure Qlo (n:Nat)(o q:LI):Prop where
 len:o.length=n
 q:∀x∈q,0<=x/\x<(n:Int)
 le:∀x∈o,-1<=x/\x+(neg o:Int)<=n
theorem QoS (l:LI):neg l<=l.length:=Mg _ _
theorem QpL {s p:Int}{st:LI×LI}(h:Qlo n st.1 st.2)(Y:0<=s/\s<(n:Int))(E:0<=O6 st.1 s.toNat)(J:0<=p/\p<(n:Int)):
  Qlo n (bwE s st p).1 (bwE s st p).2/\neg (bwE s st p).1+(bwE s st p).2.length=neg st.1+st.2.length/\0<=O6 (bwE s st p).1 s.toNat:=by
 unfold bwE;have O:=h.len;have G:p.toNat<st.1.length:=oa
 have S:s.toNat<st.1.length:=oa
 by_cases H:O6 st.1 p.toNat<0
 ·rw[OU H];have T:st.1[p.toNat]'G<0:=by rw[ZL G];exact H
  have hv:=h.le _ (KN S);have ha:=U0 st.1 p.toNat (O6 st.1 s.toNat+1) G T oa;refine⟨⟨by simp[O],λx hx=>?_,λx hx=>?_⟩,?_,?_⟩
  ·simp only[oW,oJ]at hx;rcases hx with hx|rfl
   ·exact h.q x hx
   exact J
  ·simp only[]at hx ⊢;rcases MU hx with I|I
   ·have:=h.le x I;omega
   subst I;omega
  ·simp only[oN,oP];omega
  simp only[];have V:s.toNat≠p.toNat:=λe=>by rw[e]at E;omega
  have:O6 (st.1.set p.toNat (O6 st.1 s.toNat+1)) s.toNat=O6 st.1 s.toNat:=by
   unfold O6;simp[oR,List.getElem?_set_ne (Ne.symm V)]
  rw[this];exact E
 rw[OT H];exact⟨h,rfl,E⟩
theorem qk (n:Nat)(to:LI):(zH n to).length=n:=by simp[zH]
theorem QpM {to:LI}(h:∀x∈to,0<=x/\x<(n:Int)):Qlo n (zH n to) to:=by
 refine⟨qk n to,h,λx hx=>?_⟩;have E:=QoS (zH n to);rw[qk]at E;unfold zH at hx;simp only[OA]at hx;obtain⟨i,_,rfl⟩:=hx;split <;> omega
theorem Qny {to:LI}{x:Int}(h:0<=x/\x<(n:Int))(hx:x∈to):O6 (zH n to) x.toNat=0:=by
 have E:x.toNat<(zH n to).length:=by rw[qk];omega
 rw[<-ZL E];have:((x.toNat:Nat):Int)=x:=oa
 simp[zH,this,hx]
def QpU (o q:LI):Prop:=∀x∈q,0<=O6 o x.toNat
theorem QkR {s p:Int}{st:LI×LI}(h:Qlo n st.1 st.2)(I:0<=O6 st.1 s.toNat)(J:0<=p/\p<(n:Int))(E:QpU st.1 st.2):QpU (bwE s st p).1 (bwE s st p).2:=by
 unfold bwE;have H:p.toNat<st.1.length:=by have:=h.len;omega
 by_cases G:O6 st.1 p.toNat<0
 ·rw[OU G];intro x hx;have e1:O6 (st.1.set p.toNat (O6 st.1 s.toNat+1)) x.toNat=if x.toNat=p.toNat then O6 st.1 s.toNat+1 else O6 st.1 x.toNat:=by
   by_cases e:x.toNat=p.toNat
   ·rw[OU e,e];unfold O6;simp[oR,H]
   rw[OT e];unfold O6;simp[oR,List.getElem?_set_ne (Ne.symm e)]
  rw[e1];split
  ·omega
  rename_i e;simp only[oW,oJ]at hx;rcases hx with hx|rfl
  ·exact E x hx
  exact OW U e
 rw[OT G];exact E
theorem QiC (n:Nat):(oO n (nS).cells.toList).flatten=(oV n).map (λ_=>nS):=by
 apply Mv
 ·simp[Value.cells]
 intro i E G;simp[Value.cells]
theorem Qhb (n:Nat):(oO n (sS 0).cells.toList).flatten=(gA n (λj=>if j<0 then -1 else 0)).map (Value.int .i64):=by
 apply Mv
 ·simp[Value.cells,gA]
 intro i E G;simp[Value.cells,gA]
theorem Qcr {rv:Nat->O2}(hi:i<n):((oV n).map rv)[0+i*1]?=some (rv i):=by simp[hi]
abbrev Lf:=List Bool
def lft (l:Lf)(s:Int):Bool:=l.getD s.toNat false
def cut (l:Lf)(s:Int):Lf:=l.set s.toNat false
def VF (ul:LI)(lf:Lf)(out:xw)(e:Ed):xw:=
 if lft lf e.1=false\/lft lf e.2.2=true\/e.2.1∉ul then out else if out.getLast?.map (·.1)=some e.1 then out else out++[(e.1,e.2.1)]
def lost (a:Q6)(ul:LI)(lf:Lf):xw:=a.ed.foldl (VF ul lf) []
def dsE (lf:Lf)(x:Int)(z:LI×LI)(y:Int):LI×LI:=if lft lf y=true/\O6 z.1 y.toNat<0 then(z.1.set y.toNat (O6 z.1 x.toNat+1),z.2++[y])else z
def dsL (es:List Ed)(lf:Lf):Nat->Nat->LI×LI->LI×LI
 | 0,_,z=>z
 | f+1,i,z=>if i<z.2.length then dsL es lf f (i+1) ((Xf es (O6 z.2 i).toNat).foldl (dsE lf (O6 z.2 i)) z)else z
def ds1 (lf:Lf)(z:LI×LI)(x:Int):LI×LI:=if lft lf x=true then(z.1.set x.toNat 0,z.2++[x])else z
def ds0 (a:Q6)(lf:Lf):LI×LI:=a.mr.foldl (ds1 lf) (oO a.st.toNat (-1),[])
def dsts (a:Q6)(lf:Lf):LI:=(dsL a.ed lf a.st.toNat 0 (ds0 a lf)).1
def Ud (lf:Lf):Nat->LI->LI
 | _,[]=>[]
 | i,d::l=>if lf.getD i false=true/\d<0 then(i:Int)::Ud lf (i+1) l else Ud lf (i+1) l
def nxs (a:Q6)(ul:LI)(lf:Lf):LI:=if(lost a ul lf).length≠0 then(lost a ul lf).map (·.1)else Ud lf 0 (dsts a lf)
def yD (a:Q6)(ul:LI):Nat->Lf->Lf
 | 0,lf=>lf
 | f+1,lf=>if(nxs a ul lf).length=0 then lf else yD a ul f ((nxs a ul lf).foldl cut lf)
def lf0 (n:Nat)(fb:LI):Lf:=fb.foldl cut (oO n true)
def Qbm (a:Q6)(fb ul:LI):Lf:=yD a ul (a.st.toNat+1) (lf0 a.st.toNat fb)
def rstr (a:Q6)(lf:Lf):Q6:=⟨a.al,a.st,a.mr,a.ed.filter λe=>lft lf e.2.2⟩
def Qio (a:Q6)(lf:Lf):Q6:=if a.st=0\/lft lf 0=false then⟨a.al,0,[],[]⟩else Yk (rstr a lf)
def Qbb (a:Q6)(fb ul:LI):Q6:=Qio a (Qbm a fb ul)
def fbs (s:Spc):LI:=s.fb.map (·.st)
def suA (c:ZF):Q6:=Qbb (spc c).a (fbs (spc c)) (unc c.ev)
def orB (b:Nat)(k:Nat):Nat:=b ||| (1 <<< k)
def rqB (x:XD):Nat->Nat->List XD->Nat
 | _,b,[]=>b
 | k,b,y::l=>rqB x (k+1) (if(y.a.al.any λe=>decide (e∈x.a.al))=true then orB b k else b) l
def prB (ls:xw):Nat:=ls.foldl (λb l=>orB b l.1.toNat) 0
def srR (c:ZF):LN:=c.rq.map λx=>rqB x 0 0 c.co
def srX (c:ZF):LN:=c.ex.map λx=>prB x.ls
def srC (c:ZF):LN:=c.cs.map λx=>prB x.ts
def srK (c:ZF)(k:Int):LN:=if k=1 then srR c else if k=2 then srX c else srC c
structure qu where
 kd:Int
 ix:Int
 co:LI
def Ub (k:Int):Nat->LN->List qu
 | _,[]=>[]
 | i,b::l=>⟨k,i,setK b 8⟩::Ub k (i+1) l
def O8 (c:ZF):List qu:=Ub 1 0 (srR c)++(Ub 2 0 (srX c)++Ub 3 0 (srC c))
def sets (c:ZF):LN:=srR c++(srX c++srC c)
def QrF (c:ZF):Nat:=(sets c).foldl (λl b=>l &&& (65535 ^^^ b)) (2 ^ c.co.length - 1)
def rem (c:ZF):LI:=setK (QrF c) 8
def mdE (c:ZF)(m:qu):Int:=if Zj c≠0 then Zj c else if m.kd<1\/3<m.kd then 11 else if m.ix<0\/((srK c m.kd).length:Int)<=m.ix then 10 else if m.co=setK ((srK c m.kd).getD m.ix.toNat 0) 8 then 0 else 13
structure Prt where
 co:LI
 rq:LI
 ex:LI
 cs:LI
def chs (l:List XD)(ix:LI):List XD:=ix.map λi=>l.getD i.toNat ⟨.empty,⟨[],0,[],[]⟩⟩
def ixP (co:LI)(ls:xw):xw:=ls.map λl=>((co.idxOf l.1:Int),l.2)
def mis (co:LI)(ls:xw):Bool:=ls.any λl=>decide (l.1∉co)
def QlW (c:ZF)(p:Prt):List qv:=p.ex.map λi=>⟨(c.ex.getD i.toNat ⟨.empty,[]⟩).nm,ixP p.co (c.ex.getD i.toNat ⟨.empty,[]⟩).ls⟩
def QlY (c:ZF)(p:Prt):List xK:=p.cs.map λi=>⟨(c.cs.getD i.toNat ⟨.empty,[],0⟩).nm,ixP p.co (c.cs.getD i.toNat ⟨.empty,[],0⟩).ts,(c.cs.getD i.toNat ⟨.empty,[],0⟩).bd⟩
def QgD (c:ZF)(p:Prt):ZF:=⟨c.ev,chs c.co p.co,chs c.rq p.rq,QlW c p,QlY c p⟩
def Qqm (c:ZF)(p:Prt):Bool:=(p.ex.any λi=>mis p.co (c.ex.getD i.toNat ⟨.empty,[]⟩).ls) || (p.cs.any λi=>mis p.co (c.cs.getD i.toNat ⟨.empty,[],0⟩).ts)
def Qbh (c:ZF)(p:Prt):Int :=
 if Zj c≠0 then Zj c else if KM c.co.length none p.co≠0 then KM c.co.length none p.co else if KM c.rq.length none p.rq≠0 then KM c.rq.length none p.rq else
 if KM c.ex.length none p.ex≠0 then KM c.ex.length none p.ex else if KM c.cs.length none p.cs≠0 then KM c.cs.length none p.cs else if Qqm c p=true then 13 else Zj (QgD c p)
def prt (m:qu):Prt:=⟨m.co,if m.kd=1 then[m.ix]else[],if m.kd=2 then[m.ix]else[],if m.kd≠1/\m.kd≠2 then[m.ix]else[]⟩
def ya (c:ZF)(m:qu):Int:=if mdE c m≠0 then mdE c m else Qbh c (prt m)
def Jv (c:ZF)(m:qu):ZF:=QgD c (prt m)
def msA (c:ZF)(m:qu):Q6:=suA (Jv c m)
def QrB (c:ZF):List Q6:=(O8 c).map (msA c)++(rem c).map λi=>(c.co.getD i.toNat ⟨.empty,⟨[],0,[],[]⟩⟩).a
def Qce (l:List Q6):Int:=if qt l≠0 then qt l else match xo l with|none=>3|some _=>0
def tgA (c:ZF):Q6:=syA (QrB c)
section
variable (k:α->Int)
def Qeo (x:α):List α->List α
 | []=>[x]
 | y::l=>if k x<=k y then x::y::l else y::Qeo x l
def isrt (l:List α):List α:=l.foldr (Qeo k) []
theorem qP (x:α):∀l,(Qeo k x l).Perm (x::l)
 | []=>.refl _
 | y::l=>by
  rw[Qeo];split
  ·exact .refl _
  exact((qP x l).cons y).D (.swap _ _ _)
theorem qN:∀l,(isrt k l).Perm l
 | []=>.refl _
 | x::l=>(qP k x _).D ((qN l).cons x)
theorem Qay (x:α):∀{l:List α},l.Pairwise (λa b=>k a<=k b)->(Qeo k x l).Pairwise (λa b=>k a<=k b)
 | [],_=>by rw[Qeo];simp
 | y::l,h=>by
  rw[Qeo];obtain⟨H,I⟩:=L8.1 h;split
  ·rename_i G;refine L8.2 ⟨λz E=>?_,h⟩;rcases Lj.1 E with rfl|E
   ·exact G
   exact Int.le_trans G (H z E)
  rename_i G;refine L8.2 ⟨λz E=>?_,Qay x I⟩;rcases Lj.1 ((qP k x l).mem_iff.1 E)with rfl|E
  ·omega
  exact H z E
theorem Qaw:∀l:List α,(isrt k l).Pairwise (λa b=>k a<=k b)
 | []=>.nil
 | x::l=>Qay k x (Qaw l)
theorem Qe3:∀{l m:List α},l.Perm m->l.Pairwise (λa b=>k a<=k b)->m.Pairwise (λa b=>k a<=k b)->(l.map k).Nodup->l=m
 | [],m,E,_,_,_=>(List.Perm.nil_eq E)
 | x::l,[],E,_,_,_=>by have:=E.length_eq;simp at this
 | x::l,y::m,E,H,I,J=>by
  obtain⟨O,l2⟩:=L8.1 H;obtain⟨m1,S⟩:=L8.1 I;have T:(k x::l.map k).Nodup:=J;obtain⟨n1,V⟩:=ND.1 T;have e:x=y:=by
   have hx:x∈y::m:=E.mem_iff.1 Lq;have Y:y∈x::l:=E.mem_iff.2 Lq;rcases Lj.1 hx with h|h
   ·exact h
   rcases Lj.1 Y with G|G
   ·exact G.symm
   exact OW (LD.2 ⟨y,G,Int.le_antisymm (m1 x h) (O y G)⟩) n1
  subst e;rw[Qe3 ((List.perm_cons x).1 E) l2 S V]
theorem QmN {l m:List α}(E:m.Perm l)(G:m.Pairwise (λa b=>k a<=k b))(H:(l.map k).Nodup):m=isrt k l :=
 Qe3 k (E.D (qN k l).symm) G (Qaw k l) ((E.map _).nodup_iff.2 H)
end
structure Yi where
 kd:Int
 nm:ByteArray
 a:Q6
 ls:List (ByteArray×Int)
 ts:List (ByteArray×Int)
 bd:Int
abbrev Vq:Q6:=⟨[],0,[],[]⟩
abbrev VN:ZF:=⟨[],[],[],[],[]⟩
def Uz (k:Int)(n:ByteArray)(x:Yi):Bool:=decide (x.kd=k) && decide (x.nm=n)
def YH (l:List Yi)(k:Int)(n:ByteArray):Nat:=l.findIdx (Uz k n)
def Vc (l:List Yi)(k:Int)(n:ByteArray):Bool:=decide (YH l k n<l.length)
def QaZ (a:Q6):Bool:=decide (a.st=0) && decide ((a.al.length:Int)+(a.mr.length:Int)+(a.ed.length:Int)=0)
def Qcz (x:Yi):Bool:=if x.kd=3 then QaZ x.a && decide ((x.ts.length:Int)=0) && decide (x.bd=0)else if x.kd=4 then QaZ x.a && decide ((x.ls.length:Int)=0)else decide ((x.ls.length:Int)+(x.ts.length:Int)=0) && decide (x.bd=0)
def dk1 (l:List Yi)(i:Nat)(x:Yi):Int :=
 if x.kd<1\/4<x.kd then 11 else if Xj x.nm=false then 7 else if Vc (l.take i) x.kd x.nm=true then 8 else if 0<i/\x.kd<(l.getD (i - 1) ⟨0,.empty,Vq,[],[],0⟩).kd then 5 else if Qcz x=false then 6 else 0
def dkL (l:List Yi):Nat->List Yi->Int
 | _,[]=>0
 | i,x::r=>if dk1 l i x≠0 then dk1 l i x else dkL l (i+1) r
def KY (l:List Yi):Int:=if 76<l.length then 3 else dkL l 0 l
def jJ (co:List XD)(i:Int):Option ByteArray:=if i<0\/(co.length:Int)<=i then none else some (co.getD i.toNat ⟨.empty,Vq⟩).nm
def Um (co:List XD):xw->Option (List (ByteArray×Int))
 | []=>some []
 | y::l=>match jJ co y.1 with
  | none=>none
  | some n=>(Um co l).map ((n,y.2)::·)
def J7 (co:List XD):List qv->Option (List Yi)
 | []=>some []
 | x::l=>match Um co x.ls with
  | none=>none
  | some r=>(J7 co l).map (⟨3,x.nm,Vq,r,[],0⟩::·)
def Kt (co:List XD):List xK->Option (List Yi)
 | []=>some []
 | x::l=>match Um co x.ts with
  | none=>none
  | some r=>(Kt co l).map (⟨4,x.nm,Vq,[],r,x.bd⟩::·)
def Vb (k:Int)(x:XD):Yi:=⟨k,x.nm,x.a,[],[],0⟩
def QfT (c:ZF):Option (List Yi):=match J7 c.co c.ex,Kt c.co c.cs with
 | some a,some b=>some (c.co.map (Vb 1)++(c.rq.map (Vb 2)++(a++b)))
 | _,_=>none
def ZQ (c:ZF):Int×List Yi:=match QfT c with
 | none=>(2,[])
 | some l=>if KY l≠0 then(KY l,[])else(0,l)
def YF (l:List Yi):List (ByteArray×Int)->LI->List (Int×Int)->Int×xw
 | [],_,o=>(0,isrt (·.1) o)
 | y::r,tk,o=>if Vc l 1 y.1=false then(9,[])else if(YH l 1 y.1:Int)∈tk then(8,[])else YF l r (tk++[(YH l 1 y.1:Int)]) (o++[((YH l 1 y.1:Int),y.2)])
def KL (all:List Yi)(x:Yi)(c:ZF):Int×ZF :=
 if x.kd=1 then(0,{ c with co:=c.co++[⟨x.nm,x.a⟩] })else if x.kd=2 then(0,{ c with rq:=c.rq++[⟨x.nm,x.a⟩] })else
 if x.kd=3 then(if(YF all x.ls [] []).1≠0 then((YF all x.ls [] []).1,VN)else(0,{ c with ex:=c.ex++[⟨x.nm,(YF all x.ls [] []).2⟩] }))else
 if x.kd=4 then(if(YF all x.ts [] []).1≠0 then((YF all x.ts [] []).1,VN)else(0,{ c with cs:=c.cs++[⟨x.nm,(YF all x.ts [] []).2,x.bd⟩] }))else(0,c)
def Qhy (all:List Yi):List Yi->ZF->Int×ZF
 | [],c=>(0,c)
 | x::l,c=>if(KL all x c).1≠0 then((KL all x c).1,VN)else Qhy all l (KL all x c).2
def J8 (ev:List Kq)(l:List Yi):Int×ZF:=if KY l≠0 then(KY l,VN)else Qhy l l ⟨ev,[],[],[],[]⟩
def zC (l:List Yi)(x:Yi):Int×List Yi :=
 if KY l≠0 then(KY l,[])else if KY [x]≠0 then(KY [x],[])else if Vc l x.kd x.nm=true then(0,l.set (YH l x.kd x.nm) x)else if l.length=76 then(3,[])else
 (0,l.take (l.findIdx λy=>decide (x.kd<y.kd))++x::l.drop (l.findIdx λy=>decide (x.kd<y.kd)))
def zD (l:List Yi)(k:Int)(n:ByteArray):Int×List Yi :=
 if KY l≠0 then(KY l,[])else if Vc l k n=false then(10,[])else(0,l.take (YH l k n)++l.drop (YH l k n+1))
def jM (l:List Yi)(e:Bool×Yi):Int×List Yi:=if e.1=true then zD l e.2.kd e.2.nm else zC l e.2
def QbS:List (Bool×Yi)->List Yi->Int×List Yi
 | [],l=>(0,l)
 | e::r,l=>if(jM l e).1≠0 then((jM l e).1,[])else QbS r (jM l e).2
def zG (l:List Yi)(es:List (Bool×Yi)):Int×List Yi:=if KY l≠0 then(KY l,[])else QbS es l
def cnF (ord:LI)(j:Nat)(e:Ed):Ed:=((j:Int),e.2.1,(ord.idxOf e.2.2:Int))
def cnR (a:Q6)(ord:LI)(j:Nat):List Ed:=(Z7 a.ed (Yg ord j)).map (cnF ord j)
theorem QcV {r:LI}(h:j<l.length):Yg (l++r) j=Yg l j:=by unfold Yg;rw[MP];exact jq h
structure NuI (st:Int)(ord num:LI):Prop where
 nd:ord.Nodup
 bd:∀s∈ord,0<=s/\s<st
 nl:num.length=st.toNat
 nu:∀k,0<=k->k<st->Yg num k=if k∈ord then(ord.idxOf k:Int)else -1
theorem QdV {st:Int}{c:Cs}(h:NuI st c.ord c.num){e:Ed}(O:0<=e.2.2)(S:e.2.2<st):NuI st (ZC i c e).ord (ZC i c e).num/\(∃r,(ZC i c e).ord=c.ord++r)/\(ZC i c e).mk'=c.mk'/\(ZC i c e).ed=c.ed++[cnF (ZC i c e).ord i e]/\e.2.2∈(ZC i c e).ord:=by
 have G:=h.nu e.2.2 O S;have V:e.2.2.toNat<c.num.length:=by rw[h.nl];omega
 unfold ZC;by_cases H:e.2.2∈c.ord
 ·rw[OU H]at G;rw[OT (by rw[G];omega)];refine⟨h,⟨[],od⟩,rfl,?_,H⟩;simp only[cnF];rw[G]
 rw[OT H]at G;rw[OU (by rw[G];decide)];have T:(c.ord++[e.2.2]).idxOf e.2.2=c.ord.length:=by rw[MC,OT H];simp
 refine⟨⟨yO h.nd H,λs E=>?_,by simp[h.nl],λk Y k1=>?_⟩,⟨[e.2.2],rfl⟩,rfl,?_,od⟩
 ·rcases Lc.1 E with E|E
  ·exact h.bd s E
  simp only[oJ]at E;subst E;exact⟨O,S⟩
 ·simp only[];by_cases ek:k=e.2.2
  ·subst ek;rw[OU od,T];unfold Yg;simp[oR,List.getElem?_set_self V]
  have ha:e.2.2.toNat≠k.toNat:=oa
  have e1:Yg (c.num.set e.2.2.toNat c.ord.length) k=Yg c.num k:=by unfold Yg;simp[oR,List.getElem?_set_ne ha]
  rw[e1,h.nu k Y k1];by_cases I:k∈c.ord
  ·rw[OU I,OU (Mf _ I),MC,OU I]
  rw[OT I,OT (λhb=>by
   rcases Lc.1 hb with J|J
   ·exact I J
   simp only[oJ]at J;exact ek J)]
 simp only[cnF];rw[T]
theorem yq {st:Int}{i:Nat}:∀(es:List Ed) (c:Cs),NuI st c.ord c.num->(∀e∈es,0<=e.2.2/\e.2.2<st)->NuI st (es.foldl (ZC i) c).ord (es.foldl (ZC i) c).num/\(∃r,(es.foldl (ZC i) c).ord=c.ord++r)/\(es.foldl (ZC i) c).mk'=c.mk' /\
  (es.foldl (ZC i) c).ed=c.ed++es.map (cnF (es.foldl (ZC i) c).ord i)/\∀e∈es,e.2.2∈(es.foldl (ZC i) c).ord
 | [],c,h,_=>⟨h,⟨[],od⟩,rfl,od,λe H=>by cases H⟩
 | e::es,c,h,E=>by
  obtain⟨I,b1⟩:=E e Lq;obtain⟨J,⟨O,S⟩,T,V,G⟩:=QdV (i:=i) h I b1;obtain⟨k1,⟨r2,k2⟩,k3,Y,k5⟩:=yq (i:=i) es (ZC i c e) J (λd hd=>E d (Lk _ hd));rw[L5];refine⟨k1,⟨O++r2,by rw[k2,S,LC]⟩,k3.D T,?_,λd hd=>?_⟩
  ·rw[Y,V,LC,LJ];have:cnF (ZC i c e).ord i e=cnF (es.foldl (ZC i) (ZC i c e)).ord i e:=by
    unfold cnF;rw[k2,MC,OU G]
   rw[this];rfl
  rcases Lj.1 hd with rfl|hd
  ·rw[k2];exact Mf _ G
  exact k5 d hd
structure CnG (a:Q6)(i:Nat)(c:Cs):Prop where
 nu:NuI a.st c.ord c.num
 le:i<=c.ord.length
 hd:Yg c.ord 0=0/\0<c.ord.length
 mk2:c.mk'=((oS 0 i).filter λj:Nat=>decide (Yg c.ord j∈a.mr)).map λj:Nat=>(j:Int)
 ed:c.ed=(oS 0 i).flatMap (cnR a c.ord)
 cl:∀j,j<i->∀e∈Z7 a.ed (Yg c.ord j),e.2.2∈c.ord
theorem Qnp {ord r:LI}(E:j<ord.length)(G:∀e∈Z7 a.ed (Yg ord j),e.2.2∈ord):cnR a (ord++r) j=cnR a ord j:=by
 unfold cnR;rw[QcV E];refine Nn λe H=>?_;unfold cnF;rw[MC,OU (G e H)]
theorem CnG.next (S:ZK a){c:Cs}(h:CnG a i c)(hi:i<c.ord.length):CnG a (i+1) (zx a i c):=by
 unfold zx;have I:(Yq a i c).ord=c.ord:=by unfold Yq;split <;> rfl
 have T:(Yq a i c).num=c.num:=by unfold Yq;split <;> rfl
 have V:(Yq a i c).ed=c.ed:=by unfold Yq;split <;> rfl
 obtain⟨k1,⟨r,k2⟩,k3,H,J⟩:=yq (st:=a.st) (i:=i) (Z7 a.ed (Yg c.ord i)) (Yq a i c) (by rw[I,T];exact h.nu) (λe Y=>(S.ed e (ZV Y).1).2.2.2);generalize (Z7 a.ed (Yg c.ord i)).foldl (ZC i) (Yq a i c)=d at k1 k2 k3 H J;rw[I]at k2;rw[V]at H;have pre:∀j:Nat,j<=i->Yg d.ord j=Yg c.ord j:=λj E=>by rw[k2];exact QcV oa
 refine⟨k1,by rw[k2];simp;omega,⟨by have:=pre 0 oa;rw[show((0:Nat):Int)=0 from rfl]at this;rw[this];exact h.hd.1,by rw[k2];simp;omega⟩,?_,?_,λj E=>?_⟩
 ·rw[k3,MB,L4,Lr,LT];have e1:((oS 0 i).filter λj:Nat=>decide (Yg d.ord j∈a.mr))=(oS 0 i).filter λj:Nat=>decide (Yg c.ord j∈a.mr):=by
   refine List.filter_congr λj E=>?_;rw[MD]at E;rw[pre j oa]
  rw[e1];unfold Yq;by_cases G:Yg c.ord i∈a.mr
  ·rw[OU G];simp only[];rw[Md,OU (by rw[pre i (Lx _)];exact OX G),Nm,h.mk2];rfl
  rw[OT G];rw[Md,OT (by rw[pre i (Lx _),OZ G];simp),Nm,h.mk2];simp
 ·rw[H,MB,LA,LT,h.ed];congr 1
  ·refine J1 λj E=>?_;rw[MD]at E;rw[k2];exact(Qnp oa (h.cl j oa)).symm
  simp only[Of,OM,Oy];unfold cnR;rw[pre i (Lx _)]
 by_cases e:j=i
 ·subst e;rw[pre j (Lx _)];exact J
 intro d' O;rw[pre j oa]at O;rw[k2];exact Mf _ (h.cl j oa d' O)
theorem QaS {a:Q6}(G:ZK a):∀(f i:Nat) (c:Cs),CnG a i c->∃E,CnG a E (Jf a f i c)/\((Jf a f i c).ord.length=E\/E=i+f)
 | 0,i,c,h=>⟨i,h,.inr U⟩
 | f+1,i,c,h=>by
  rw[Jf];split
  ·rename_i hi;obtain⟨E,H,I⟩:=QaS G f (i+1) _ (h.next G hi);exact⟨E,H,oa⟩
  exact⟨i,h,.inl (ov h.le)⟩
structure CnP (a:Q6)(ord:LI):Prop where
 nd:ord.Nodup
 bd:∀s∈ord,0<=s/\s<a.st
 hd:Yg ord 0=0/\0<ord.length
 al:(Yk a).al=a.al
 st:(Yk a).st=(ord.length:Int)
 mk2:(Yk a).mr=((oS 0 ord.length).filter λj:Nat=>decide (Yg ord j∈a.mr)).map λj:Nat=>(j:Int)
 ed:(Yk a).ed=(oS 0 ord.length).flatMap (cnR a ord)
 cl:∀j,j<ord.length->∀e∈Z7 a.ed (Yg ord j),e.2.2∈ord
theorem QhE (I:ZK a)(h0:0<a.st):∃ord,CnP a ord:=by
 have J:0<a.st.toNat:=oa
 have O:CnG a 0 (YZ a):=by
  refine⟨⟨by simp[YZ],λs H=>by simp[YZ]at H;subst H;omega,by simp[YZ],λk k0 k1=>?_⟩,Lo _,⟨by simp[YZ,Yg],by simp[YZ]⟩,by simp[YZ],by simp[YZ],λj hj=>oa⟩;by_cases ek:k=0
  ·subst ek;rw[OU (by simp[YZ])];unfold Yg YZ;simp[oR,J]
  rw[OT (by simpa[YZ]using ek)];unfold YZ;have S:0≠k.toNat:=oa
  have T:k.toNat<a.st.toNat:=oa
  unfold Yg;rw[Nv,NG S];simp[T]
 obtain⟨V,E,h2⟩:=QaS I a.st.toNat 0 (YZ a) O;have ha:(Jf a a.st.toNat 0 (YZ a)).ord.length<=a.st.toNat:=xG _ _ E.nu.nd (λx hx=>ov (E.nu.bd x hx));have Y:V=(Jf a a.st.toNat 0 (YZ a)).ord.length:=by have:=E.le;omega
 subst Y;have G:Yk a=⟨a.al,((Jf a a.st.toNat 0 (YZ a)).ord.length:Int),(Jf a a.st.toNat 0 (YZ a)).mk',(Jf a a.st.toNat 0 (YZ a)).ed⟩:=by unfold Yk;rw[OT oa]
 refine⟨(Jf a a.st.toNat 0 (YZ a)).ord,E.nu.nd,E.nu.bd,E.hd,by rw[G],by rw[G],?_,?_,E.cl⟩
 ·rw[G];exact E.mk2
 rw[G];exact E.ed
section
variable {p s:Q6}{pn xn v:Int}
end
def qw (lo hi:Nat)(ds:LN)(W:O1):Prop:=ds.Nodup/\∀D∈ds,lo<=D/\D<hi/\W.heap[D]?=some (.deferred (some []))
theorem qw.J {W:O1}(h:qw lo hi ds W)(H:O5 X W W')(I:∀b∈X,∃o:Obj,W.heap[b]?=some o/\o.isCells=true):qw lo hi ds W':=by
 refine⟨h.1,λD hD=>⟨(h.2 D hD).1,(h.2 D hD).2.1,?_⟩⟩;have E:=(h.2 D hD).2.2;refine(H.block D (LK.1 E).1 (λhx=>?_)).D E;obtain⟨o,G,J⟩:=I D hx;rw[E]at G;cases G;cases J
theorem qw.I {W:O1}(h:qw lo hi ds W)(E:sX W W'):qw lo hi ds W':=h.J E (λ_ G=>by cases G)
theorem qw.blk {W:O1}(h:qw lo hi ds W)(E:O5 [b] W W')(G:QZ ↑W b T cs):qw lo hi ds W' :=
 h.J E (λc H=>by
  have e:c=b:=by simpa using H
  subst e;exact G.cells)
theorem qw.up {W:O1}(h:qw lo hi ds W)(G:hi<=E):qw lo E ds W:=⟨h.1,λD hD=>⟨(h.2 D hD).1,ov (h.2 D hD).2.1,(h.2 D hD).2.2⟩⟩
theorem qw.cons {W:O1}{D:Nat}(h:qw lo hi ds W)(I:lo<=hi)(hD:hi<=D)(hd:W.heap[D]?=some (.deferred (some []))):qw lo ↑W (D::ds) W:=by
 have G:=(LK.1 hd).1;refine⟨ND.2 ⟨λH=>ov (h.2 D H).2.1,h.1⟩,λE hE=>?_⟩;rcases Lj.1 hE with rfl|hE
 ·exact⟨oa,G,hd⟩
 have:=h.2 E hE;exact⟨this.1,(LK.1 this.2.2).1,this.2.2⟩
theorem qw.stb (I:hi<=B):YI B (λW=>qw lo hi ds W):=λW W' X h G H=>by
 refine⟨h.1,λD hD=>⟨(h.2 D hD).1,(h.2 D hD).2.1,?_⟩⟩;have E:=(h.2 D hD).2.2;refine(G.block D (LK.1 E).1 (λhx=>?_)).D E;have:=(H D hx).1;have:=(h.2 D hD).2.1;omega
def Jp (k:Nat):LI:=(oV k).map λi:Nat=>(i:Int)
theorem yP (k:Nat):(Jp k).length=k:=by simp[Jp]
theorem Qap (k:Nat):Jp (k+1)=Jp k++[(k:Int)]:=by unfold Jp;rw[NC,Lr];rfl
theorem QcG (k:Nat)(x:Int):x∈Jp k↔0<=x/\x<(k:Int):=by
 unfold Jp;simp only[OA,List.mem_range];constructor
 ·rintro⟨i,hi,rfl⟩;omega
 intro h;exact⟨x.toNat,oa,oa⟩
theorem Qjb (k:Nat):Xa (Jp k):=by
 induction k with
 | zero=>exact List.Pairwise.nil
 | succ k ih =>
  rw[Qap];refine MH.2 ⟨ih,NM _ _,λx hx y E=>?_⟩;have:=(QcG k x).1 hx;simp at E;omega
theorem Qpr (lf:Lf)(x:Int)(z:LI×LI)(y:Int):dsE lf x z y=if lft lf y=true then bwE x z y else z:=by
 unfold dsE bwE;by_cases h:lft lf y=true <;> by_cases E:O6 z.1 y.toNat<0 <;> simp[h,E]
structure DsI (n:Nat)(z:LI×LI):Prop where
 ok:Qlo n z.1 z.2
 cnt:neg z.1+z.2.length=n
 s0:QpU z.1 z.2
theorem DsI.le {z:LI×LI}(h:DsI n z):z.2.length<=n:=by have:=h.cnt;omega
theorem Qkl {lf:Lf}{x y:Int}{z:LI×LI}(h:DsI n z)(hx:0<=x/\x<(n:Int))(E:0<=O6 z.1 x.toNat)(G:0<=y/\y<(n:Int)):
  DsI n (dsE lf x z y)/\0<=O6 (dsE lf x z y).1 x.toNat:=by
 rw[Qpr];split
 ·obtain⟨H,J,I⟩:=QpL h.ok hx E G;exact⟨⟨H,ov h.cnt,QkR h.ok E G h.s0⟩,I⟩
 exact⟨h,E⟩
theorem Qna (lf:Lf)(x:Int)(z:LI×LI)(y:Int):∃r,(dsE lf x z y).2=z.2++r:=by
 unfold dsE;split
 ·exact⟨[y],U⟩
 exact⟨[],od⟩
theorem Qm9 {n:Nat}{lf:Lf}{x:Int}(hx:0<=x/\x<(n:Int)):∀(l:LI) (z:LI×LI),DsI n z->0<=O6 z.1 x.toNat->(∀y∈l,0<=y/\y<(n:Int)) ->
  DsI n (l.foldl (dsE lf x) z)/\∃r,(l.foldl (dsE lf x) z).2=z.2++r
 | [],z,h,_,_=>⟨h,[],od⟩
 | y::l,z,h,G,E=>by
  obtain⟨H,I⟩:=Qkl (lf:=lf) h hx G (E y Lq);obtain⟨J,r2,O⟩:=Qm9 hx l _ H I (λy S=>E y (Lk _ S));obtain⟨T,V⟩:=Qna lf x z y;exact⟨J,T++r2,by rw[L5,O,V,LC]⟩
theorem Qkk {lf:Lf}{f:Nat}{z:LI×LI}(h:¬i<z.2.length):dsL es lf f i z=z:=by
 cases f with
 | zero=>rfl
 | succ f=>rw[dsL,OT h]
theorem Qgd {x:Int}(E:0<=x):(zH n l).set x.toNat 0=zH n (l++[x]):=by
 apply Mv
 ·simp[zH]
 intro i G H;rw[M9];by_cases e:x.toNat=i
 ·have:(i:Int)=x:=oa
  rw[OU e];simp[zH,this]
 have:(i:Int)≠x:=oa
 rw[OT e];simp[zH,this]
theorem Qc9 {lf:Lf}(H:∀x∈a.mr,0<=x)(k:Nat):(a.mr.take k).foldl (ds1 lf) (oO a.st.toNat (-1),[])=(zH a.st.toNat ((a.mr.take k).filter (lft lf)),(a.mr.take k).filter (lft lf)):=by
 induction k with
 | zero =>
  simp only[List.take_zero,List.foldl_nil,List.filter_nil];congr 1;apply Mv
  ·simp[zH]
  intro i I J;simp[zH]
 | succ k ih =>
  by_cases G:k<a.mr.length
  ·rw[Ln G,MF,ih,L4];simp only[List.foldl_cons,List.foldl_nil,ds1];by_cases E:lft lf (a.mr[k]'G)=true
   ·rw[OU E,Qgd (H _ (Lm G))];simp[E]
   rw[OT E];simp[E]
  have e:a.mr.take (k+1)=a.mr.take k:=by rw[Lu oa,Lu oa]
  rw[e];exact ih
theorem Qpt {lf:Lf}(E:∀x∈a.mr,0<=x):ds0 a lf=(zH a.st.toNat (a.mr.filter (lft lf)),a.mr.filter (lft lf)):=by
 have:=Qc9 (lf:=lf) E a.mr.length;rw[M4]at this;exact this
theorem Qmn (l:LI)(G:l.Nodup)(H:∀x∈l,0<=x/\x<(n:Int)):neg (zH n l)+l.length=n:=by
 have key:∀k,k<=l.length->neg (zH n (l.take k))+k=n:=by
  intro k;induction k with
  | zero =>
   intro _;have e:zH n (l.take 0)=oO n (-1):=by
    apply Mv
    ·simp[zH]
    intro i I V;simp[zH]
   rw[e];unfold neg;simp
  | succ k ih =>
   intro Y;have I:=ih oa;have hx:=H _ (Lm (show k<l.length by omega));rw[Ln (show k<l.length by omega),<-Qgd hx.1];have J:(l[k]'oa).toNat<(zH n (l.take k)).length:=by rw[qk];omega
   have ha:=U0 (zH n (l.take k)) (l[k]'oa).toNat 0 J (by
    have e:(((l[k]'oa).toNat:Nat):Int)=l[k]'oa:=oa
    have O:(l[k]'oa)∉l.take k:=λh=>by
     obtain⟨j,S,E⟩:=LO h;rw[Nh]at E;have T:j<k:=by simp at S;omega
     have:=(MT.1 G) j k oa oa T;exact this E
    simp[zH,e,O]) (NQ _)
   omega
 have:=key l.length (Lx _)
 rwa [M4]at this
theorem Qps {lf:Lf}(E:ZK a)(H:a.st=(n:Int)):DsI n (ds0 a lf):=by
 have G:∀x∈a.mr.filter (lft lf),0<=x/\x<(n:Int):=λx hx=>by rw[<-H];exact E.mr x (L6.1 hx).1
 have e:a.st.toNat=n:=oa
 rw[Qpt (λx hx=>(E.mr x hx).1),e];refine⟨QpM G,Qmn _ ((E.mri.imp (λh=>oa)).filter _) G,λx hx=>?_⟩;rw[Qny (G x hx) hx];exact NQ _
def UA (l:Lf):Nat:=l.countP (· == true)
theorem Qno (l:Lf):UA l<=l.length:=List.countP_le_length
theorem QfY (l:Lf)(s:Int):(cut l s).length=l.length:=by simp[cut]
theorem jm:∀(xs:LI) (l:Lf),(xs.foldl cut l).length=l.length
 | [],_=>rfl
 | x::xs,l=>by rw[L5,jm xs,QfY]
theorem Qf0:∀(l:Lf) (i:Nat),UA (l.set i false)+(if l.getD i false=true then 1 else 0)=UA l
 | [],i=>by simp[UA]
 | b::l,0=>by cases b <;> simp[UA]
 | b::l,i+1=>by
  have ih:=Qf0 l i;unfold UA at *;simp only[List.set_cons_succ,List.countP_cons,List.getD_cons_succ];omega
theorem Qf1 (l:Lf)(s:Int):UA (cut l s)+(if lft l s=true then 1 else 0)=UA l:=Qf0 l s.toNat
theorem Qdh:∀(xs:LI) (l:Lf),UA (xs.foldl cut l)<=UA l
 | [],_=>Lx _
 | x::xs,l=>by
  have E:=Qdh xs (cut l x);have G:=Qf1 l x;rw[L5];omega
theorem Qkv {xs:LI}{l:Lf}(h:0<xs.length)(E:∀x∈xs,lft l x=true):UA (xs.foldl cut l)<UA l:=by
 cases xs with
 | nil=>simp at h
 | cons x xs =>
  have H:=Qdh xs (cut l x);have G:=Qf1 l x;rw[OU (E x Lq)]at G;rw[L5];omega
def Qlg (a:Q6)(lf:Lf)(out:xw):Prop:=∀p∈out,lft lf p.1=true/\∃e∈a.ed,e.1=p.1/\e.2.1=p.2
theorem Qmt {lf:Lf}{out:xw}{e:Ed}(h:Qlg a lf out)(G:e∈a.ed):Qlg a lf (VF ul lf out e)/\(VF ul lf out e).length<=out.length+1:=by
 unfold VF;split
 ·exact⟨h,oa⟩
 rename_i H;split
 ·exact⟨h,oa⟩
 refine⟨λp E=>?_,od⟩;simp only[oW,oJ]at E;rcases E with E|rfl
 ·exact h p E
 exact⟨by cases I:lft lf e.1 with|true=>rfl|false=>exact OW (.inl I) H,e,G,rfl,rfl⟩
theorem yT {a:Q6}{ul:LI}{lf:Lf}:∀(l:List Ed) (out:xw),(∀e∈l,e∈a.ed)->Qlg a lf out->Qlg a lf (l.foldl (VF ul lf) out)/\(l.foldl (VF ul lf) out).length<=out.length+l.length
 | [],out,_,h=>⟨h,od⟩
 | e::l,out,E,h=>by
  obtain⟨G,J⟩:=Qmt (ul:=ul) h (E e Lq);obtain⟨H,O⟩:=yT l _ (λe I=>E e (Lk _ I)) G;exact⟨H,by rw[L5,LU];omega⟩
theorem QbB (a:Q6)(ul:LI)(lf:Lf):Qlg a lf (lost a ul lf)/\(lost a ul lf).length<=a.ed.length:=by
 have:=yT (ul:=ul) (lf:=lf) a.ed [] (λ_ h=>h) (λp E=>by cases E);unfold lost;simpa using this
theorem qn (lf:Lf):∀(l:LI) (i:Nat),(∀x∈Ud lf i l,lft lf x=true/\(i:Int)<=x/\x<(i:Int)+l.length)/\(Ud lf i l).length<=l.length
 | [],i=>⟨λx hx=>(by cases hx),Lx _⟩
 | d::l,i=>by
  obtain⟨E,H⟩:=qn lf l (i+1);unfold Ud;split
  ·rename_i G;refine⟨λx hx=>?_,by simp;omega⟩;rcases Lj.1 hx with rfl|hx
   ·exact⟨by unfold lft;simpa using G.1,NQ _,by simp;omega⟩
   have:=E x hx;exact⟨this.1,oa,by simp only[oX];omega⟩
  refine⟨λx hx=>?_,by simp;omega⟩;have:=E x hx;exact⟨this.1,oa,by simp only[oX];omega⟩
theorem Qi5 {lf:Lf}(x:Int)(hx:x∈nxs a ul lf):lft lf x=true:=by
 unfold nxs at hx;split at hx
 ·obtain⟨p,E,rfl⟩:=LD.1 hx;exact((QbB a ul lf).1 p E).1
 exact((qn lf (dsts a lf) 0).1 x hx).1
theorem QgM {f:Nat}{lf:Lf}(h:(nxs a ul lf).length=0):yD a ul f lf=lf:=by
 cases f with
 | zero=>rfl
 | succ f=>rw[yD,OU h]
theorem QgL {f:Nat}{lf:Lf}(h:(nxs a ul lf).length≠0):yD a ul (f+1) lf=yD a ul f ((nxs a ul lf).foldl cut lf):=by rw[yD,OT h]
theorem Qi6 {lf:Lf}(h:(nxs a ul lf).length≠0):UA ((nxs a ul lf).foldl cut lf)<UA lf:=Qkv oa (λx hx=>Qi5 x hx)
theorem QgH (h:ZK a)(lf:Lf):ZK (rstr a lf):=
 ⟨h.al,h.ali,h.st0,h.st1,h.mr,h.mri,λe E=>h.ed e (L6.1 E).1,h.edi.filter _⟩
def pst (v:Int)(a:Q6)(x:Int):Option Int:=if v∈a.al then xj a.ed x v else some x
def nx (v:Int)(A:Nat->Q6)(x:Nat->Int)(i:Nat):Int:=(pst v (A i) (x i)).getD 0
abbrev QD (p:Int×Int):LV:=[sS p.1,sS p.2]
theorem YK (p:Int×Int):(QD p).length=2:=rfl
abbrev jT (L:LN)(H:xA)(v:O2)(l:xw):Prop:=Zn L H v l.length 2 (l.flatMap QD)
abbrev Zs (e:Kq):LV:=[.string e.nm,.bool e.co,.bool e.ob,.bool e.fo,sS e.fl]
theorem U9 (e:Kq):(Zs e).length=5:=rfl
abbrev JF (s:ByteArray):Prop:=s.size<=9223372036854775807
structure Uf (L:LN)(H:xA)(v:O2)(l:List Kq):Prop where
 arr:Zn L H v l.length 5 (l.flatMap Zs)
 nm:∀e∈l,JF e.nm
theorem Uf.I {L:LN}{w w':O1}{v:O2}{l:List Kq}(h:Uf L ↑w v l)(E:sX w w'):Uf L ↑w' v l:=⟨h.arr.I E,h.nm⟩
theorem Uf.st {L:LN}{w w':O1}{v:O2}{l:List Kq}(h:Uf L ↑w v l)(E:O5 L w w'):Uf L ↑w' v l:=⟨h.arr.st E,h.nm⟩
theorem Uf.up {L L':LN}{H:xA}{v:O2}{l:List Kq}(h:Uf L H v l)(E:∀b∈L',b∈L\/H.size<=b):Uf L' H v l:=⟨h.arr.up E,h.nm⟩
structure IV where
 nm:ByteArray
 p:AV
def IV.it (q:IV):XD:=⟨q.nm,q.p.a⟩
abbrev QJ (q:IV):LV:=[.string q.nm,q.p.va,sS q.p.a.st,q.p.vm,q.p.ve]
theorem Yv (q:IV):(QJ q).length=5:=rfl
structure X4 (L:LN)(H:xA)(v:O2)(qs:List IV):Prop where
 arr:Zn L H v qs.length 5 (qs.flatMap QJ)
 each:∀q∈qs,ZM L H q.p.va q.p.vm q.p.ve q.p.a
 nm:∀q∈qs,JF q.nm
structure XV where
 nm:ByteArray
 v:O2
 ls:xw
def XV.x (q:XV):qv:=⟨q.nm,q.ls⟩
abbrev Q3 (q:XV):LV:=[.string q.nm,q.v]
theorem Xx (q:XV):(Q3 q).length=2:=rfl
structure jD (L:LN)(H:xA)(v:O2)(qs:List XV):Prop where
 arr:Zn L H v qs.length 2 (qs.flatMap Q3)
 each:∀q∈qs,jT L H q.v q.ls
 nm:∀q∈qs,JF q.nm
structure KV where
 nm:ByteArray
 v:O2
 ts:xw
 bd:Int
def KV.k (q:KV):xK:=⟨q.nm,q.ts,q.bd⟩
abbrev Q9 (q:KV):LV:=[.string q.nm,q.v,sS q.bd]
theorem Xq (q:KV):(Q9 q).length=3:=rfl
structure jz (L:LN)(H:xA)(v:O2)(qs:List KV):Prop where
 arr:Zn L H v qs.length 3 (qs.flatMap Q9)
 each:∀q∈qs,jT L H q.v q.ts
 nm:∀q∈qs,JF q.nm
theorem X4.I {L:LN}{w w':O1}{v:O2}{qs:List IV}(h:X4 L ↑w v qs)(E:sX w w'):X4 L ↑w' v qs:=⟨h.arr.I E,λq G=>(h.each q G).I E,h.nm⟩
theorem X4.st {L:LN}{w w':O1}{v:O2}{qs:List IV}(h:X4 L ↑w v qs)(E:O5 L w w'):X4 L ↑w' v qs:=⟨h.arr.st E,λq G=>(h.each q G).st E,h.nm⟩
theorem X4.up {L L':LN}{H:xA}{v:O2}{qs:List IV}(h:X4 L H v qs)(E:∀b∈L',b∈L\/H.size<=b):X4 L' H v qs:=⟨h.arr.up E,λq G=>(h.each q G).up E,h.nm⟩
theorem jD.I {L:LN}{w w':O1}{v:O2}{qs:List XV}(h:jD L ↑w v qs)(E:sX w w'):jD L ↑w' v qs:=⟨h.arr.I E,λq G=>(h.each q G).I E,h.nm⟩
theorem jD.st {L:LN}{w w':O1}{v:O2}{qs:List XV}(h:jD L ↑w v qs)(E:O5 L w w'):jD L ↑w' v qs:=⟨h.arr.st E,λq G=>(h.each q G).st E,h.nm⟩
theorem jD.up {L L':LN}{H:xA}{v:O2}{qs:List XV}(h:jD L H v qs)(E:∀b∈L',b∈L\/H.size<=b):jD L' H v qs:=⟨h.arr.up E,λq G=>(h.each q G).up E,h.nm⟩
theorem jz.I {L:LN}{w w':O1}{v:O2}{qs:List KV}(h:jz L ↑w v qs)(E:sX w w'):jz L ↑w' v qs:=⟨h.arr.I E,λq G=>(h.each q G).I E,h.nm⟩
theorem jz.st {L:LN}{w w':O1}{v:O2}{qs:List KV}(h:jz L ↑w v qs)(E:O5 L w w'):jz L ↑w' v qs:=⟨h.arr.st E,λq G=>(h.each q G).st E,h.nm⟩
theorem jz.up {L L':LN}{H:xA}{v:O2}{qs:List KV}(h:jz L H v qs)(E:∀b∈L',b∈L\/H.size<=b):jz L' H v qs:=⟨h.arr.up E,λq G=>(h.each q G).up E,h.nm⟩
structure CL where
 ve:O2
 vc:O2
 vr:O2
 vx:O2
 vk:O2
 ev:List Kq
 co:List IV
 rq:List IV
 ex:List XV
 cs:List KV
def CL.V (c:CL):ZF:=⟨c.ev,c.co.map (·.it),c.rq.map (·.it),c.ex.map (·.x),c.cs.map (·.k)⟩
abbrev CL.cells (c:CL):LV:=[c.ve,c.vc,c.vr,c.vx,c.vk]
abbrev CL.val (c:CL):O2:=.agg #[c.ve,c.vc,c.vr,c.vx,c.vk]
structure ZI (L:LN)(H:xA)(c:CL):Prop where
 ev:Uf L H c.ve c.ev
 co:X4 L H c.vc c.co
 rq:X4 L H c.vr c.rq
 ex:jD L H c.vx c.ex
 cs:jz L H c.vk c.cs
theorem ZI.I {L:LN}{w w':O1}{c:CL}(h:ZI L ↑w c)(E:sX w w'):ZI L ↑w' c:=⟨h.ev.I E,h.co.I E,h.rq.I E,h.ex.I E,h.cs.I E⟩
theorem ZI.st {L:LN}{w w':O1}{c:CL}(h:ZI L ↑w c)(E:O5 L w w'):ZI L ↑w' c:=⟨h.ev.st E,h.co.st E,h.rq.st E,h.ex.st E,h.cs.st E⟩
theorem ZI.up {L L':LN}{H:xA}{c:CL}(h:ZI L H c)(E:∀b∈L',b∈L\/H.size<=b):ZI L' H c:=⟨h.ev.up E,h.co.up E,h.rq.up E,h.ex.up E,h.cs.up E⟩
theorem ZI.ones {c:CL}(h:ZI L H c):Zb c.cells:=⟨h.ev.arr.one,h.co.arr.one,h.rq.arr.one,h.ex.arr.one,h.cs.arr.one,Z⟩
def QeV (N:Nat)(H:xA)(v:O2)(k:ZF):Prop:=∃c:CL,v=c.val/\c.V=k/\∀L:LN,(∀b∈L,b<N)->ZI L H c
theorem V8 (s:ByteArray)(ha:JF s)(w:O1):QY sV 130 [.string s] w λr w'=>r=.bool (Xj s)/\w'=w:=by
 unfold JF at ha;refine Zq func130 ?_;refine Qc<|Qb<|Qd<|Qj<|x (Qd7 U)<|Qa<|xe<|Q7 (α:=Nat) [(2,5),(8,46)] (λz=>[(8,sS z)]) (λz w'=>w'=w/\z<=s.size/\(oS z (s.size - z)).all (nmQ s)=(oS 0 s.size).all (nmQ s)) (λz=>s.size - z) 0 La ⟨U,Lo _,by rw[NU]⟩ ?_;rintro k g Y ⟨rfl,hk,E⟩;refine Zo rfl U (λG=>?_) (λG=>?_)
 ·refine Qw ?_;have hb:s.size<=k:=by have he:¬(k:Int)<(s.size:Int):=G;omega
  rw[Ql3 hb]at E;have H:Xj s=decide (0<s.size/\s.size<=32):=by unfold Xj;rw[<-E];simp
  rw[H];refine QX (α:=Bool) [(2,2),(47,54)] (λz=>[(2,.bool z)]) (λz w'=>w'=Y/\z=decide (0<s.size/\s.size<=32)) om ?_ ?_
  ·refine Qs<|Qa<|x (Qd7 U)<|xb (Yc U U) (λhf=>?_) (λhf=>?_)
   ·refine Qa<|Qa<|x (Qd7 U)<|x (Vi U U)<|QC U<|Qb<|⟨_,La,U,by first|exact bT oa|exact bF oa|exact bD oa⟩
   refine Qa<|Zt<|QC U<|Qb<|⟨_,La,U,by first|exact bT oa|exact bF oa|exact bD oa⟩
  rintro z g w2 ⟨rfl,rfl⟩;exact Qh ⟨[_],La,U,U⟩
 have I:k<s.size:=by have he:(k:Int)<(s.size:Int):=G;omega
 rw[QiD I,L9]at E;refine Qf<|Qd<|Qm<|Qj<|Qb<|Qj<|Qa<|x (QiN (i:=k) U U I)<|Qb ?_;have J:nmQ s k=decide (nmP k (chr s k)):=rfl;refine Zf (chr s k) λc O=>?_;rw[O]at J;refine QX (α:=Bool) [(5,5),(14,31)] (λz=>[(5,.bool z)]) (λz w'=>w'=Y/\z=decide ((97<=c/\c<=122)\/(65<=c/\c<=90)\/c=95)) om ?_ ?_
 ·rw[<-O];refine Qs<|Qa<|xb (YC U U) (λhg=>?_) (λhg=>?_)
  ·refine Qa<|Qa<|xb (Vi U U) (λhh=>?_) (λhh=>?_)
   ·refine QC U<|Qa<|Zt<|Zt<|QC U<|Qa<|Ys<|x (qE U) <|
     Qb<|⟨_,La,U,by first|exact bT oa|exact bF oa|exact bD oa⟩
   refine QC U<|Qa<|Qa<|xb (YC U U) (λS=>?_) (λS=>?_)
   ·refine Qa<|Qa<|xb (Vi U U) (λT=>?_) (λT=>?_)
    ·refine QC U<|QC U<|Qa<|Ys<|QC U<|Qb<|⟨_,La,U,by first|exact bT oa|exact bF oa|exact bD oa⟩
    refine QC U<|QC U<|Qa<|Qa<|x (QR U U)<|QC U<|Qb<|⟨_,La,U,by first|exact bT oa|exact bF oa|exact bD oa⟩
   refine Qa<|Ys<|QC U<|QC U<|Qa<|Qa<|x (QR U U)<|QC U<|x Qi <|
    xe ?_
   exact⟨_,La,U,by first|exact bT oa|exact bF oa|exact bD oa⟩
  refine Qa<|Ys<|QC U<|Qa<|Qa<|xb (YC U U) (λS=>?_) (λS=>?_)
  ·refine Qa<|Qa<|xb (Vi U U) (λT=>?_) (λT=>?_)
   ·refine QC U<|QC U<|Qa<|Ys<|QC U<|Qb<|⟨_,La,U,by first|exact bT oa|exact bF oa|exact bD oa⟩
   refine QC U<|QC U<|Qa<|Qa<|x (QR U U)<|QC U<|Qb<|⟨_,La,U,by first|exact bT oa|exact bF oa|exact bD oa⟩
  refine Qa<|Ys<|QC U<|QC U<|Qa<|Qa<|x (QR U U)<|QC U<|x Qi <|
   xe ?_
  exact⟨_,La,U,by first|exact bT oa|exact bF oa|exact bD oa⟩
 rintro z g w4 ⟨rfl,rfl⟩;refine QX (α:=Bool) [(32,45)] (λz=>[(45,.bool z)]) (λz w'=>w'=w4/\z=decide (¬nmP k c)) om ?_ ?_
 ·unfold nmP;rw[<-O];refine Qs<|Qa<|xb (yF U) (λhi=>?_) (λhi=>?_)
  ·refine Qa<|Qa<|xb (QR U U) (λhj=>?_) (λhj=>?_)
   ·refine Qa<|Ys<|QC U<|Qa<|Ys<|QC U<|QC U<|xe ?_;exact⟨_,La,U,by first|exact bT oa|exact bF oa|exact bD oa⟩
   refine Qa<|Qa<|xb (YX U U) (λhl=>?_) (λhl=>?_)
   ·refine QC U<|Qa<|Ys<|QC U<|QC U<|xe ?_;exact⟨_,La,U,by first|exact bT oa|exact bF oa|exact bD oa⟩
   refine QC U<|Qa<|Qa<|x (Yc U U)<|QC U<|QC U<|xe ?_;exact⟨_,La,U,by first|exact bT oa|exact bF oa|exact bD oa⟩
  refine Qa<|Zt<|Zt<|Zt<|KB<|QC U<|xe ?_;exact⟨_,La,U,by first|exact bT oa|exact bF oa|exact bD oa⟩
 rintro z g w5 ⟨rfl,rfl⟩;refine QO rfl (λV=>?_) (λV=>?_)
 ·refine Qc<|Qb ?_;have H:Xj s=false:=by
   unfold Xj;rw[<-E,J,OZ V];rfl
  exact Qh ⟨[_],La,by rw[H];rfl,U⟩
 refine Qf ?_;have hm:nmP k c:=Lp.1 V;refine Qs<|QH U U<|Qa<|xe ?_;rw[J,OX hm,OO]at E;exact⟨k+1,oa,La,U,I,E⟩
def nmM (l:List ByteArray):List (ByteArray×O2):=l.map λs=>(s,.bool true)
theorem Qmm (l:List ByteArray)(s:ByteArray):O9 (nmM l) s=if s∈l then some (.bool true)else none:=by
 induction l with
 | nil=>rfl
 | cons a l ih =>
  show(if a=s then some (Value.bool true)else O9 (nmM l) s)=_
  rw[ih];by_cases h:a=s
  ·subst h;simp
  have:s≠a:=λe=>h e.symm;simp[h,this]
theorem Qfl {l:List ByteArray}{s:ByteArray}(h:s∉l):xd (nmM l) s (.bool true)=nmM (l++[s]):=by
 induction l with
 | nil=>rfl
 | cons a l ih =>
  have E:a≠s:=λe=>h (by subst e;exact Lq);show(if a=s then(a,Value.bool true)::nmM l else(a,Value.bool true)::xd (nmM l) s (.bool true))=_
  rw[OT E,ih (λG=>h (Lk _ G))];rfl
section
variable {pS:String}
theorem Qcx [hm:Mp P t kt et (.bool false)][hk:Key P kt J0]{x:O3}{l:List ByteArray}{s:ByteArray}(h:Yu J0 ↑w b (nmM l))(hx:ev f x=.map (some b))(E:ev f y=.string s):
  (execOp (ev f) ⟨d,.lookup t x y false,ty,pS,af,gd⟩).run P w=.ok (.value (.bool (decide (s∈l)))) w:=by
 rw[JM h hx E,Qmm];by_cases G:s∈l <;> simp[G]
end
theorem QeC {s:List ByteArray}{l:List Kq}{k:Nat}(h:k<l.length):zn s (l.drop k)=if JA s (l[k]'h)≠0 then JA s (l[k]'h)else zn (s++[(l[k]'h).nm]) (l.drop (k+1)):=by
 rw[Zc h];rfl
theorem jh {v:O2}{l:List Kq}(h:Uf L ↑w v l):QY sV 73 [v] w λr w'=>r=sS (Kv l)/\sX w w':=by
 have h0:=h.arr.le;refine Zq func73 ?_;refine Qc<|Qb<|Qd<|Qj<|QF h.arr U<|x (Yc U U)<|xe<|QO rfl (λh8=>?_) (λh8=>?_)
 ·refine Qc<|Qb<|Qh ⟨[_],La,by unfold Kv;rw[OU (by have h9:(32:Int)<(l.length:Int):=h8;omega)];rfl,O5.Z _ _⟩
 have hl:Kv l=zn [] l:=by unfold Kv;rw[OT (by have h9:¬(32:Int)<(l.length:Int):=h8;omega)]
 rw[hl];refine Qf<|Qc<|Qn<|YM J0 λb9 w1 hg hm ho=>Qb<|Qd<|Qj<|QF (h.arr.I hg) U<|Qa<|xe<|Q7 (α:=Nat×List ByteArray) [(2,2),(5,5),(12,50)] (λz=>[(12,sS z.1)]) (λz w'=>z.1<=l.length/\sX w w'/\Yu J0 ↑w' b9 (nmM z.2)/\zn z.2 (l.drop z.1)=zn [] l) (λz=>l.length - z.1) (0,[]) La
  ⟨Lo _,hg,ho,U⟩ ?_
 rintro⟨k,sn⟩ g w2 ⟨hk,I,hp,G⟩;refine Zo rfl U (λha=>?_) (λha=>?_)
 ·refine Qw ?_;have hq:l.length<=k:=by have hr:¬(k:Int)<(l.length:Int):=ha;omega
  rw[Lt hq]at G;refine Qc<|Qb<|Qh ⟨[_],La,by rw[<-G];rfl,I⟩
 have T:k<l.length:=by have hr:(k:Int)<(l.length:Int):=ha;omega
 rw[QeC T]at G;have hh:=h.nm _ (Lm T);refine Qf<|Qd<|Qm<|Qc<|xig U9 (h.arr.I I) U U T λh2 hi=>?_;refine Zf (l[k]'T) λe he=>?_;rw[he]at hi G hh;refine x (Qr hi U U)<|QM [.string .empty,.bool false,.bool false,.bool false,sS 0] λb5 w3 hs ht H=>QK (Zs e) H ⟨U,U,U,U,U,Z⟩ λw4 hu H =>
  xe ?_
 have J:sX w2 w4:=hs.O hu ht;have hj:=hp.I J;refine Qd<|Qm<|Qc<|Qo U H U U<|Qz<|(V8 e.nm hh _).Y ?_;rintro r5 w5 ⟨rfl,rfl⟩;refine x (Zy U)<|Qb<|QU U (λhb=>?_) (λhb=>?_)
 ·have O:Xj e.nm=false:=by simpa using hb
  have E:JA sn e=7:=by unfold JA;rw[OU O]
  refine Qc<|Qb<|Qh ⟨[_],La,by rw[<-G,E];rfl,I.D J⟩
 have O:¬Xj e.nm=false:=by simpa using hb
 refine Qj<|Qo U H U U<|x (Qcx hj U U)<|Qb<|QO U (λS=>?_) (λS=>?_)
 ·have E:JA sn e=8:=by unfold JA;rw[OT O,OU S]
  refine Qc<|Qb<|Qh ⟨[_],La,by rw[<-G,E];rfl,I.D J⟩
 refine QX (α:=Bool) [(26,34)] (λz=>[(26,.bool z)]) (λz w'=>w'=w5/\z=decide (e.fl<0\/4<e.fl)) om ?_ ?_
 ·refine Qs<|Qo U H U U<|xb (YX U U) (λhv=>?_) (λhv=>?_)
  ·refine Qa<|Zt<|QC U<|Qb<|⟨_,La,U,by first|exact bT oa|exact bF oa|exact bD oa⟩
  refine Qa<|Qo U H U U<|x (Yc U U)<|QC U<|Qb<|⟨_,La,U,by first|exact bT oa|exact bF oa|exact bD oa⟩
 rintro z g w6 ⟨rfl,rfl⟩;refine QO rfl (λV=>?_) (λV=>?_)
 ·have E:JA sn e=2:=by unfold JA;rw[OT O,OT S,OU V]
  refine Qc<|Qb<|Qh ⟨[_],La,by rw[<-G,E];rfl,I.D J⟩
 refine QX (α:=Bool) [(35,46)] (λz=>[(35,.bool z)]) (λz w'=>w'=w6/\z=decide (e.fl≠0/\(e.co || e.ob)=true)) om ?_ ?_
 ·refine Qs<|Qo U H U U<|xb (XH U U) (λY=>?_) (λY=>?_)
  ·refine Qa<|QQ U<|xB (Qk H U U) (λhc=>?_) (λhc=>?_)
   ·refine Qa<|Ys<|QC U<|QC U<|Qb<|⟨_,La,U,by rw[hc,OX ⟨Y,od⟩]⟩
   refine Qa<|Qo U H U U<|QC U<|QC U<|Qb<|⟨_,La,U,?_⟩;show e.ob=_;rw[hc];cases e.ob <;> simp[show ¬e.fl=0 from Y]
  refine Qa<|Zt<|Zt<|QC U<|Qb<|⟨_,La,U,bF (λE=>Y E.1)⟩
 rintro z g w7 ⟨rfl,rfl⟩;refine QO rfl (λhf=>?_) (λhf=>?_)
 ·have E:JA sn e=13:=by unfold JA;rw[OT O,OT S,OT V,OU hf]
  refine Qc<|Qb<|Qh ⟨[_],La,by rw[<-G,E];rfl,I.D J⟩
 have E:JA sn e=0:=by unfold JA;rw[OT O,OT S,OT V,OT hf]
 rw[E,OT (λh=>h rfl)]at G;refine Qf<|Qs<|Qa<|Qo U H U U<|Qn<|XY (k:=e.nm) hj U U λw8 hw hy=>xe ?_;refine Qs<|QH U U<|Qa<|xe ?_;have hz:Yu J0 ↑w8 b9 (nmM (sn++[e.nm])):=by rw[<-Qfl S];exact hy
 exact⟨(k+1,sn++[e.nm]),og,La,T,(I.D J).O hw hm,hz,G⟩
theorem QcP {α:Type}(q:α->Bool)(x:α):∀(l:List α) (i:Nat),ixs q i (l++[x])=ixs q i l++if q x=true then[((i+l.length:Nat):Int)]else[]
 | [],i=>by simp[ixs]
 | a::l,i=>by
  simp only[Oh,ixs,(QcP q x l (i+1)),oX];rw[show i+1+l.length=i+(l.length+1) by omega];split <;> simp
theorem QbI {α:Type}(q:α->Bool):∀(l:List α) (i:Nat),(ixs q i l).length<=l.length
 | [],i=>by simp[ixs]
 | a::l,i=>by
  have ih:=QbI q l (i+1);unfold ixs;split <;> simp <;> omega
theorem QjF (q:α->Bool){l:List α}{k:Nat}(h:k<l.length):ixs q 0 (l.take (k+1))=ixs q 0 (l.take k)++if q (l[k]'h)=true then[(k:Int)]else[]:=by
 rw[Ln h,QcP];simp[Nat.min_eq_left (Nat.le_of_lt h)]
theorem QhC [Fu sV g fn]{q:Kq->Bool}(hq:∀(e:Kq) (w:O1),QY sV g [sT (Zs e)] w λr w'=>r=.bool (q e)/\sX w w'){v:O2}{l:List Kq}(h:Uf L ↑w v l):
  QY sV 231 [v,.func (.func g) #[] #[]] w λr w'=>sX w w'/\Qq 3 ↑w w' r (ixs q 0 l):=by
 have hr:=h.arr.le;refine Zq func231 ?_;refine Qc<|Qb<|Qc<|Qb<|Qd<|Qj<|QF h.arr U<|Qa<|xe<|Q7 (α:=Nat×O2) [(5,7),(10,22)] (λz=>[(5,z.2),(10,sS z.1)]) (λz w'=>z.1<=l.length/\sX w w'/\Qq 3 ↑w w' z.2 (ixs q 0 (l.take z.1))) (λz=>l.length - z.1) (0,nS) oB
  ⟨Lo _,O5.Z _ _,QE _ _ _ _⟩ ?_
 rintro⟨k,vo⟩ g w1 ⟨hk,E,I⟩;simp only[]at hk I;refine Zo rfl U (λO=>?_) (λO=>?_)
 ·refine Qw ?_;have hc:l.length<=k:=by have hf:¬(k:Int)<(l.length:Int):=O;omega
  rw[Lu hc]at I;refine Qj<|Qb<|Qh ⟨[_],La,E,I⟩
 have G:k<l.length:=by have hf:(k:Int)<(l.length:Int):=O;omega
 have H:=QjF q G;have hs:=QbI q (l.take k) 0;have ht:(l.take k).length=k:=by simp;omega
 refine Qf<|Qd<|Qm<|Qj<|xig U9 (h.arr.I E) U U G λhu ha=>?_;refine Zf (l[k]'G) λe he=>?_;rw[he]at ha H;refine x (Qr ha U U)<|QM [.string .empty,.bool false,.bool false,.bool false,sS 0] λb7 w2 hg hh S=>x Qi <|
  QK (Zs e) S ⟨U,U,U,U,U,Z⟩ λw3 hi S=>xe ?_
 have hj:sX w1 w3:=hg.O hi hh;refine Qj<|QT S U U<|Qn<|xc (first:=[]) (capt:=[]) U<|(hq e w3).Y ?_;rintro r4 w4 ⟨rfl,hl⟩;have J:=hj.D hl;have T:=Ql I J;have hv:=(E.D J).size;refine xe<|QU rfl (λV=>?_) (λV=>?_)
 ·rw[OU V]at H;refine Qs<|Qa<|Qa<|Qn<|Za [[sS k]] λhw w5 Y hy hm=>?_;have hn:=Ql T Y;have hz:=Y.size;refine Qn<|Q2 (news:=[sS k]) (L:=[]) hn U U U (hm.at od) oq oa oa λv6 w6 ho hp h0 =>
   Qb<|Qs<|QH U U<|Qa<|xe ?_
  refine⟨(k+1,v6),og,oB,G,((E.D J).D Y).S hp (λb hb=>.inr ((Qg T) b hb).1),?_⟩;simp only[];rw[H];exact Qq.snoc ho
 rw[OT (by rw[V];decide),LS]at H;refine Qf<|Qs<|QH U U<|Qa<|xe ?_;exact⟨(k+1,vo),og,oB,G,E.D J,by simp only[];rw[H];exact T⟩
theorem QeL (e:Kq)(w:O1):QY sV 226 [sT (Zs e)] w λr w'=>r=.bool (!e.co)/\sX w w':=by
 refine Zq func226 ?_;refine Qc<|Zl (Zs e) λb1 H E I G=>Qb<|Qc<|Qo U G U U<|x (Zy U)<|Qb<|Qh ⟨[_],La,U,E⟩
theorem QhO {v:O2}{l:List Kq}(h:Uf L ↑w v l):QY sV 155 [v,sS 2] w λr w'=>sX w w' /\
  ∃vo,r=.tuple #[vo,sS (Kv l)]/\Qq 3 ↑w w' vo (if Kv l=0 then unc l else[]):=by
 refine Zq func155 ?_;refine Qc<|x Qi<|Qb<|Qd<|Qj<|Qz<|(jh h).Y ?_;rintro r1 O ⟨rfl,I⟩;refine Qb<|Qj<|Zx U U<|xe<|QO rfl (λG=>?_) (λG=>?_)
 ·refine Qj<|x Qi<|Qb<|Qh ⟨[_,_],oB,I,_,U,by rw[OT G];exact QE _ _ _ _⟩
 have J:Kv l=0:=Lp.1 G;refine Qf<|Qc<|Qn<|YM Ux λho w2 S E T=>Qn<|Jn (k:=1) T U U λw3 V Y=>Qn<|Jn (k:=2) Y U U λw4 ha hb =>
  Qn<|Jn (k:=3) hb U U λw5 hc he=>Qn<|Jn (k:=4) he U U λw6 hf hg=>Qn<|Jn (k:=5) hg U U λw7 hh hi=>Qn<|Jn (k:=6) hi U U λw8 hj hk =>
  Qa<|Qb ?_
 have hl:sX O w8:=(((((S.O V E).O ha E).O hc E).O hf E).O hh E).O hj E;refine Qj<|Qa<|x (Qag (k:=(2:Int)) hk U U U)<|Qa<|QW U U<|QW U U<|x Qi<|Qb<|Qd<|Qj<|x (Zy U)<|xe<|ZO rfl<|Qf ?_;have H:=I.D hl;refine Qj<|Qa<|Qz<|(QhC QeL (h.I H)).Y ?_;rintro r9 w9 ⟨hm,hn⟩;refine x Qi<|Qb<|Qh ⟨[_,_],oB,H.D hm,_,by rw[J];rfl,?_⟩;rw[OU J];exact ZB hn H.size
theorem QcU (n:Int)(w:O1):QY sV 216 [sS n] w λr w'=>r=.bool (grt n)/\w'=w:=by
 refine Zq func216 ?_;refine Qc<|Qb<|QX (α:=Bool) [(2,8)] (λz=>[(2,.bool z)]) (λz w'=>w'=w/\z=grt n) om ?_ ?_
 ·refine Qs<|Qa<|xb (YX U U) (λE=>?_) (λE=>?_)
  ·refine Qa<|Ys<|QC U<|Qb<|⟨_,La,U,by unfold grt;rw[OX E];rfl⟩
  refine Qa<|Qa<|x (Yc U U)<|QC U<|Qb<|⟨_,La,U,by unfold grt;rw[OZ E];rfl⟩
 rintro z g G ⟨rfl,rfl⟩;exact Qh ⟨[_],La,U,U⟩
theorem QeB {sz:LI}{ls:xw}{k:Nat}(h:k<ls.length):X6 sz (pv (ls.map (·.1)) k) (ls.drop k)=if(ls[k]'h).1<0\/(sz.length:Int)<=(ls[k]'h).1 then 2 else if jL (pv (ls.map (·.1)) k) (ls[k]'h).1=true then 5 else if(ls[k]'h).2<0\/O6 sz (ls[k]'h).1.toNat<=(ls[k]'h).2 then 2 else X6 sz (pv (ls.map (·.1)) (k+1)) (ls.drop (k+1)):=by
 rw[Zc h,VU (oA h),Mr];rfl
theorem qi {sz:LI}{ls:xw}{nm:ByteArray}(hS:QL [] ↑w vs sz)(O:jT [] ↑w vl ls):
  QY sV 140 [.agg #[vs,vx,vk],.agg #[.string nm,vl]] w λr w'=>r=sS (Jr sz ls)/\sX w w':=by
 have hG:=O.le;refine Zq func140 ?_;refine Qc<|Zl [vs,vx,vk] λb2 w1 hz hH Y=>Zl [.string nm,vl] λb3 w2 hq hI ha=>Qb ?_;have H:=hz.D hq
 replace Y:=Y.I hq;refine Qd<|Qc<|Qo U ha U U<|QF (O.I H) U<|x (QR U U)<|xe<|QO rfl (λhb=>?_) (λhb=>?_)
 ·refine Qc<|Qb<|Qh ⟨[_],La,by unfold Jr;rw[OU (by have h0:(ls.length:Int)=0:=hb;omega)];rfl,H⟩
 have h1:ls.length≠0:=by have h0:¬(ls.length:Int)=0:=hb;omega
 have h2:Jr sz ls=X6 sz none ls:=by unfold Jr;rw[OT h1]
 rw[h2];refine Qf<|Qd<|Qc<|Qo U ha U U<|QF (O.I H) U<|Qa<|xe<|Q7 (α:=Nat) [(4,6),(14,61)] (λz=>[(14,sS z)]) (λz w'=>z<=ls.length/\sX w2 w'/\X6 sz (pv (ls.map (·.1)) z) (ls.drop z)=X6 sz none ls) (λz=>ls.length - z) 0 La
  ⟨Lo _,O5.Z _ _,U⟩ ?_
 rintro k g w3 ⟨hk,S,G⟩;have hf:=H.D S;have hr:=Y.I S;have hs:=O.I hf;have ht:=hS.I hf;refine Zo rfl U (λhg=>?_) (λhg=>?_)
 ·refine Qw ?_;have h3:ls.length<=k:=by have h4:¬(k:Int)<(ls.length:Int):=hg;omega
  rw[Lt h3]at G;refine Qc<|Qb<|Qh ⟨[_],La,by rw[<-G];rfl,hf⟩
 have T:k<ls.length:=by have h4:(k:Int)<(ls.length:Int):=hg;omega
 rw[QeB T]at G;refine Qf<|Qd<|Qm<|Qj<|xig YK hs U U T λhJ hu=>?_;refine Zf (ls[k]'T) λe he=>?_;rw[he]at hu G;refine x (Qr hu U U)<|QM [sS 0,sS 0] λb6 w4 h5 h6 J=>x Qi<|QK (QD e) J oB λw5 h7 J=>xe ?_;have I:sX w3 w5:=h5.O h7 h6;have hv:=S.D I;refine Qm<|QX (α:=Bool) [(19,30)] (λz=>[(19,.bool z)]) (λz w'=>w'=w5/\z=decide (e.1<0\/(sz.length:Int)<=e.1)) om ?_ ?_
 ·refine Qs<|Qo U J U U<|xb (YX U U) (λh8=>?_) (λh8=>?_)
  ·refine Qa<|Zt<|Zt<|QC U<|Qb<|⟨_,La,U,by first|exact bT oa|exact bF oa|exact bD oa⟩
  refine Qa<|Qo U J U U<|Qo U (hr.I I) U U<|QF (ht.I I) U<|x (YC U U) <|
   QC rfl<|Qb<|⟨_,La,U,by first|exact bT oa|exact bF oa|exact bD oa⟩
 rintro z g w6 ⟨rfl,rfl⟩;refine QO rfl (λhh=>?_) (λhh=>?_)
 ·rw[OU hh]at G;refine Qc<|Qb<|Qh ⟨[_],La,by rw[<-G];rfl,H.D hv⟩
 rw[OT hh]at G;have h9:e.1=((e.1.toNat:Nat):Int):=oa
 have hA:e.1.toNat<sz.length:=oa
 refine QX (α:=Bool) [(31,45)] (λz=>[(31,.bool z)]) (λz w'=>sX w6 w'/\z=jL (pv (ls.map (·.1)) k) e.1) om ?_ ?_
 ·refine Zz [] (YW 0 15 [])<|p Qv<|pb (λ_=>Yc U U) (λhi=>?_) (λhi=>?_)
  ·have hj:k≠0:=by have hB:(0:Int)<(k:Int):=hi;omega
   have hk1:((k:Int) - 1)=((k - 1:Nat):Int):=oa
   have hm:k - 1<ls.length:=oa
   refine p Qv<|p (QG U)<|pq (λ_ E=>Qk (J.I E) U U)<|p (QG U)<|pq (λ_ E=>Qk (((ha.I S).I I).I E) U U) <|
    p Qv<|p (λ_=>XR U U ⟨oa,oa⟩)<|Lg.pig (g:=QD) (i:=k - 1) U YK (hs.I I) U (OV sS hk1) hm λhK hC=>p (λ_=>Zd U) <|
    pq (λ_ E=>Qy ((hC.fld 0 _ U).I E) U)<|p (λ_=>Vi U U)<|p (Y9 U)<|p ZG<|pe ?_
   refine⟨_,La,O5.C _ _,?_⟩;have:pv (ls.map (·.1)) k=some (ls[k - 1]'hm).1:=by simp[pv,hj,hm]
   rw[this];rfl
  have hj:k=0:=by have hB:¬(0:Int)<(k:Int):=hi;omega
  refine p Qv<|ps<|ps<|ps<|ps<|ps<|ps<|ps<|ps<|ps<|ps<|p (Y9 U)<|p ZG<|pe ?_;exact⟨false,La,O5.C _ _,by simp[pv,hj,jL]⟩
 rintro z g w7 ⟨V,rfl⟩;have hw:=hv.D V;refine QU rfl (λhn=>?_) (λhn=>?_)
 ·rw[OU hn]at G;refine Qc<|Qb<|Qh ⟨[_],La,by rw[<-G];rfl,H.D hw⟩
 rw[OT (by simp[hn])]at G;have ho:=J.I V;refine QX (α:=Bool) [(46,60)] (λz=>[(46,.bool z)]) (λz w'=>sX w7 w'/\z=decide (e.2<0\/O6 sz e.1.toNat<=e.2)) om ?_ ?_
 ·refine Zz [] (YW 0 15 [])<|p (QG U)<|pq (λ_ E=>Qk (ho.I E) U U)<|pb (λ_=>YX U U) (λhD=>?_) (λhD=>?_)
  ·refine p Qv<|ps<|ps<|ps<|ps<|ps<|ps<|ps<|ps<|ps<|p (Y9 U)<|p ZG<|pe ?_;exact⟨_,La,O5.C _ _,by first|exact bT oa|exact bF oa|exact bD oa⟩
  refine p Qv<|p (QG U)<|pq (λ_ E=>Qk (ho.I E) U U)<|p (QG U)<|pq (λ_ E=>Qk (((hr.I I).I V).I E) U U) <|
   p (QG rfl)<|pq (λ_ E=>Qk (ho.I E) U U)<|pic (i:=e.1.toNat) U ((ht.I I).I V) U (OV sS h9) hA λhL hE=>pq (λ_ E=>Qy (hE.I E) U) <|
   p (λ_=>YC U U)<|p (Y9 U)<|p ZG<|pe ?_
  exact⟨_,La,O5.C _ _,by first|exact bT oa|exact bF oa|exact bD oa⟩
 rintro z g w8 ⟨hF,rfl⟩;have hy:=hw.D hF;refine QO rfl (λhp=>?_) (λhp=>?_)
 ·rw[OU hp]at G;refine Qc<|Qb<|Qh ⟨[_],La,by rw[<-G];rfl,H.D hy⟩
 rw[OT hp]at G;refine Qf<|Qs<|QH U U<|Qa<|xe ?_;exact⟨k+1,oa,La,T,hy,G⟩
theorem QeA {sz:LI}{ls:xw}{k:Nat}(h:k<ls.length):Kn sz (pv (ls.map (·.1)) k) (ls.drop k)=if(ls[k]'h).1<0\/(sz.length:Int)<=(ls[k]'h).1 then 2 else if jL (pv (ls.map (·.1)) k) (ls[k]'h).1=true then 5 else if(ls[k]'h).2=0\/grt (ls[k]'h).2=true then 2 else Kn sz (pv (ls.map (·.1)) (k+1)) (ls.drop (k+1)):=by
 rw[Zc h,VU (oA h),Mr];rfl
theorem UG {sz:LI}{ls:xw}{nm:ByteArray}{bd:Int}(hS:QL [] ↑w vs sz)(O:jT [] ↑w vl ls):
  QY sV 142 [.agg #[vs,vx,vk],.agg #[.string nm,vl,sS bd]] w λr w'=>r=sS (XN sz ⟨nm,ls,bd⟩)/\sX w w':=by
 have hF:=O.le;refine Zq func142 ?_;refine Qc<|Zl [vs,vx,vk] λb2 w1 h1 hG Y=>Zl [.string nm,vl,sS bd] λb3 w2 hr hH ha=>Qb ?_;have G:=h1.D hr
 replace Y:=Y.I hr;refine Qd<|Qc<|Qo U ha U U<|QF (O.I G) U<|x (QR U U)<|xe<|QO rfl (λhb=>?_) (λhb=>?_)
 ·refine Qc<|Qb<|Qh ⟨[_],La,by unfold XN;rw[OU (by have h2:(ls.length:Int)=0:=hb;show ls.length=0;omega)];rfl,G⟩
 have h3:ls.length≠0:=by have h2:¬(ls.length:Int)=0:=hb;omega
 have h4:XN sz ⟨nm,ls,bd⟩=if Kn sz none ls≠0 then Kn sz none ls else if grt bd=true then 2 else 0:=by unfold XN;rw[OT h3]
 rw[h4];refine Qf<|Qd<|Qc<|Qo U ha U U<|QF (O.I G) U<|Qa<|xe<|Q7 (α:=Nat) [(4,6),(14,55)] (λz=>[(14,sS z)]) (λz w'=>z<=ls.length/\sX w2 w'/\Kn sz (pv (ls.map (·.1)) z) (ls.drop z)=Kn sz none ls) (λz=>ls.length - z) 0 La
  ⟨Lo _,O5.Z _ _,U⟩ ?_
 rintro k g w3 ⟨hk,S,E⟩;have T:=G.D S;have hs:=ha.I S;have ht:=O.I T;refine Zo rfl U (λhf=>?_) (λhf=>?_)
 ·refine Qw ?_;have h5:ls.length<=k:=by have h6:¬(k:Int)<(ls.length:Int):=hf;omega
  rw[Lt h5]at E;have h7:Kn sz none ls=0:=E.symm;rw[h7,OT (λh=>h rfl)];refine Qd<|Qc<|Qo U hs U U<|Qz<|(QcU bd _).Y ?_;rintro r4 w4 ⟨rfl,rfl⟩;refine xe<|QU U (λhh=>?_) (λhh=>?_)
  ·rw[OU hh];refine Qc<|Qb<|Qh ⟨[_],La,U,T⟩
  rw[OT (by simp[hh])];refine Qf<|Qc<|Qb<|Qh ⟨[_],La,U,T⟩
 have V:k<ls.length:=by have h6:(k:Int)<(ls.length:Int):=hf;omega
 rw[QeA V]at E;refine Qf<|Qd<|Qm<|Qj<|xig YK ht U U V λhI hu=>?_;refine Zf (ls[k]'V) λe he=>?_;rw[he]at hu E;refine x (Qr hu U U)<|QM [sS 0,sS 0] λb6 w4 h8 h9 H=>x Qi<|QK (QD e) H oB λw5 hA H=>xe ?_;have I:sX w3 w5:=h8.O hA h9;have hv:=S.D I;refine Qm<|QX (α:=Bool) [(19,30)] (λz=>[(19,.bool z)]) (λz w'=>w'=w5/\z=decide (e.1<0\/(sz.length:Int)<=e.1)) om ?_ ?_
 ·refine Qs<|Qo U H U U<|xb (YX U U) (λhB=>?_) (λhB=>?_)
  ·refine Qa<|Zt<|Zt<|QC U<|Qb<|⟨_,La,U,by first|exact bT oa|exact bF oa|exact bD oa⟩
  refine Qa<|Qo U H U U<|Qo U ((Y.I S).I I) U U<|QF ((hS.I T).I I) U<|x (YC U U) <|
   QC rfl<|Qb<|⟨_,La,U,by first|exact bT oa|exact bF oa|exact bD oa⟩
 rintro z g w6 ⟨rfl,rfl⟩;refine QO rfl (λhi=>?_) (λhi=>?_)
 ·rw[OU hi]at E;refine Qc<|Qb<|Qh ⟨[_],La,by rw[<-E,OU ol];rfl,G.D hv⟩
 rw[OT hi]at E;refine QX (α:=Bool) [(31,45)] (λz=>[(31,.bool z)]) (λz w'=>sX w6 w'/\z=jL (pv (ls.map (·.1)) k) e.1) om ?_ ?_
 ·refine Zz [] (YW 0 15 [])<|p Qv<|pb (λ_=>Yc U U) (λhj=>?_) (λhj=>?_)
  ·have hm:k≠0:=by have hC:(0:Int)<(k:Int):=hj;omega
   have hk1:((k:Int) - 1)=((k - 1:Nat):Int):=oa
   have hn:k - 1<ls.length:=oa
   refine p Qv<|p (QG U)<|pq (λ_ J=>Qk (H.I J) U U)<|p (QG U)<|pq (λ_ J=>Qk ((hs.I I).I J) U U) <|
    p Qv<|p (λ_=>XR U U ⟨oa,oa⟩)<|Lg.pig (g:=QD) (i:=k - 1) U YK (ht.I I) U (OV sS hk1) hn λhJ hD=>p (λ_=>Zd U) <|
    pq (λ_ J=>Qy ((hD.fld 0 _ U).I J) U)<|p (λ_=>Vi U U)<|p (Y9 U)<|p ZG<|pe ?_
   refine⟨_,La,O5.C _ _,?_⟩;have:pv (ls.map (·.1)) k=some (ls[k - 1]'hn).1:=by simp[pv,hm,hn]
   rw[this];rfl
  have hm:k=0:=by have hC:¬(0:Int)<(k:Int):=hj;omega
  refine p Qv<|ps<|ps<|ps<|ps<|ps<|ps<|ps<|ps<|ps<|ps<|p (Y9 U)<|p ZG<|pe ?_;exact⟨false,La,O5.C _ _,by simp[pv,hm,jL]⟩
 rintro z g w7 ⟨hw,rfl⟩;have hy:=hv.D hw;refine QU rfl (λho=>?_) (λho=>?_)
 ·rw[OU ho]at E;refine Qc<|Qb<|Qh ⟨[_],La,by rw[<-E,OU ol];rfl,G.D hy⟩
 rw[OT (by simp[ho])]at E;have hz:=H.I hw;refine QX (α:=Bool) [(46,54)] (λz=>[(46,.bool z)]) (λz w'=>sX w7 w'/\z=decide (e.2=0\/grt e.2=true)) om ?_ ?_
 ·refine Qs<|Qo U hz U U<|xb (QR U U) (λhp=>?_) (λhp=>?_)
  ·refine Qa<|Zt<|QC U<|Qb<|⟨_,La,O5.Z _ _,bT (.inl hp)⟩
  refine Qa<|Qo U hz U U<|Qz<|(QcU e.2 _).Y ?_;rintro r9 w9 ⟨rfl,rfl⟩;refine QC U<|Qb<|⟨grt e.2,La,O5.Z _ _,?_⟩;cases hg:grt e.2 with
  | true=>exact bT (.inr U)
  | false=>exact bF (λh=>by rcases h with h|h;exact hp h;cases h)
 rintro z g w8 ⟨hE,rfl⟩;have h0:=hy.D hE;refine QO rfl (λhq=>?_) (λhq=>?_)
 ·rw[OU hq]at E;refine Qc<|Qb<|Qh ⟨[_],La,by rw[<-E,OU ol];rfl,G.D h0⟩
 rw[OT hq]at E;refine Qf<|Qs<|QH U U<|Qa<|xe ?_;exact⟨k+1,oa,La,V,h0,E⟩
open Go.RowKit
def QdP:Fr->LN->LV->Fr
 | f,p::ps,v::vs=>QdP (upd f p v) ps vs
 | f,_,_=>f
theorem qB {n:Nat}{ds:LN}:∀(ps:LN) (vs:LV) (a:Act) (f:Fr),Xm n ds a f->(∀p∈ps,p<n) ->
  Xm n ds { tmps:=(ps.zip vs).foldl (λt (x:Nat×O2)=>t.setIfInBounds x.1 x.2) a.tmps,defers:=a.defers } (QdP f ps vs)
 | [],_,a,f,h,_=>by cases h;exact⟨by assumption,by assumption,by assumption⟩
 | p::ps,[],a,f,h,_=>by cases h;exact⟨by assumption,by assumption,by assumption⟩
 | p::ps,v::vs,a,f,h,E=>by
  exact qB ps vs _ _ (h.put (dst:=some p) (λd e=>by cases e;exact E p Lq) v) (λq G=>E q (Lk _ G))
def rdE {α:Type}(B:Nat)(L:LN)(I:List α->O1->Prop)(X:Exit->List α->O1->Prop)(xs:List α)(W:O1):Exit->LN->Fr->O1->Prop
 | .normal,_,_,W'=>Vg B L W W'/\I xs W'
 | .ret,_,_,W'=>Vg B L W W'/\X .ret xs W'
 | .exit i,_,_,W'=>Vg B L W W'/\X (.exit i) xs W'
 | _,_,_,_=>False
theorem Qlj {m:Nat}{Q:Exit->LN->Fr->O1->Prop}{g:O3}{ps:LN}{assign body:Code}(L:LN)(Y:1<=m)
    [hF:Fu P gf fn]  (hg:ev f g=.func (.func gf) #[] capt.toArray) {encs:α->LV} {S Sp:List α->Prop}  (hp:∀p∈ps,p<n) (hj:∀x,(encs x).length=ps.length)
  (hm:SeqStopsK (fen none) (m - 1) P gf capt.toArray (λx=>(encs x).toArray) (Lw ↑w L) S Sp N w)
  (I:List α->O1->Prop) (hI:∀s,YI ↑w (I s)) (X:Exit->List α->O1->Prop) (hX:∀e s,YI ↑w (X e s)) (h0:I [] w) (A:Fr->α->Fr->O1->Prop) (hA:∀x E,YI ↑w (A f x E))
  (hc:∀l pre x W,I pre W->WG (some l) (m - 1 - 1) P n assign (QdR (λhb E W'=>hb=[]/\Vg ↑w L W W'/\I pre W'/\A f x E W') (λ_ _ _ _=>False)) [] (QdP f ps (encs x)) W)
  (he:∀l pre x E W,I pre W->A f x E W->pre.length<N->WG (some l) (m - 1 - 1) P n body (rdE ↑w L I X (pre++[x]) W) [] E W)
  (hn:∀D xs W,↑w<=D->S xs->I xs W->W.heap[D]?=some (.deferred (some []))->Q .normal (D::ds) f W)
  (hf:∀D e pre W,↑w<=D->Sp pre->X e pre W->W.heap[D]?=some (.deferred (some []))->(e=.ret\/∃i,e=.exit i)->Q e (D::ds) f W):
  WG none m P n (.rangeFunc g ps.toArray assign body) Q ds f w:=by
 unfold WG at hc he ⊢;intro a J;have eg:∀args w,(callFunc gf args).run P w=.ok (.enter gf args) w:=by
  intro args w;have Y:¬fn.name = "runtime.NumGoroutine" := by simpa using hF.nm
  have O:¬fn.body=none:=by have:=hF.b;intro e;rw[e]at this;cases this
  simp[callFunc,hF.f,Y,O]
 have keep:∀{W W':O1},Vg ↑w L W W'->KeepsFrom ↑w W W':=λh=>⟨h.lw.size,λk o _ hk ho=>h.other k o hk ho⟩;refine wpIn_rangeFunc_ownH (F:=fen none) U Y (gf:=gf) (lb:=capt.toArray) (by rw[J.eval];exact hg) Z eg hm (λh k=>h.D k)
  (λW l o o' hl ho _ _=>⟨U,U,U,od,λk hk _=>World.putObj_heap_other oa⟩) (Below.refl _ _) (λx=>by simp[hj x]) I
  (λc pre W=>match c with| .ret=>X .ret pre W| .exit i=>X (.exit i) pre W|_=>False) (YI.own hI) (λc=>YI.own λs=>?_) h0
  (λx T W=>∃E,Xm n [] T E/\A f x E W) (λx T=>YI.own λ_=>YI.ex λE=>YI.and (YI.pure _) (hA x E)) ?_ ?_ ?_ ?_
 ·cases c <;> first|exact hX _ s|exact YI.pure _
 ·intro l pre x W K hi hK;have hr:Xm n [] { tmps:=(ps.toArray.zip (encs x).toArray).foldl (λt (p,v)=>t.setIfInBounds p v) a.tmps,defers:=[] } (QdP f ps (encs x)):=by
   have O:Xm n [] { a with defers:=[] } f:=⟨J.size,U,J.get⟩
   have H:=qB ps (encs x) _ _ O hp;have e:(ps.toArray.zip (encs x).toArray).foldl (λt (p,v)=>t.setIfInBounds p v) a.tmps=(ps.zip (encs x)).foldl (λt (x:Nat×O2)=>t.setIfInBounds x.1 x.2) a.tmps:=od
   rw[e];exact H
  refine wpIn_mono (hc l pre x W hi _ hr) ?_;rintro e T W' ⟨hb,E,O,_,H⟩;cases e with
  | normal=>obtain⟨rfl,h4,G,h6⟩:=H;exact hK T W' (keep h4) h4.lw G ⟨E,O,h6⟩
  | exit id=>exact H.elim
  | goto l=>exact H.elim
  | ret=>exact H.elim
  | panic ch=>exact H.elim
  | outgrown=>exact H.elim
 ·rintro l pre x T W _ _ hi ⟨E,O,H⟩ hq;refine wpIn_mono (he l pre x E W hi H hq T O) ?_;rintro e hs W' ⟨hb,ht,h4,_,G⟩;cases e with
  | normal=>exact⟨keep G.1,G.1.lw,G.2⟩
  | exit id=>exact⟨keep G.1,G.2⟩
  | goto l=>exact G.elim
  | ret=>exact⟨keep G.1,G.2⟩
  | panic ch=>exact G.elim
  | outgrown=>exact G.elim
 ·intro D xs W hD V hi hd;exact⟨D::ds,f,⟨J.size,by rw[show coll (D::ds)={ target:=.collected D,args:=#[] }::coll ds from rfl,J.defers],J.get⟩,λ_ _=>rfl,hn D xs W hD V hi hd⟩
 intro D c pre W hD V hx hd;have hh:Xm n (D::ds) { a with defers:={ target:=.collected D,args:=#[] }::a.defers } f:=⟨J.size,by rw[show coll (D::ds)={ target:=.collected D,args:=#[] }::coll ds from rfl,J.defers],J.get⟩
 cases c with
 | ret=>exact wpIn_ret ⟨_,f,hh,λ_ _=>U,hf D .ret pre W hD V hx hd (.inl U)⟩
 | exit i=>exact wpIn_exit ⟨_,f,hh,λ_ _=>U,hf D (.exit i) pre W hD V hx hd (.inr ⟨i,U⟩)⟩
 | _=>exact hx.elim
theorem QaB {α:Type}(g:α->LV)(sz:Nat)(E:∀x,(g x).length=sz):∀(l:List α) (k:Nat),(l.flatMap g).take (k*sz)=(l.take k).flatMap g
 | [],k=>od
 | e::l,0=>od
 | e::l,k+1=>by
  simp only[Of,List.take_succ_cons,Oq,Nat.one_mul];rw[Nd,OK,E,show sz+k*sz - sz=k*sz by omega,QaB g sz E l k,Lu (by rw[E];omega)]
theorem Qfn [Fu sV gf fn]{nms:List ByteArray}{s:ByteArray}(hk:JF s)
  (hl:∀(w':O1) (L:LN),sX w w'->(∀b∈L,↑w<=b)->SeqStopsK (fen none) 9 sV gf capt.toArray (λx:{ x:ByteArray // x∈nms }=>[Value.string x.1].toArray) (Lw ↑w' L) (λys=>ys.map (·.1)=nms) (λ_=>True) N w'):
  QY sV 139 [.string s,.func (.func gf) #[] capt.toArray] w λr w'=>r=sS (Ku nms s)/\sX w w':=by
 refine QY.of_G 10 func139 U ntmps139 results139 od ?_;refine Zk<|QI om om<|Zl [.string s] λb2 w1 ho hs hh=>QM [sS 0] λJ w2 hi ht hf=>xe ?_;have Y:=ho.D hi;have hu:=hf.lt;have hj:=hh.I hi;have hv:=hh.lt;refine Zk<|Zk<|QI om om<|Xn hj U U<|jF<|(V8 s hk _).Y ?_;rintro r3 w3 ⟨rfl,rfl⟩;refine x (Zy U)<|xe<|UK rfl (λh8=>?_) (λh8=>?_)
 ·have hn:Xj s=false:=by simpa using h8
  have hr:Ku nms s=7:=by unfold Ku;rw[OU hn]
  refine Zk<|QI om om<|Qn<|Qu (j:=0) (u:=sS 7) hf U U ol U λw4 T ha=>xe ?_;refine VR ⟨λ_ h=>(by cases h),MN,[sS 7],λW' O=>⟨⟨⟨_,rfl,Xu (At.one ((ha.I O).at (L:=[]) od))⟩,Z⟩,by rw[hr];rfl,(Y.O T oa).D O⟩⟩
 have hn:¬Xj s=false:=by simpa using h8
 refine YV<|Zk<|Zk<|QI om om<|Qa<|xe<|Yf<|Qlj (α:={ x:ByteArray // x∈nms }) (ps:=[10]) [J] oa (capt:=capt) U (encs:=λx=>[.string x.1]) od (λ_=>rfl)
  (hl w3 [J] Y (λb G=>by simp at G;omega))
  (λpre W=>O5 [J] w3 W/\QZ ↑W b2 9 [.string s]/\QZ ↑W J 48 [sS 0]/\∀x∈pre,x.1≠s)
  (λpre=>(YI.J (Lx _)).and (YI.blk.and (YI.blk.and (YI.pure _))))
  (λe pre W=>e=.ret/\O5 [J] w3 W/\QZ ↑W J 48 [sS 8]/\s∈nms)
  (λe pre=>(YI.pure _).and ((YI.J (Lx _)).and (YI.blk.and (YI.pure _))))
  ⟨O5.Z _ _,hj,hf,λx hx=>by cases hx⟩
  (λf x f' W=>f'=upd (QdP f [10] [.string x.1]) 5 (.string x.1)) (λx f'=>YI.pure _) ?_ ?_ ?_ ?_
 ·rintro l pre x W ⟨H,h2,I,V⟩;refine QI om om<|Lg.Qb<|⟨U,Vg.refl _ _ _,⟨H,h2,I,V⟩,U⟩
 ·rintro l pre x f' W ⟨H,h2,I,V⟩ rfl _;refine Yf<|Zk<|QI om om<|Lg.Qa<|Lg.x (Qk h2 U U)<|Lg.x (XW U U)<|xe<|QnK U (λhg=>?_) (λhg=>?_)
  ·refine Zk<|QI om om<|Qn<|Qu (j:=0) (u:=sS 8) I U U ol U λw4 T ha=>xe ?_;refine VR ?_;exact⟨Vg.blk T H.size I (.inl od),rfl,H.Q T,ha,by rw[<-hg];exact x.2⟩
  refine YV<|⟨Vg.refl _ _ _,H,h2,I,λy S=>?_⟩;rcases Lc.1 S with S|S
  ·exact V y S
  simp only[oJ]at S;subst S;exact hg
 ·rintro D xs W hD hp ⟨H,h2,I,V⟩ hc;have hr:Ku nms s=0:=by
   unfold Ku;rw[OT hn,OT];intro hm;rw[<-hp]at hm;obtain⟨y,S,e⟩:=LD.1 hm;exact V y S e
  refine Zk<|QI om om<|Qn<|Qu (j:=0) (u:=sS 0) I U U ol U λw4 T ha=>xe ?_;have he:D≠J:=oa
  have hq:w4.heap[D]?=some (.deferred (some [])):=by rw[T.block D (LK.1 hc).1 (oA he)];exact hc
  refine VR ⟨λE hE=>by simp only[oJ]at hE;subst hE;exact hq,od,[sS 0],λW' O=>?_⟩;refine⟨⟨⟨_,U,Xu (At.one ((ha.J O (oA he.symm)).at (L:=[]) od))⟩,Z⟩,by rw[hr];rfl,?_⟩;exact((Y.S H (λb G=>.inr (by simp at G;omega))).O T oa).S O (λb G=>.inr (by simp at G;have:=Y.size;omega))
 rintro D e pre W hD _ ⟨rfl,H,I,V⟩ hc _;have hr:Ku nms s=8:=by unfold Ku;rw[OT hn,OU V]
 have he:D≠J:=oa
 refine⟨λE hE=>by simp only[oJ]at hE;subst hE;exact hc,od,[sS 8],λW' O=>?_⟩;refine⟨⟨⟨_,U,Xu (At.one ((I.J O (oA he.symm)).at (L:=[]) od))⟩,Z⟩,by rw[hr];rfl,?_⟩;exact(Y.S H (λb G=>.inr (by simp at G;omega))).S O (λb G=>.inr (by simp at G;have:=Y.size;omega))
theorem J9.pre3 {m:Nat}{o1 o2 o3:Oper}{l2:xD}(h:XL P ops (λf w=>J9 P m ops K l2 f w) [o1,o2,o3] f w):J9 P m ops K (o1::o2::o3::l2) f w:=J9.pre [o1,o2,o3] f w h
theorem Qj5 {m:Nat}{qs:List XV}{nms:List ByteArray}(ho:QZ ↑w b1 196 [vs,vx,vk])(hp:QZ ↑w b2 3 [sS i])(Y:jD L ↑w vx qs)(hi:i<=qs.length)(hn:nms=(qs.take i).map (·.nm)):
  SeqStopsK (fen none) m sV 138 #[sP b1,sP b2] (λx:{ x:ByteArray // x∈nms }=>[Value.string x.1].toArray) (Lw ↑w L)
   (λys=>ys.map (·.1)=nms) (λ_=>True) (nms.length+1) w:=by
 intro l J Jx W hr hJ hs hY h0;have ha:sX w W:=O5.of_below hr;have ab:∀{ys:List { x:ByteArray // x∈nms }} {W1 W2:O1},J ys W1->sX W1 W2->J ys W2:=λ{ys W1 W2} hj H=>hJ ys W1 W2 none hj ⟨H.os,H.tape,H.output,H.size,λk I _=>H.block k I od⟩ (λr e=>by cases e);have h5:=Y.arr.le;have h6:nms.length=i:=by rw[hn];simp;omega
 have key:QY sV 138 [.func (.yield l) #[] #[],sP b1,sP b2] W (λ_ W'=>(∃ys,ys.map (·.1)=nms/\J ys W')\/(∃pre,True/\Jx pre W')):=by
  refine QY.of_G m func138 U ntmps138 results138 od ?_;refine Zk<|QI om om<|Qo U (ho.I ha) U U<|Xn (hp.I ha) U U<|Qoi Y.arr U U hi λv9 hg=>QF hg U<|Qa<|xe ?_;have ht:(qs.take i).length=i:=by simp;omega
  have hS:Zn L ↑w v9 (qs.take i).length 2 ((qs.take i).flatMap Q3):=by
   rw[ht,<-QaB Q3 2 Xx];exact hg
  refine Yf<|ze (α:=Nat×List { x:ByteArray // x∈nms }) [(5,5),(11,20)] (λz=>[(11,sS z.1)]) (λz ds W'=>ds=[]/\z.1<=i/\O5 L w W'/\z.2.map (·.1)=nms.take z.1/\J z.2 W') (λz=>i - z.1) om (0,[]) La
   ⟨U,Lo _,ha.any,U,h0⟩ ?_
  rintro⟨k,ys⟩ g ds w1 ⟨rfl,I,hh,O,hb⟩;simp only[]at I O hb;refine Zk<|QI om om<|Z5 U U<|xe<|Zk<|Qa5 U (λhl=>?_) (λhl=>?_)
  ·refine VS ?_;rw[Lu oa]at O;exact⟨λ_ h=>(by cases h),MN,[],λW' E=>⟨Z,.inl ⟨ys,O,ab hb E⟩⟩⟩
  refine YV ?_;have hu:k<i:=by have hc:(k:Int)<(i:Int):=hl;omega
  have T:k<(qs.take i).length:=oa
  have V:k<nms.length:=oa
  have hf:nms.take (k+1)=nms.take k++[nms[k]'V]:=Ln V;have h7:ys.length=k:=by have:=OV oQ O;rw[Lh,LB]at this;omega
  have hv:nms[k]'V=((qs.take i)[k]'T).nm:=by subst hn;simp
  have S:=Lm V;rw[hv]at hf S;refine Zk<|Yf<|Zk<|QI om om<|xig Xx (i:=k) (hS.st hh) U U T λh8 hc=>?_;refine Zf ((qs.take i)[k]'T) λq hq=>?_;rw[hq]at hc hf S;refine x (Qr hc U U)<|QM [.string .empty,nS] λb5 w2 hw hy hz=>QK (Q3 q) hz ⟨U,((Y.each q (LX (by rw[<-hq];exact Lm T))).one),Z⟩ λw3 h2 h3=>xe ?_;have hm:sX w1 w3:=hw.O h2 hy;refine Zk<|V9 om ?_;refine J9.pre3 ?_;refine Qa<|Qo U h3 U U<|xe<|xy (l:=l) U (hY ys ⟨q.nm,S⟩ w3 (ab hb hm) oa) λen W3 h4=>Or.elim h4 (λG=>⟨.bool true,G.1,?_⟩) (λG=>⟨.bool false,G.1,?_⟩)
  ·refine J9.of_XL<|x (Zy U)<|xe<|Ua U<|YV ?_;refine QI om om<|QH U U<|Qa<|xe ?_;exact⟨(k+1,ys++[⟨q.nm,S⟩]),og,La,U,hu,(hh.D hm).lw G.2.2,by rw[hf,Lr,O];rfl,G.2.1⟩
  refine J9.of_XL<|x (Zy U)<|xe<|QbZ U ?_;refine VR ⟨λ_ h=>(by cases h),MN,[],λW' E=>⟨Z,.inr ⟨ys++[⟨q.nm,S⟩],Z,?_⟩⟩⟩;exact hs _ W3 W' none G.2 ⟨E.os,E.tape,E.output,E.size,λk I _=>E.block k I od⟩ (λr e=>by cases e)
 refine(callsIn_wide (n:=m)).2 ?_;have ea:(#[.func (.yield l) #[] #[]]++[sP b1,sP b2].toArray:Array O2)=#[.func (.yield l) #[] #[],sP b1,sP b2]:=od
 rw[ea];unfold QY at key;refine Calls.mono key λe w' he=>?_;cases e with
 | returned v=>exact⟨⟨v,U⟩,he⟩
 | panicked c=>exact he.elim
 | outgrown=>exact he.elim
theorem Qku {m:Nat}{qs:List KV}{nms:List ByteArray}(ho:QZ ↑w b1 196 [vs,vx,vk])(hp:QZ ↑w b2 3 [sS i])(Y:jz L ↑w vk qs)(hi:i<=qs.length)(hn:nms=(qs.take i).map (·.nm)):
  SeqStopsK (fen none) m sV 141 #[sP b1,sP b2] (λx:{ x:ByteArray // x∈nms }=>[Value.string x.1].toArray) (Lw ↑w L)
   (λys=>ys.map (·.1)=nms) (λ_=>True) (nms.length+1) w:=by
 intro l J Jx W hr hJ hs hY h0;have ha:sX w W:=O5.of_below hr;have ab:∀{ys:List { x:ByteArray // x∈nms }} {W1 W2:O1},J ys W1->sX W1 W2->J ys W2:=λ{ys W1 W2} hj H=>hJ ys W1 W2 none hj ⟨H.os,H.tape,H.output,H.size,λk I _=>H.block k I od⟩ (λr e=>by cases e);have h5:=Y.arr.le;have h6:nms.length=i:=by rw[hn];simp;omega
 have key:QY sV 141 [.func (.yield l) #[] #[],sP b1,sP b2] W (λ_ W'=>(∃ys,ys.map (·.1)=nms/\J ys W')\/(∃pre,True/\Jx pre W')):=by
  refine QY.of_G m func141 U ntmps141 results141 od ?_;refine Zk<|QI om om<|Qo U (ho.I ha) U U<|Xn (hp.I ha) U U<|Qoi Y.arr U U hi λv9 hg=>QF hg U<|Qa<|xe ?_;have ht:(qs.take i).length=i:=by simp;omega
  have hS:Zn L ↑w v9 (qs.take i).length 3 ((qs.take i).flatMap Q9):=by
   rw[ht,<-QaB Q9 3 Xq];exact hg
  refine Yf<|ze (α:=Nat×List { x:ByteArray // x∈nms }) [(5,5),(11,20)] (λz=>[(11,sS z.1)]) (λz ds W'=>ds=[]/\z.1<=i/\O5 L w W'/\z.2.map (·.1)=nms.take z.1/\J z.2 W') (λz=>i - z.1) om (0,[]) La
   ⟨U,Lo _,ha.any,U,h0⟩ ?_
  rintro⟨k,ys⟩ g ds w1 ⟨rfl,I,hh,O,hb⟩;simp only[]at I O hb;refine Zk<|QI om om<|Z5 U U<|xe<|Zk<|Qa5 U (λhl=>?_) (λhl=>?_)
  ·refine VS ?_;rw[Lu oa]at O;exact⟨λ_ h=>(by cases h),MN,[],λW' E=>⟨Z,.inl ⟨ys,O,ab hb E⟩⟩⟩
  refine YV ?_;have hu:k<i:=by have hc:(k:Int)<(i:Int):=hl;omega
  have T:k<(qs.take i).length:=oa
  have V:k<nms.length:=oa
  have hf:nms.take (k+1)=nms.take k++[nms[k]'V]:=Ln V;have h7:ys.length=k:=by have:=OV oQ O;rw[Lh,LB]at this;omega
  have hv:nms[k]'V=((qs.take i)[k]'T).nm:=by subst hn;simp
  have S:=Lm V;rw[hv]at hf S;refine Zk<|Yf<|Zk<|QI om om<|xig Xq (i:=k) (hS.st hh) U U T λh8 hc=>?_;refine Zf ((qs.take i)[k]'T) λq hq=>?_;rw[hq]at hc hf S;refine x (Qr hc U U)<|QM [.string .empty,nS,sS 0] λb5 w2 hw hy hz=>QK (Q9 q) hz ⟨U,((Y.each q (LX (by rw[<-hq];exact Lm T))).one),U,Z⟩ λw3 h2 h3=>xe ?_;have hm:sX w1 w3:=hw.O h2 hy;refine Zk<|V9 om ?_;refine J9.pre3 ?_;refine Qa<|Qo U h3 U U<|xe<|xy (l:=l) U (hY ys ⟨q.nm,S⟩ w3 (ab hb hm) oa) λen W3 h4=>Or.elim h4 (λG=>⟨.bool true,G.1,?_⟩) (λG=>⟨.bool false,G.1,?_⟩)
  ·refine J9.of_XL<|x (Zy U)<|xe<|Ua U<|YV ?_;refine QI om om<|QH U U<|Qa<|xe ?_;exact⟨(k+1,ys++[⟨q.nm,S⟩]),og,La,U,hu,(hh.D hm).lw G.2.2,by rw[hf,Lr,O];rfl,G.2.1⟩
  refine J9.of_XL<|x (Zy U)<|xe<|QbZ U ?_;refine VR ⟨λ_ h=>(by cases h),MN,[],λW' E=>⟨Z,.inr ⟨ys++[⟨q.nm,S⟩],Z,?_⟩⟩⟩;exact hs _ W3 W' none G.2 ⟨E.os,E.tape,E.output,E.size,λk I _=>E.block k I od⟩ (λr e=>by cases e)
 refine(callsIn_wide (n:=m)).2 ?_;have ea:(#[.func (.yield l) #[] #[]]++[sP b1,sP b2].toArray:Array O2)=#[.func (.yield l) #[] #[],sP b1,sP b2]:=od
 rw[ea];unfold QY at key;refine Calls.mono key λe w' he=>?_;cases e with
 | returned v=>exact⟨⟨v,U⟩,he⟩
 | panicked c=>exact he.elim
 | outgrown=>exact he.elim
theorem jg {sz:LI}{qx:List XV}{ks:List KV}(hS:QL [] ↑w vs sz)(hX:jD [] ↑w vx qx)(hK:jz [] ↑w vk ks):
  QY sV 76 [.agg #[vs,vx,vk]] w λr w'=>r=sS (YG sz (qx.map (·.x)) (ks.map (·.k)))/\sX w w':=by
 have hW:=hS.le;have hY:=hX.arr.le;have hZ:=hK.arr.le;refine Zq func76 ?_;refine Qc<|Zl [vs,vx,vk] λb1 w1 G ga T=>Qb<|Qd<|Qc<|Qo U T U U<|QF (hS.I G) U<|x (Yc U U)<|xe<|QO rfl (λh0=>?_) (λh0=>?_)
 ·refine Qc<|Qb<|Qh ⟨[_],La,by unfold YG;rw[OU (by have hI:(8:Int)<(sz.length:Int):=h0;omega)];rfl,G⟩
 have hy:¬8<sz.length:=by have hI:¬(8:Int)<(sz.length:Int):=h0;omega
 refine Qf<|Qd<|Qc<|Qo U T U U<|QF (hS.I G) U<|Qa<|xe<|Q7 (α:=Nat) [(2,2),(4,4),(22,32)] (λz=>[(22,sS z)]) (λz w'=>z<=sz.length/\w'=w1/\(sz.drop z).any KQ=sz.any KQ) (λz=>sz.length - z) 0 La
  ⟨Lo _,U,U⟩ ?_
 rintro k g w2 ⟨hk,rfl,ha⟩;refine Zo rfl U (λh1=>?_) (λh1=>?_)
 ·refine Qw ?_;have hj:sz.length<=k:=by have hz:¬(k:Int)<(sz.length:Int):=h1;omega
  rw[Lt hj]at ha;have h2:¬sz.any KQ=true:=by rw[<-ha];decide
  refine Qd<|QX (α:=Bool) [(33,42)] (λz=>[(42,.bool z)]) (λz w'=>w'=w2/\z=decide (32<qx.length\/32<ks.length)) om ?_ ?_
  ·refine Qs<|Qo U T U U<|QF (hX.I G).arr U<|xb (Yc U U) (λhJ=>?_) (λhJ=>?_)
   ·refine Qa<|Zt<|KB<|QC U<|xe ?_;exact⟨_,La,U,by first|exact bT oa|exact bF oa|exact bD oa⟩
   refine Qa<|Qo U T U U<|QF (hK.I G).arr U<|x (Yc U U)<|QC U<|xe ?_;exact⟨_,La,U,by first|exact bT oa|exact bF oa|exact bD oa⟩
  rintro z g V ⟨rfl,rfl⟩;refine QO U (λh3=>?_) (λh3=>?_)
  ·refine Qc<|Qb<|Qh ⟨[_],La,by unfold YG;rw[OT hy,OT h2,OU (oA h3)];rfl,G⟩
  have hF:¬(32<(qx.map (·.x)).length\/32<(ks.map (·.k)).length):=by simpa using h3
  have hG:Yz sz [] (qx.map (·.x))≠0->YG sz (qx.map (·.x)) (ks.map (·.k))=Yz sz [] (qx.map (·.x)):=λh=>by
   unfold YG;rw[OT hy,OT h2,OT hF,OU h]
  have hM:Yz sz [] (qx.map (·.x))=0->YG sz (qx.map (·.x)) (ks.map (·.k))=Xg sz [] (ks.map (·.k)):=λh=>by
   unfold YG;rw[OT hy,OT h2,OT hF,OT (by rw[h];exact λh=>h U)]
  refine Qf<|Qd<|Qc<|Qo U (T.I (O5.Z [] V)) U U<|QF ((hX.I G).I (O5.Z [] V)).arr U<|Qa<|xe<|Q7 (α:=Nat) [(2,2),(5,9),(46,65)] (λz=>[(46,sS z)]) (λz w'=>z<=qx.length/\sX V w'/\Yz sz ((qx.take z).map (·.nm)) ((qx.drop z).map (·.x))=Yz sz [] (qx.map (·.x))) (λz=>qx.length - z) 0 La
   ⟨Lo _,(O5.Z [] V),U⟩ ?_
  rintro k g wA ⟨hk,H,I⟩;refine Zo U U (λhc=>?_) (λhc=>?_)
  ·refine Qw ?_;have hj:qx.length<=k:=by have h4:¬(k:Int)<(qx.length:Int):=hc;omega
   rw[Lt hj]at I;have hN:Yz sz [] (qx.map (·.x))=0:=I.symm;have h5:=hM hN;refine Qd<|Qc<|Qo U (T.I H) U U<|QF ((hK.I G).I H).arr U<|Qa<|xe<|Q7 (α:=Nat) [(2,2),(10,14),(69,88)] (λz=>[(69,sS z)]) (λz w'=>z<=ks.length/\sX V w'/\Xg sz ((ks.take z).map (·.nm)) ((ks.drop z).map (·.k))=Xg sz [] (ks.map (·.k))) (λz=>ks.length - z) 0 La
    ⟨Lo _,H,U⟩ ?_
   rintro k g wA ⟨hk,H,I⟩;refine Zo U U (λhc=>?_) (λhc=>?_)
   ·refine Qw ?_;have hj:ks.length<=k:=by have h4:¬(k:Int)<(ks.length:Int):=hc;omega
    rw[Lt hj]at I;have hO:Xg sz [] (ks.map (·.k))=0:=I.symm;refine Qc<|Qb<|Qh ⟨[_],La,by rw[h5,hO];rfl,G.D H⟩
   have E:k<ks.length:=by have h4:(k:Int)<(ks.length:Int):=hc;omega
   have hl:(ks.take (k+1)).map (·.nm)=(ks.take k).map (·.nm)++[(ks[k]'E).nm]:=by rw[Ln E,Lr];rfl
   rw[Zc E,LJ]at I;have he:=Lm E;have J:=(hK.I G).I H;have hP:=T.I H;refine Qf<|Qd<|Qm<|Qj<|xig Xq J.arr U U E λaA hA=>?_;refine Zf (ks[k]'E) λq hq=>?_;rw[hq]at hA I hl he;have hm:=J.each q he;refine x (Qr hA U U)<|QM [sS 0] λb5 V ho h6 hf=>QM [.string .empty,nS,sS 0] λb6 w4 hp hQ h7 =>
    Qn<|Qu (j:=0) (u:=sS k) (hf.I hp) U U ol U λw5 hr h8=>QK (Q9 q) (h7.J hr (by have:=hf.lt;simp;omega)) ⟨U,hm.one,U,Z⟩ λw6 hs ht=>xe ?_
   have hR:b5<b6:=by have:=hf.lt;omega
   have hg:sX wA w6:=((ho.D hp).O hr h6).O hs (ov ho.size);have h9:QZ ↑w6 b5 3 [sS k]:=h8.J hs (by simp;omega);have hu:=hP.I hg;have hT:=J.I hg;refine Qc<|x ZD<|Qb<|Qd<|Qc<|Qo U ht U U<|Qa<|Qz<|(Qfn (nms:=(ks.take k).map (·.nm)) (capt:=[sP b1,sP b5]) (J.nm q he) (λw' L hh hL=>Qku (hu.I hh) (h9.I hh) ((hT.up (λb hb=>.inr (hL b hb))).I hh) hk U)).Y ?_;rintro r7 w7 ⟨rfl,hi⟩;refine Qb ?_;have O:=hg.D hi;refine Qj<|Zx U U<|xe<|QO U (λY=>?_) (λY=>?_)
   ·have e1:Xg sz [] (ks.map (·.k))=Ku ((ks.take k).map (·.nm)) q.nm:=by rw[<-I];exact OU Y
    refine Qj<|Qb<|Qh ⟨[_],La,by rw[h5,e1];rfl,G.D (H.D O)⟩
   have hv:(if XN sz q.k≠0 then XN sz q.k else Xg sz ((ks.take k).map (·.nm)++[q.nm]) ((ks.drop (k+1)).map (·.k)))=Xg sz [] (ks.map (·.k)):=by rw[<-I];exact(OT Y).symm
   refine Qf ?_;have hU:=hu.I hi;have hV:=ht.I hi;refine Qc<|QT hU U U<|QT hV U U<|Qz<|(UG (((hS.I G).I H).I O) (hm.I O)).Y ?_;rintro r8 w8 ⟨rfl,hB⟩;refine Qb ?_;have hw:=O.D hB;refine Qj<|Zx U U<|xe<|QO U (λS=>?_) (λS=>?_)
   ·have e1:Xg sz [] (ks.map (·.k))=XN sz q.k:=by rw[<-hv];exact OU S
    have hH:XN sz q.k≠0:=S;refine Qj<|Qb<|Qh ⟨[_],La,by rw[h5,e1];rfl,G.D (H.D hw)⟩
   have hC:Xg sz ((ks.take k).map (·.nm)++[q.nm]) ((ks.drop (k+1)).map (·.k))=Xg sz [] (ks.map (·.k)):=by rw[<-hv];exact(OT S).symm
   refine Qf<|Qs<|QH U U<|Qa<|xe ?_;exact⟨k+1,oa,La,E,H.D hw,by rw[hl];exact hC⟩
  have E:k<qx.length:=by have h4:(k:Int)<(qx.length:Int):=hc;omega
  have hl:(qx.take (k+1)).map (·.nm)=(qx.take k).map (·.nm)++[(qx[k]'E).nm]:=by rw[Ln E,Lr];rfl
  rw[Zc E,LJ]at I;have he:=Lm E;have J:=(hX.I G).I H;refine Qf<|Qd<|Qm<|Qj<|xig Xx J.arr U U E λaA hA=>?_;refine Zf (qx[k]'E) λq hq=>?_;rw[hq]at hA I hl he;have hm:=J.each q he;refine x (Qr hA U U)<|QM [sS 0] λb5 V ho h6 hf=>QM [.string .empty,nS] λb6 w4 hp hQ h7 =>
   Qn<|Qu (j:=0) (u:=sS k) (hf.I hp) U U ol U λw5 hr h8=>QK (Q3 q) (h7.J hr (by have:=hf.lt;simp;omega)) ⟨U,hm.one,Z⟩ λw6 hs ht=>xe ?_
  have hR:b5<b6:=by have:=hf.lt;omega
  have hg:sX wA w6:=((ho.D hp).O hr h6).O hs (ov ho.size);have h9:QZ ↑w6 b5 3 [sS k]:=h8.J hs (by simp;omega);have hu:=(T.I H).I hg;refine Qc<|x ZD<|Qb<|Qd<|Qc<|Qo U ht U U<|Qa<|Qz<|(Qfn (nms:=(qx.take k).map (·.nm)) (capt:=[sP b1,sP b5]) (J.nm q he) (λw' L hh hL=>Qj5 (hu.I hh) (h9.I hh) (((J.I hg).up (λb hb=>.inr (hL b hb))).I hh) hk U)).Y ?_;rintro r7 w7 ⟨rfl,hi⟩;refine Qb ?_;have O:=hg.D hi;refine Qj<|Zx U U<|xe<|QO U (λY=>?_) (λY=>?_)
  ·have e1:Yz sz [] (qx.map (·.x))=Ku ((qx.take k).map (·.nm)) q.nm:=by rw[<-I];exact OU Y
   refine Qj<|Qb<|Qh ⟨[_],La,by rw[hG (by rw[e1];exact Y),e1];rfl,G.D (H.D O)⟩
  have hv:(if Jr sz q.ls≠0 then Jr sz q.ls else Yz sz ((qx.take k).map (·.nm)++[q.nm]) ((qx.drop (k+1)).map (·.x)))=Yz sz [] (qx.map (·.x)):=by rw[<-I];exact(OT Y).symm
  refine Qf<|Qc<|QT (hu.I hi) U U<|QT (ht.I hi) U U<|Qz<|(qi (((hS.I G).I H).I O) (hm.I O)).Y ?_;rintro r8 w8 ⟨rfl,hB⟩;refine Qb ?_;have hw:=O.D hB;refine Qj<|Zx U U<|xe<|QO U (λS=>?_) (λS=>?_)
  ·have e1:Yz sz [] (qx.map (·.x))=Jr sz q.ls:=by rw[<-hv];exact OU S
   have hH:Jr sz q.ls≠0:=S;refine Qj<|Qb<|Qh ⟨[_],La,by rw[hG (by rw[e1];exact hH),e1];rfl,G.D (H.D hw)⟩
  have hC:Yz sz ((qx.take k).map (·.nm)++[q.nm]) ((qx.drop (k+1)).map (·.x))=Yz sz [] (qx.map (·.x)):=by rw[<-hv];exact(OT S).symm
  refine Qf<|Qs<|QH U U<|Qa<|xe ?_;exact⟨k+1,oa,La,E,H.D hw,by rw[hl];exact hC⟩
 have E:k<sz.length:=by have hz:(k:Int)<(sz.length:Int):=h1;omega
 rw[Zc E,List.any_cons]at ha;refine Qf<|Qd<|Qm<|Qc<|xii (hS.I G) U U E λgb hz=>?_;refine Zf (sz[k]'E) λn hn=>?_;rw[hn]at hz ha;refine x (Qy hz U)<|Qb<|QX (α:=Bool) [(26,31)] (λz=>[(31,.bool z)]) (λz w'=>w'=w2/\z=KQ n) om ?_ ?_
 ·refine Qs<|Qa<|xb (YX U U) (λhD=>?_) (λhD=>?_)
  ·refine Qa<|Ys<|QC U<|xe ?_;exact⟨_,La,U,by unfold KQ;rw[OX hD];rfl⟩
  refine Qa<|Qa<|x (Yc U U)<|QC U<|xe ?_;exact⟨_,La,U,by unfold KQ;rw[OZ hD];rfl⟩
 rintro z g V ⟨rfl,rfl⟩;refine QU rfl (λhE=>?_) (λhE=>?_)
 ·refine Qc<|Qb<|Qh ⟨[_],La,by unfold YG;rw[OT hy,OU (by rw[<-ha,hE];rfl)];rfl,G⟩
 rw[hE,Bool.false_or]at ha;refine Qf<|Qs<|QH U U<|Qa<|xe ?_;exact⟨k+1,oa,La,E,U,ha⟩
theorem Yw (q:α->Bool)(i:Nat)(a:α)(l:List α):fix q i (a::l)=if q a=true then(i:Int)else fix q (i+1) l:=rfl
theorem Qeq {α:Type}(q:α->Bool):∀(l:List α) (i:Nat),fix q i l=-1\/((i:Int)<=fix q i l/\fix q i l<(i:Int)+l.length)
 | [],i=>.inl U
 | a::l,i=>by
  rw[Yw];split
  ·right;simp only[oX];omega
  rcases Qeq q l (i+1)with h|h
  ·exact .inl h
  right;simp only[oX];omega
theorem QbN {α:Type}(q:α->Bool):∀(l:List α) (i:Nat),decide (0<=fix q i l)=l.any q
 | [],i=>rfl
 | a::l,i=>by
  rw[Yw,List.any_cons];cases h:q a with
  | true=>rw[OU rfl];simp
  | false=>rw[OT ol,QbN q l (i+1)];rfl
theorem jd {α:Type}(q:α->Bool)(m:List α):∀(l:List α) (i:Nat),fix q i (l++m)=if 0<=fix q i l then fix q i l else fix q (i+l.length) m
 | [],i=>by
  show fix q i m=if(0:Int)<=-1 then(-1)else fix q i m
  rw[OT ol]
 | a::l,i=>by
  rw[Mw,Yw,Yw];by_cases h:q a=true
  ·rw[OU h,OU h,OU oa]
  rw[OT h,OT h,jd q m l (i+1),LU];rw[show i+1+l.length=i+(l.length+1) by omega]
theorem QaD {α:Type}(q:α->Bool)(d:Nat):∀(l:List α) (i:Nat),fix q (i+d) l=if 0<=fix q i l then fix q i l+d else -1
 | [],i=>rfl
 | a::l,i=>by
  rw[Yw,Yw];by_cases h:q a=true
  ·rw[OU h,OU h,OU oa];omega
  rw[OT h,OT h,show i+d+1=(i+1)+d by omega,QaD q d l (i+1)]
theorem VY {α β:Type}(q:β->Bool)(g:α->β):∀(l:List α) (i:Nat),fix q i (l.map g)=fix (λa=>q (g a)) i l
 | [],i=>rfl
 | a::l,i=>by rw[LJ,Yw,Yw,VY q g l (i+1)]
theorem Qhi {α:Type}{q E:α->Bool}:∀{l:List α}{i:Nat},(∀a∈l,q a=E a)->fix q i l=fix E i l
 | [],i,_=>rfl
 | a::l,i,h=>by rw[Yw,Yw,h a Lq,Qhi (λb G=>h b (Lk _ G))]
theorem Qo8 [Fu sV gp fn]{cap:LV}{q:(Int×Int)->Bool}{v:O2}{l:xw}(h:Zn L ↑w v l.length 2 (l.flatMap QD))
  (Y:∀e∈l,∀(G:O1),sX w G->QY sV gp ([sT (QD e)]++cap) G λr w'=>r=.bool (q e)/\sX G w'):
  QY sV 330 [v,.func (.func gp) #[] cap.toArray] w λr w'=>r=sS (fix q 0 l)/\sX w w':=by
 have hc:=h.le;refine Zq func330 ?_;refine Qc<|Qb<|Qd<|Qj<|QF h U<|Qa<|xe<|Q7 (α:=Nat) [(4,5),(8,18)] (λz=>[(8,sS z)]) (λz w'=>z<=l.length/\sX w w'/\fix q z (l.drop z)=fix q 0 l) (λz=>l.length - z) 0 La
  ⟨Lo _,O5.Z _ _,U⟩ ?_
 rintro k g G ⟨hk1,H,E⟩;refine Zo rfl U (λJ=>?_) (λJ=>?_)
 ·refine Qw ?_;have ha:l.length<=k:=by have hb:¬(k:Int)<(l.length:Int):=J;omega
  rw[Lt ha]at E;refine Qc<|Qb<|Qh ⟨[_],La,by rw[<-E];rfl,H⟩
 have I:k<l.length:=by have hb:(k:Int)<(l.length:Int):=J;omega
 rw[Zc I,Yw]at E;have S:=Lm I;refine Qf<|Qd<|Qm<|Qj<|Qb<|Qj<|Qa<|Qa<|xig YK (h.I H) U U I λhf T=>?_;refine Zf (l[k]'I) λe he=>?_;rw[he]at T E S;refine x (Qr T U U)<|Qn<|xc (first:=[]) (capt:=cap) U<|(Y e S G H).Y ?_;rintro r2 w2 ⟨rfl,V⟩;refine xe<|QU rfl (λO=>?_) (λO=>?_)
 ·rw[OU O]at E;refine Qj<|Qb<|Qh ⟨[_],La,by rw[<-E];rfl,H.D V⟩
 rw[OT (by rw[O];decide)]at E;refine Qf<|Qs<|QH U U<|Qa<|xe ?_;exact⟨k+1,oa,La,I,H.D V,E⟩
theorem QpH [Fu sV gp fn]{cap:LV}{q:(Int×Int)->Bool}{v:O2}{l:xw}(h:Zn L ↑w v l.length 2 (l.flatMap QD))
  (G:∀e∈l,∀(E:O1),sX w E->QY sV gp ([sT (QD e)]++cap) E λr w'=>r=.bool (q e)/\sX E w'):
  QY sV 294 [v,.func (.func gp) #[] cap.toArray] w λr w'=>r=.bool (l.any q)/\sX w w':=by
 refine Zq func294 ?_;refine Qc<|Qb<|Qj<|Qa<|jF<|(Qo8 h G).Y ?_;rintro I E ⟨rfl,H⟩;refine x (YC U U)<|Qb<|Qh ⟨[_],La,OV Value.bool (QbN q l 0),H⟩
theorem UE (sz:LI):∀(ls:xw) (pr:Option Int),X6 sz pr ls=0->(∀p∈ls,0<=p.1/\p.1<(sz.length:Int))/\Xa (ls.map (·.1))/\∀y,pr=some y->∀p∈ls,y<p.1
 | [],pr,_=>⟨λp E=>(by cases E),List.Pairwise.nil,λy _ p E=>(by cases E)⟩
 | l::ls,pr,h=>by
  unfold X6 at h;split at h
  ·cases h
  rename_i T;split at h
  ·cases h
  rename_i H;split at h
  ·cases h
  obtain⟨I,J,O⟩:=UE sz ls (some l.1) h;have G:=O l.1 U;refine⟨λp E=>?_,L8.2 ⟨λx hx=>?_,J⟩,λy S p E=>?_⟩
  ·rcases Lj.1 E with rfl|E
   ·omega
   exact I p E
  ·obtain⟨p,E,rfl⟩:=LD.1 hx;exact G p E
  subst S;have V:¬l.1<=y:=λe=>H (OX e);rcases Lj.1 E with rfl|E
  ·omega
  have:=G p E;omega
theorem UC (sz:LI):∀(ls:xw) (pr:Option Int),Kn sz pr ls=0->(∀p∈ls,0<=p.1/\p.1<(sz.length:Int)/\-65536<=p.2/\p.2<=65536)/\Xa (ls.map (·.1))/\∀y,pr=some y->∀p∈ls,y<p.1
 | [],pr,_=>⟨λp E=>(by cases E),List.Pairwise.nil,λy _ p E=>(by cases E)⟩
 | l::ls,pr,h=>by
  unfold Kn at h;split at h
  ·cases h
  rename_i h1;split at h
  ·cases h
  rename_i I;split at h
  ·cases h
  rename_i J;obtain⟨O,S,T⟩:=UC sz ls (some l.1) h;have G:=T l.1 U;have H:grt l.2=false:=by cases V:grt l.2 with|true=>exact OW (.inr V) J|false=>rfl
  unfold grt at H;simp only[Oi,decide_eq_false_iff_not]at H;refine⟨λp E=>?_,L8.2 ⟨λx hx=>?_,S⟩,λy Y p E=>?_⟩
  ·rcases Lj.1 E with rfl|E
   ·omega
   exact O p E
  ·obtain⟨p,E,rfl⟩:=LD.1 hx;exact G p E
  subst Y;have h8:¬l.1<=y:=λe=>I (OX e);rcases Lj.1 E with rfl|E
  ·omega
  have:=G p E;omega
theorem Ko (sz:LI):∀(l:List qv) (sn:List ByteArray),Yz sz sn l=0->∀x∈l,Jr sz x.ls=0
 | [],_,_,x,hx=>by cases hx
 | a::l,sn,h,x,hx=>by
  unfold Yz at h;split at h
  ·rename_i E;exact OW h E
  split at h
  ·rename_i E;exact OW h E
  rename_i E;rcases Lj.1 hx with rfl|hx
  ·exact Lp.1 E
  exact Ko sz l _ h x hx
theorem VL (sz:LI):∀(l:List xK) (sn:List ByteArray),Xg sz sn l=0->∀x∈l,XN sz x=0
 | [],_,_,x,hx=>by cases hx
 | a::l,sn,h,x,hx=>by
  unfold Xg at h;split at h
  ·rename_i E;exact OW h E
  split at h
  ·rename_i E;exact OW h E
  rename_i E;rcases Lj.1 hx with rfl|hx
  ·exact Lp.1 E
  exact VL sz l _ h x hx
structure Qsc (sz:LI)(ex:List qv)(cs:List xK):Prop where
 s8:sz.length<=8
 s:∀n∈sz,1<=n/\n<=4096
 xl:ex.length<=32
 kl:cs.length<=32
 x:∀e∈ex,∀p∈e.ls,0<=p.1/\p.1<(sz.length:Int)
 k:∀e∈cs,(∀p∈e.ts,0<=p.1/\p.1<(sz.length:Int)/\-65536<=p.2/\p.2<=65536)/\e.ts.length<=8
theorem VM {sz:LI}{ex:List qv}{cs:List xK}(h:YG sz ex cs=0):Qsc sz ex cs:=by
 unfold YG at h;split at h
 ·cases h
 rename_i Y;split at h
 ·cases h
 rename_i O;split at h
 ·cases h
 rename_i ha;split at h
 ·rename_i hx;exact OW h hx
 rename_i hx;refine⟨oa,λn S=>?_,oa,oa,λe H p G=>?_,λe H=>?_⟩
 ·have E:KQ n=false:=by
   cases T:KQ n with
   | false=>rfl
   | true=>exact OW (Nt.2 ⟨n,S,T⟩) O
  unfold KQ at E;simp only[Oi,decide_eq_false_iff_not]at E;omega
 ·have E:=Ko sz ex [] (Lp.1 hx) e H;unfold Jr at E;split at E
  ·cases E
  exact(UE sz e.ls none E).1 p G
 have E:=VL sz cs [] h e H;unfold XN at E;split at E
 ·cases E
 split at E
 ·rename_i I;exact OW E I
 rename_i I;obtain⟨J,V,_⟩:=UC sz e.ts none (Lp.1 I);refine⟨J,?_⟩;have:=xG sz.length (e.ts.map (·.1)) (List.Pairwise.imp (λ{a b} (h:a<b)=>(by omega:a≠b)) V) (λx hx=>by
  obtain⟨p,G,rfl⟩:=LD.1 hx;exact⟨(J p G).1,(J p G).2.1⟩)
 rw[Lh]at this;omega
def QnH (sz t:LI):Prop:=t.length=sz.length/\∀i,i<t.length->0<=O6 t i/\O6 t i<O6 sz i
theorem Qgv (t:LI)(p:Int×Int)(l:xw)(s:Int):(l++[p]).foldl (λs p=>s+p.2*t.getD p.1.toNat 0) s=l.foldl (λs p=>s+p.2*t.getD p.1.toNat 0) s+p.2*O6 t p.1.toNat:=by
 rw[MF];rfl
theorem Qib {nm:ByteArray}{ts:xw}{bd:Int}{t:LI}(V:jT [] ↑w vl ts)(ht:QL [] ↑w vt t)
  (hh:∀p∈ts,0<=p.1/\p.1<(t.length:Int)/\-65536<=p.2/\p.2<=65536) (h8:ts.length<=8) (hi:∀i,i<t.length->0<=O6 t i/\O6 t i<=4096):
  QY sV 297 [.agg #[.string nm,vl,sS bd],vt] w λr w'=>r=sS (Qqk t ⟨nm,ts,bd⟩)/\sX w w':=by
 refine Zq func297 ?_;refine Qc<|Zl [.string nm,vl,sS bd] λb2 w1 Y hu hj=>Qb<|Qc<|Qb<|Qd<|Qc<|Qo U hj U U<|QF (V.I Y) U<|Qa<|xe<|Q7 (α:=Nat×Int) [(5,5),(7,7),(11,25)] (λz=>[(5,sS z.2),(11,sS z.1)]) (λz w'=>z.1<=ts.length/\sX w w'/\z.2=(ts.take z.1).foldl (λs p=>s+p.2*t.getD p.1.toNat 0) 0/\-(268435456*(z.1:Int))<=z.2/\z.2<=268435456*(z.1:Int)) (λz=>ts.length - z.1) (0,0) oB
  ⟨Lo _,Y,U,og,og⟩ ?_
 rintro⟨k,s⟩ g w2 ⟨hk,J,O,hv,hw⟩;refine Zo rfl U (λS=>?_) (λS=>?_)
 ·refine Qw ?_;have hm:ts.length<=k:=by have H:¬(k:Int)<(ts.length:Int):=S;omega
  rw[Lu hm]at O;refine Qj<|Qb<|Qh ⟨[_],La,by rw[O];rfl,J⟩
 have E:k<ts.length:=by have H:(k:Int)<(ts.length:Int):=S;omega
 have T:=hh _ (Lm E);have ha:ts.take (k+1)=ts.take k++[ts[k]'E]:=Ln E;refine Qf<|Qd<|Qm<|Qc<|xig YK (V.I J) U U E λhy H=>?_;refine Zf (ts[k]'E) λe he=>?_;rw[he]at H T ha;refine x (Qr H U U)<|QM [sS 0,sS 0] λb7 w3 hn ho I=>QK (QD e) I oB λw4 hp I=>xe ?_;have hq:sX w2 w4:=hn.O hp ho;have hb:=J.D hq;have hr:e.1=((e.1.toNat:Nat):Int):=oa
 have hf:e.1.toNat<t.length:=oa
 have hg:=hi _ hf;have hz:-268435456<=e.2*O6 t e.1.toNat/\e.2*O6 t e.1.toNat<=268435456:=by
  have h1:(-65536)*O6 t e.1.toNat<=e.2*O6 t e.1.toNat:=Int.mul_le_mul_of_nonneg_right T.2.2.1 hg.1;have h2:e.2*O6 t e.1.toNat<=65536*O6 t e.1.toNat:=Int.mul_le_mul_of_nonneg_right T.2.2.2 hg.1;omega
 refine Zf (e.2*O6 t e.1.toNat) λpr h0=>?_;refine Zz [] (YW 0 11 [])<|p Qv<|p (QG U)<|pq (λ_ G=>Qk (I.I G) U U)<|p Qv<|p (QG U) <|
  pq (λ_ G=>Qk (I.I G) U U)<|pic (i:=e.1.toNat) U (ht.I hb) U (OV sS hr) hf λh3 hs=>pq (λ_ G=>Qy (hs.I G) U) <|
  p (λ_=>QiK U U ⟨oa,oa⟩)<|p (λ_=>XX U U ⟨oa,oa⟩)<|p ZG<|pe ?_
 refine Qs<|QH U U<|Qa<|xe<|⟨(k+1,s+e.2*O6 t e.1.toNat),og,oB,E,hb.D (O5.C _ _),?_,og,og⟩;simp only[];rw[ha,Qgv,<-O]
theorem Qj4 {bt:Nat}{t:LI}(I:QZ ↑w bt 63 [vt])(J:QL [] ↑w vt t)(e:Int×Int)(V:0<=e.1/\e.1<(t.length:Int)):
  QY sV 295 ([sT (QD e)]++[sP bt]) w λr w'=>r=.bool (!decide (t.getD e.1.toNat 0=e.2))/\sX w w':=by
 refine Zq func295 ?_;refine Qc<|Zl (QD e) λb2 Y G ha H=>Qb ?_;have O:e.1=((e.1.toNat:Nat):Int):=oa
 have S:e.1.toNat<t.length:=oa
 refine Qd<|Zz [] (YW 0 9 [])<|pq (λ_ E=>Qk ((I.I G).I E) U U)<|p (QG U)<|pq (λ_ E=>Qk (H.I E) U U)<|pic (i:=e.1.toNat) U (J.I G) U (OV sS O) S λa7 T =>
  pq (λ_ E=>Qy (T.I E) U)<|p (QG U)<|pq (λ_ E=>Qk (H.I E) U U)<|p (λ_=>XH U U) <|
  p ZG<|pe ?_
 refine Qh ⟨[_],La,?_,G.D (O5.C _ _)⟩;show Value.bool (decide (¬O6 t e.1.toNat=e.2))=_;unfold O6;simp
theorem Qh9 (t:LI)(x:qv):(!(x.ls.any λl=>!decide (t.getD l.1.toNat 0=l.2)))=Uq t x:=by
 unfold Uq;induction x.ls with
 | nil=>rfl
 | cons a l ih=>rw[List.any_cons,L9,<-ih];cases decide (t.getD a.1.toNat 0=a.2) <;> simp
theorem QmY {q:XV}{t:LI}(I:QZ ↑w b 105 (Q3 q))(J:jT [] ↑w q.v q.ls)(H:QL [] ↑w vt t)(O:∀p∈q.ls,0<=p.1/\p.1<(t.length:Int)):
  QY sV 293 ([vt]++[sP b]) w λr w'=>r=.bool (Uq t q.x)/\sX w w':=by
 refine Zq func293 ?_;refine Qc<|Qn<|yN (us:=[vt]) H.cells λb2 Y E ha S=>Qb<|Qc<|Qo U (I.I E) U U<|x ZD<|Qz<|(QpH (q:=λl=>!decide (t.getD l.1.toNat 0=l.2)) (cap:=[sP b2]) (J.I E) (λe T V G=>Qj4 (S.I G) ((H.I E).I G) e (O e T))).Y ?_;rintro r2 V ⟨rfl,G⟩;refine x (Zy U)<|Qb<|Qh ⟨[_],La,OV Value.bool (Qh9 t q.x),E.D G⟩
theorem QmX {q:KV}{t:LI}(G:QZ ↑w b 110 (Q9 q))(I:jT [] ↑w q.v q.ts)(J:QL [] ↑w vt t)
  (O:∀p∈q.ts,0<=p.1/\p.1<(t.length:Int)/\-65536<=p.2/\p.2<=65536) (S:q.ts.length<=8) (T:∀i,i<t.length->0<=O6 t i/\O6 t i<=4096):
  QY sV 296 ([vt]++[sP b]) w λr w'=>r=.bool (qz t q.k)/\sX w w':=by
 refine Zq func296 ?_;refine Qc<|Qb ?_;have hd:sX w { w with drawn:=w.drawn+1 }:=O5.C _ _
 refine Qd<|qZ (sX { w with drawn:=w.drawn+1 }) [oE 0,oE 1,oE 3,oE 4,oF 2,oE 5,oE 6] mixed om oe (O5.Z _ _) ?_
 refine pq (λ_ E=>Zu ((G.I hd).I E) U U)<|p Qv<|p (QG U)<|pq (λ_ E=>Qk ((G.I hd).I E) U U)<|pk<|xg<|(Qib (I.I hd) (J.I hd) O S T).Y ?_;rintro V Y ⟨rfl,H⟩;refine⟨H,?_⟩;refine p (λ_=>Yc U U)<|p ZG<|pe ?_;exact Qh ⟨[_],La,U,hd.D H⟩
end Go.Lg
