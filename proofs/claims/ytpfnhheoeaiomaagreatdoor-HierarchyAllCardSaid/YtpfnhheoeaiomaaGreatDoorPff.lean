/- Merged out of 25 texts. -/
import Derived.Test.YtpfnhheoeaiomaaGreatDoorPfe
import Derived.Test.YtpfnhheoeaiomaaGreatDoorRows
import Derived.JoinedOf
import Derived.Test.YtpfnhheoeaiomaaGreatDoorCards
import Derived.SevenTiedAt
set_option maxHeartbeats 40000000
set_option maxRecDepth 100000
set_option linter.all false
open Go Go.Lg
open Go.Value renaming int->oD
open Go.IntKind renaming i64->oE
open _root_.List renaming replicate->oI,length_singleton->oL,length_cons->oS,length->oY,getElem_replicate->Oy
open _root_.Decidable renaming byContradiction->oW
open _root_.Nat renaming pow_succ->OM,succ_mul->OU
open Go renaming World->O6,Value->O7,Operand->O8,Program->O9
open Go.Proofs Go.Proofs.Tryz
open Go.Proofs.Tryz renaming prog->sV
open Go.Proofs.YtpfnhheoeaiomaaGreatDoor
variable {w w':O6}{L X ds ns:LN}{n i t base j T N G m g id B kt U:Nat}{a A:Qz}{cs us cap:LV}{α β:Type}{y:O8}{ve va z vs vk vx vr vo vh:O7}{aa:List Qz}{f:Fr}{P:O9}{o un ul u hi r est q rs:LI}{s kd:Int}{c:ZO}{fn:Func}{es ed:List Ed}{K:xE}{d:xJ}{k':IntKind}{R:RpV}
namespace Go.Lg
inductive Us (ok:Ed->Bool) (a:Qz):Int->Int->Prop
 | z {x:Int}:Us ok a x x
 | st {x y z v:Int}:(x,v,y)∈a.ed->ok (x,v,y)=true->Us ok a y z->Us ok a x z
theorem Us.snoc {ok:Ed->Bool}{x y z v:Int}(h:Us ok a x y)(G:(y,v,z)∈a.ed)(I:ok (y,v,z)=true):Us ok a x z:=by
 induction h with
 | z=>exact .st G I .z
 | st h1 h2 _ ih=>exact .st h1 h2 (ih G I)
theorem Us.imp {ok G:Ed->Bool}(hi:∀e∈a.ed,ok e=true->G e=true){x y:Int}(h:Us ok a x y):Us G a x y:=by
 induction h with
 | z=>exact .z
 | st h1 h2 _ ih=>exact .st h1 (hi _ h1 h2) ih
theorem Us.to {ok:Ed->Bool}{S:Int->Prop}(hS:∀e∈a.ed,S e.1->ok e=true->S e.2.2){x y:Int}(h:Us ok a x y)(hx:S x):S y:=by
 induction h with
 | z=>exact hx
 | st h1 h2 _ ih=>exact ih (hS _ h1 hx h2)
theorem Vw {α γ κ:Type}{st:List α->γ->List α}{key:α->κ}{g:γ->κ->Prop}(I:∀l v,∃r,st l v=l++r)(J:∀l v k,g v k->k∈(st l v).map key):∀(vs:List γ) (l:List α),(∃r,vs.foldl st l=l++r)/\∀v∈vs,∀k,g v k->k∈(vs.foldl st l).map key
 | [],l=>⟨⟨[],oe⟩,λv U=>by cases U⟩
 | v::vs,l=>by
  obtain⟨V,h1⟩:=I l v;obtain⟨⟨r2,h2⟩,Y⟩:=Vw I J vs (st l v);rw[LP];refine⟨⟨V++r2,by rw[h2,h1,LC]⟩,λw G k O=>?_⟩;rcases Ll.1 G with rfl|G
  ·rw[h2,Lv];exact LG _ (J l w k O)
  exact Y w G k O
theorem XD {α γ:Type}{st:List α->γ->List α}{Inv:List α->Prop}:∀(vs:List γ) (l:List α),(∀l v,v∈vs->Inv l->Inv (st l v))->Inv l->Inv (vs.foldl st l)
 | [],_,_,h=>h
 | v::vs,l,G,h=>XD vs (st l v) (λl w I=>G l w (Lh _ I)) (G l v Lj h)
theorem Qmn (ok:Ed->Bool)(es:List Ed)(l:LI):(∃r,es.foldl (jG ok) l=l++r)/\∀e∈es,∀k,(ok e=true/\k=e.2.2)->k∈(es.foldl (jG ok) l).map _root_.id :=
 Vw (g:=λ(e:Ed) k=>ok e=true/\k=e.2.2) (key:=_root_.id) (λl e=>by
  unfold jG;split
  ·exact⟨_,Z⟩
  ·exact⟨[],oe⟩) (λl e k G=>by
  rw[List.map_id,G.2];unfold jG;by_cases h:e.2.2∈l
  ·rw[OY (λh2=>h2.2 h)];exact h
  rw[OZ ⟨G.1,h⟩];simp) es l
theorem Qml {ok:Ed->Bool}{a:Qz}{P:Int->Prop}(G:∀e∈a.ed,P e.1->ok e=true->P e.2.2):∀(f i:Nat) (l:LI),(∀x∈l,P x)->∀x∈bfs ok a.ed f i l,P x
 | 0,_,_,h=>h
 | f+1,i,l,h=>by
  rw[bfs];split
  ·rename_i hi;refine Qml G f (i+1) _ ?_;have hc:P (xh l i):=h _ (by rw[<-Zo hi];exact Lm hi);refine XD (Inv:=λl=>∀x∈l,P x) _ _ (λl e I hl x hx=>?_) h;unfold jG at hx;split at hx
   ·rename_i h1;rcases Lk.1 hx with hx|hx
    ·exact hl x hx
    rw[Lc.1 hx];obtain⟨h2,J⟩:=LB.1 I;exact G e h2 (by rw[O3 J];exact hc) h1.1
   exact hl x hx
  exact h
theorem Qmm {ok:Ed->Bool}{a:Qz}{n:Nat}(ht:∀e∈a.ed,0<=e.2.2/\e.2.2<(n:Int)){l0:LI}:∀(f i:Nat) (l:LI),Ux n l0 l->l0.length+n<=i+f->(∀k,k<i->∀e∈a.ed,l[k]?=some e.1->ok e=true->e.2.2∈l) ->
  Ux n l0 (bfs ok a.ed f i l)/\(∃r,bfs ok a.ed f i l=l++r)/\∀e∈a.ed,e.1∈bfs ok a.ed f i l->ok e=true->e.2.2∈bfs ok a.ed f i l
 | 0,i,l,I,hf,hc=>⟨I,⟨[],by simp[bfs]⟩,λe G V J=>by
  obtain⟨k,Y,e1⟩:=LQ (show e.1∈l from V);have:=I.len;exact hc k oa e G (by rw[LE Y,e1]) J⟩
 | f+1,i,l,I,hf,hc=>by
  rw[bfs];split
  ·rename_i hi;obtain⟨⟨r,O⟩,hh⟩:=Qmn ok (QK a.ed (xh l i)) l;have ha:=I.edges ok (QK a.ed (xh l i)) λe G=>ht e (LB.1 G).1;obtain⟨g1,⟨r2,g2⟩,g3⟩:=Qmm ht f (i+1) _ ha oa λk J e G U hok=>by
    by_cases hj:k=i
    ·subst hj;rw[O,LT hi,LE hi,Zo hi]at U;have:=hh e (LB.2 ⟨G,O2 (Option.some.inj U).symm⟩) e.2.2 ⟨hok,Z⟩
     rwa [List.map_id]at this
    rw[O,LT oa]at U;rw[O];exact LG _ (hc k oa e G U hok)
   exact⟨g1,⟨r++r2,by rw[g2,O,LC]⟩,g3⟩
  rename_i hi;refine⟨I,⟨[],oe⟩,λe G V J=>?_⟩;obtain⟨k,Y,e1⟩:=LQ (show e.1∈l from V);exact hc k oa e G (by rw[LE Y,e1]) J
theorem Qcj (ho:QL a){ok:Ed->Bool}{l:LI}(hl:∀x∈l,0<=x/\x<a.st){y:Int}:y∈cls ok a l↔∃x∈l,Us ok a x y:=by
 have Y:a.st=(a.st.toNat:Int):=by have:=ho.st0;omega
 have ht:∀e∈a.ed,0<=e.2.2/\e.2.2<(a.st.toNat:Int):=λe G=>oq (ho.ed e G).2.2.2
 unfold cls;rw[UA];obtain⟨g1,⟨r,O⟩,U⟩:=Qmm (ok:=ok) ht (l.length+a.st.toNat) 0 l (Ux.zero _ _) oa λk I=>oa
 constructor
 ·rintro⟨_,h2⟩;exact Qml (P:=λz=>∃x∈l,Us ok a x z) (λe G ⟨x,hx,J⟩ I=>⟨x,hx,J.snoc G I⟩) _ _ _ (λx hx=>⟨x,hx,.z⟩) y h2
 rintro⟨x,hx,h2⟩;have J:y∈bfs ok a.ed (l.length+a.st.toNat) 0 l:=h2.to (S:=λz=>z∈bfs ok a.ed (l.length+a.st.toNat) 0 l) (λe G V I=>U e G V I) (by rw[O];exact LG _ hx);exact⟨g1.all (λx hx=>oq (hl x hx)) y J,J⟩
theorem Qcd (l:LI)(x:Int):x∈ddp l↔x∈l:=by
 unfold ddp;have key:∀(l m:LI),x∈l.foldl ya m↔x∈m\/x∈l:=by
  intro l;induction l with
  | nil=>intro m;simp
  | cons y l ih =>
   intro m;rw[LP,ih];unfold ya;split
   ·rw[Lk,Lc,Ll,or_assoc]
   rename_i h;have G:y∈m:=Ly.1 h;rw[Ll];constructor
   ·rintro(h1|h1)
    ·exact .inl h1
    exact .inr (.inr h1)
   rintro(h1|h1|h1)
   ·exact .inl h1
   ·exact .inl (h1 ▸ G)
   exact .inr h1
 rw[key];simp
theorem QbY {l:LI}{v x:Int}:x∈hop ed l v↔∃s∈l,(s,v,x)∈ed:=by
 unfold hop;rw[Mh];constructor
 ·rintro⟨s,G,hx⟩;obtain⟨⟨p,q,r⟩,I,rfl⟩:=Lt.1 hx;obtain⟨h1,h2⟩:=LB.1 I;obtain⟨J,O⟩:=LB.1 h1;have e1:q=v:=O3 h2;have e2:p=s:=O3 O;subst e1 e2;exact⟨p,G,J⟩
 rintro⟨s,G,I⟩;exact⟨s,G,Lt.2 ⟨(s,v,x),LB.2 ⟨LB.2 ⟨I,O2 Z⟩,O2 Z⟩,Z⟩⟩
section
variable (ho:QL a)
include ho
theorem y7 {l:LI}{v:Int}:∀x∈hop a.ed l v,0<=x/\x<a.st:=λx hx=>by
 obtain⟨s,_,G⟩:=QbY.1 hx;exact(ho.ed _ G).2.2.2
theorem QgN:∀e∈a.ed,okR (ers a o) e=VW o un false e:=λe G=>by
 have I:=(ho.ed e G).2.2.1;unfold okR VW ers;by_cases h:e.2.1∈o
 ·simp[h]
 simp[h,I]
theorem Qgn {l:LI}(hl:∀x∈l,0<=x/\x<a.st):rch a l (ers a o)=vcl a o un l false:=by
 unfold rch vcl;refine KW (KQ _ _) (KQ _ _) λx=>?_;show x∈cls _ a _↔x∈cls _ a _;rw[Qcj ho (λy G=>hl y ((Qcd l y).1 G)),Qcj ho hl];constructor
 ·rintro⟨y,G,h⟩;exact⟨y,(Qcd l y).1 G,h.imp λe I h2=>by rw[<-QgN ho e I];exact h2⟩
 rintro⟨y,G,h⟩;exact⟨y,(Qcd l y).2 G,h.imp λe I h2=>by rw[QgN (un:=un) ho e I];exact h2⟩
theorem Qnu (est:LI)(v:Int):pnx a (ers a o) est v=vnx a o un est v:=Qgn ho (y7 ho)
theorem JX {l:LI}(hl:∀x∈l,0<=x/\x<a.st){b:Bool}{y:Int}:y∈vcl a o un l b↔∃x∈l,Us (VW o un b) a x y:=Qcj ho hl
theorem X5 {v y:Int}:y∈vnx a o un est v↔∃x∈est,∃z,(x,v,z)∈a.ed/\Us (VW o un false) a z y:=by
 unfold vnx;rw[JX ho (y7 ho)];constructor
 ·rintro⟨z,I,h⟩;obtain⟨x,hx,G⟩:=QbY.1 I;exact⟨x,hx,z,G,h⟩
 rintro⟨x,hx,z,G,h⟩;exact⟨z,QbY.2 ⟨x,hx,G⟩,h⟩
end
theorem QgB {e:Ed}:VW o un false e=true↔e.2.1∉o:=by unfold VW;simp
theorem Qkd {e:Ed}:VW o un true e=true↔e.2.1∉o/\e.2.1∈un:=by unfold VW;simp
def vns (a:Qz)(o un:LI):LI->LI->LI
 | est,[]=>est
 | est,v::t=>vns a o un (vnx a o un est v) t
inductive Jo (a:Qz) (o:LI):Int->LI->Prop
 | mk {x:Int}:x∈a.mr->Jo a o x []
 | lo {x v y:Int} {t:LI}:(x,v,y)∈a.ed->v∉o->Jo a o y t->Jo a o x t
 | hi {x v y:Int} {t:LI}:(x,v,y)∈a.ed->v∈o->Jo a o y t->Jo a o x (v::t)
theorem Jo.pre {x y:Int}{t:LI}(h:Us (VW o un false) a x y)(G:Jo a o y t):Jo a o x t:=by
 induction h with
 | z=>exact G
 | st h1 h2 _ ih=>exact .lo h1 (QgB.1 h2) (ih G)
theorem Jo.kp (ho:QL a){x:Int}{t:LI}(h:Jo a o x t):∀v∈t,v∈kpt a o:=by
 induction h with
 | mk _=>intro v I;cases I
 | lo _ _ _ ih=>exact ih
 | hi h1 h2 _ ih =>
  intro w G;rcases Ll.1 G with rfl|G
  ·exact LB.2 ⟨(ho.ed _ h1).2.2.1,O2 h2⟩
  exact ih w G
theorem US {l:LI}:mkd a l=true↔∃x∈l,x∈a.mr:=by
 unfold mkd;rw[MH];exact⟨λ⟨x,h1,h2⟩=>⟨x,h1,O3 h2⟩,λ⟨x,h1,h2⟩=>⟨x,h1,O2 h2⟩⟩
section
variable (ho:QL a)
include ho
theorem QbN:∀(t F:LI),(∀v∈t,v∈kpt a o)->mkd a (vns a o un F t)=true->∃x∈F,Jo a o x t
 | [],F,_,h=>by
  obtain⟨x,h1,h2⟩:=US.1 h;exact⟨x,h1,.mk h2⟩
 | v::t,F,G,h=>by
  obtain⟨y,I,J⟩:=QbN t (vnx a o un F v) (λw O=>G w (Lh _ O)) h;obtain⟨x,hx,z,U,hl⟩:=(X5 ho).1 I;exact⟨x,hx,.hi U (O3 (LB.1 (G v Lj)).2) (J.pre hl)⟩
def Lcl (a:Qz)(o:LI)(est:LI):Prop:=∀x v y,x∈est->(x,v,y)∈a.ed->v∉o->y∈est
theorem Qbi {l:LI}(hl:∀x∈l,0<=x/\x<a.st):Lcl a o (vcl a o un l false):=λx v y hx G I=>by
 obtain⟨z,J,h⟩:=(JX ho hl).1 hx;exact(JX ho hl).2 ⟨z,J,h.snoc G (QgB.2 I)⟩
theorem QnB {x:Int}{t:LI}(h:Jo a o x t):∀E:LI,x∈E->Lcl a o E->mkd a (vns a o un E t)=true:=by
 induction h with
 | mk h=>intro E hx _;exact US.2 ⟨_,hx,h⟩
 | lo h1 h2 _ ih=>intro E hx hE;exact ih E (hE _ _ _ hx h1 h2) hE
 | hi h1 h2 _ ih=>intro E hx hE;exact ih _ ((X5 ho).2 ⟨_,hx,_,h1,.z⟩) (Qbi ho (y7 ho))
end
inductive Pr (a:Qz) (o un:LI):Int->LI->Prop
 | z:Pr a o un 0 (vcl a o un [0] false)
 | lo {x v y:Int} {est:LI}:Pr a o un x est->(x,v,y)∈a.ed->v∉o->Pr a o un y est
 | hi {x v y:Int} {est:LI}:Pr a o un x est->(x,v,y)∈a.ed->v∈o->Pr a o un y (vnx a o un est v)
structure QtW (a:Qz)(o:LI)(x:Int)(est:LI):Prop where
 m:x∈est
 c:Lcl a o est
 s:Ss a.st.toNat est
 r:∀y∈est,Us (λ_=>true) a 0 y
theorem Pr.ok (ho:QL a)(V:0<a.st){x:Int}(h:Pr a o un x est):QtW a o x est:=by
 have G:∀x∈[(0:Int)],0<=x/\x<a.st:=λx hx=>by rw[Lc.1 hx];omega
 have tr:∀{x y:Int},Us (λ_=>true) a 0 x->Us (VW o un false) a x y->Us (λ_=>true) a 0 y:=λ{x y} h1 h2=>by
  induction h2 with
  | z=>exact h1
  | st J _ _ ih=>exact ih (h1.snoc J Z)
 induction h with
 | z=>exact⟨(JX ho G).2 ⟨0,oe,.z⟩,Qbi ho G,Ub _ _ _ _ _,λy I=>by
   obtain⟨z,O,h1⟩:=(JX ho G).1 I;rw[Lc.1 O]at h1;exact tr .z h1⟩
 | lo _ h1 h2 ih=>exact⟨ih.c _ _ _ ih.m h1 h2,ih.c,ih.s,ih.r⟩
 | hi _ h1 h2 ih=>exact⟨(X5 ho).2 ⟨_,ih.m,_,h1,.z⟩,Qbi ho (y7 ho),qq _ _ _ _ _,λy I=>by
   obtain⟨x,hx,z,U,hl⟩:=(X5 ho).1 I;exact tr ((ih.r x hx).snoc U Z) hl⟩
theorem VH {α β:Type}{L:Nat->Nat->List α->Option β}{tst:α->Prop}{ad:α->List α->List α}{Inv:List α->Prop}{N:Nat}
  (I:∀f i l x,l[i]?=some x->L (f+1) i l=none->tst x/\L f (i+1) (ad x l)=none) (J:∀x l,∃r,ad x l=l++r) (hi:∀x l,Inv l->x∈l->Inv (ad x l)) (O:∀l,Inv l->l.length<=N):
  ∀(f i:Nat) (l:List α),Inv l->N<i+f->L f i l=none->∃l2,(∃r,l2=l++r)/\∀k x,i<=k->l2[k]?=some x->tst x/\∃l' r',l2=ad x l'++r'
 | 0,i,l,h,Y,_=>⟨l,⟨[],oe⟩,λk x U e=>by
  have:=O l h;rw[Mk oa]at e;cases e⟩
 | f+1,i,l,h,Y,hn=>by
  cases hx:l[i]? with
  | none=>exact⟨l,⟨[],oe⟩,λk x U e=>by
    have:=MG.1 hx;rw[Mk oa]at e;cases e⟩
  | some x =>
   obtain⟨h1,h2⟩:=I f i l x hx hn;have hm:=Me hx;obtain⟨l2,⟨r,G⟩,h3⟩:=VH I J hi O f (i+1) (ad x l) (hi x l h hm) oa h2;obtain⟨r1,V⟩:=J x l;refine⟨l2,⟨r1++r,by rw[G,V,LC]⟩,λk y U e=>?_⟩;by_cases ha:k=i
   ·subst ha;have he:=(Mm.1 hx).1;rw[G,V,LC,LT he,hx]at e;rw[<-Option.some.inj e];exact⟨h1,l,r,G⟩
   exact h3 k y oa e
theorem Qjt {l2 l:List α}{tst:α->Prop}{ad:α->List α->List α}(h:(∃r,l2=l++r)/\∀k x,0<=k->l2[k]?=some x->tst x/\∃l' r',l2=ad x l'++r'):(∀x∈l,x∈l2)/\∀x∈l2,tst x/\∃l' r',l2=ad x l'++r':=by
 obtain⟨⟨r,G⟩,h2⟩:=h;refine⟨λx hx=>by rw[G];exact LG _ hx,λx hx=>?_⟩;obtain⟨k,I,e⟩:=LQ hx;exact h2 k x (Lp _) (by rw[LE I,e])
def kD (d:Dq):LI×LI:=(d.1,d.2.1)
theorem QdR (x:Dq)(vs:LI)(l:List Dq):(∃r,vs.foldl (dfE a o un x) l=l++r)/\∀v∈vs,∀k,((vnx a o un x.1 v).length+(vnx a o un x.2.1 v).length > 0/\k=(vnx a o un x.1 v,vnx a o un x.2.1 v))->k∈(vs.foldl (dfE a o un x) l).map kD :=
 Vw (g:=λv k=>(vnx a o un x.1 v).length+(vnx a o un x.2.1 v).length > 0/\k=(vnx a o un x.1 v,vnx a o un x.2.1 v)) (λl v=>by
  unfold dfE;split
  ·exact⟨_,Z⟩
  ·exact⟨[],oe⟩) (λl v k G=>by
  rw[G.2];unfold dfE;cases I:Ko l (vnx a o un x.1 v) (vnx a o un x.2.1 v) with
  | true=>rw[OY (λh=>by cases h.2)];exact VI.1 I
  | false=>rw[OZ ⟨G.1,rfl⟩,Lv];exact Mv _ (Lc.2 Z)) vs l
def Qt0 (n:Nat)(l:List Dq):Prop:=(l.map kD).Nodup/\∀p∈l.map kD,Ss n p.1/\Ss n p.2
theorem QlM {bad:LI->LI->Bool}{x y:LI}(hx:Ss a.st.toNat x)(O:Ss a.st.toNat y)(h:dff a o un x y bad=none):
  ∃D:LI->LI->Prop,D x y/\(∀E F,D E F->bad E F=false)/\∀E F v,D E F->v∈kpt a o->(vnx a o un E v).length+(vnx a o un F v).length > 0->D (vnx a o un E v) (vnx a o un F v):=by
 unfold dff at h;obtain⟨l2,h2⟩:=VH (L:=dfL a o un bad) (tst:=λx=>bad x.1 x.2.1=false) (ad:=λx l=>(kpt a o).foldl (dfE a o un x) l) (Inv:=Qt0 a.st.toNat) (N:=4 ^ a.st.toNat)
  (λf i l x hx I=>by
   rw[jq hx]at I;split at I
   ·cases I
   rename_i hb;exact⟨eq_false_of_ne_true hb,I⟩)
  (λx l=>(QdR x _ l).1)
  (λx l hl hm=>XD _ _ (λl v _ hl=>by
   unfold dfE;split
   ·rename_i hc;refine⟨?_,λp G=>?_⟩
    ·rw[Lv];refine Y6 hl.1 λU=>?_;have:=VI.2 U;rw[hc.2]at this;cases this
    rw[Lv]at G;rcases Lk.1 G with G|G
    ·exact hl.2 p G
    rw[Lc.1 G];exact⟨qq _ _ _ _ _,qq _ _ _ _ _⟩
   exact hl) hl)
  (λl hl=>by
   have:=yC _ hl.1 hl.2;rw[Lo,<-Vv]at this;exact this) _ 0 _ ⟨oe,λp G=>by rw[List.mem_singleton.1 G];exact⟨hx,O⟩⟩ oa h
 obtain⟨V,J⟩:=Qjt h2;refine⟨λE F=>(E,F)∈l2.map kD,Lt.2 ⟨_,V _ Lj,Z⟩,λE F hD=>?_,λE F v hD Y G=>?_⟩
 ·obtain⟨d,hd,e⟩:=Lt.1 hD;cases e
  exact(J d hd).1
 obtain⟨d,hd,e⟩:=Lt.1 hD;cases e
 obtain⟨_,l',r',e2⟩:=J d hd;rw[e2,Lv];exact LG _ ((QdR d _ l').2 v Y _ ⟨G,Z⟩)
theorem Qi2 {t:LI}(ho:QL a):∀{E:LI},mkd a (vns a o un E t)=true->E.length≠0:=by
 induction t with
 | nil =>
  intro E h e;obtain⟨x,hx,_⟩:=US.1 h;rw[Lu e]at hx;cases hx
 | cons v t ih =>
  intro E h e;refine ih h ?_;refine Nat.eq_zero_of_not_pos λG=>?_;obtain⟨y,I⟩:=M6 G;obtain⟨x,hx,_⟩:=(X5 ho).1 I;rw[Lu e]at hx;cases hx
theorem Qno (ho:QL a)(J:Ss a.st.toNat est)(h:rft a o un est s=none):∀t:LI,(∀v∈t,v∈kpt a o)->mkd a (vns a o un est t)=true->mkd a (vns a o un (vcl a o un [s] false) t)=true:=by
 obtain⟨D,h1,h2,O⟩:=QlM J (Ub a o un [s] false) h;have key:∀(t E F:LI),D E F->(∀v∈t,v∈kpt a o)->mkd a (vns a o un E t)=true->mkd a (vns a o un F t)=true:=by
  intro t;induction t with
  | nil =>
   intro E F hD _ G;have:=h2 E F hD;unfold yv at this;rw[show mkd a E=true from G]at this;show mkd a F=true;simpa using this
  | cons v t ih =>
   intro E F hD I G;refine ih _ _ (O E F v hD (I v Lj) ?_) (λw U=>I w (Lh _ U)) G;have:=Qi2 ho (t:=t) G;omega
 exact λt I G=>key t _ _ h1 I G
def kP (z:jQ):LI×LI:=([z.1],z.2.1)
theorem Qau {l:List jQ}{t:LI}:yo l s t=true↔([s],t)∈l.map kP:=by
 unfold yo;rw[MH,Lt];constructor
 ·rintro⟨z,G,h⟩;obtain⟨h1,h2⟩:=O3 h;exact⟨z,G,by unfold kP;rw[h1,h2]⟩
 rintro⟨z,G,h⟩;unfold kP at h;have h1:=O0 Prod.fst h;have h2:=O0 Prod.snd h;exact⟨z,G,O2 ⟨ox h1,h2⟩⟩
theorem Qdi (x:jQ)(es:List Ed)(l:List jQ):(∃r,es.foldl (obE a o un x) l=l++r)/\∀e∈es,∀k,k=kP (obN a o un x e)->k∈(es.foldl (obE a o un x) l).map kP :=
 Vw (g:=λ(e:Ed) k=>k=kP (obN a o un x e)) (λl e=>by
  unfold obE;split
  ·exact⟨[],oe⟩
  ·exact⟨_,Z⟩) (λl e k G=>by
  rw[G];unfold obE;split
  ·rename_i I;exact Qau.1 I
  rw[Lv];exact Mv _ (Lc.2 Z)) es l
def QtZ (n:Nat)(l:List jQ):Prop:=(l.map kP).Nodup/\∀p∈l.map kP,Ss n p.1/\Ss n p.2
theorem Qkf (ho:QL a)(h0:0<a.st)(h:obs a o un=none):∀x est,Pr a o un x est->rft a o un est x=none:=by
 unfold obs at h;rw[OY oa]at h;obtain⟨l2,h2⟩:=VH (L:=obL a o un) (tst:=λx=>rft a o un x.2.1 x.1=none) (ad:=λx l=>(QK a.ed x.1).foldl (obE a o un x) l) (Inv:=QtZ a.st.toNat) (N:=4 ^ a.st.toNat)
  (λf i l x hx I=>by
   cases Y:rft a o un x.2.1 x.1 with
   | some t=>rw[UM hx Y]at I;cases I
   | none=>rw[Vn hx Y]at I;exact⟨Z,I⟩)
  (λx l=>(Qdi x _ l).1)
  (λx l hl J=>XD _ _ (λl e O U=>by
   unfold obE;split
   ·exact U
   rename_i hc;have ha:=(ho.ed e (LB.1 O).1).2.2.2;refine⟨?_,λp G=>?_⟩
   ·rw[Lv];exact Y6 U.1 λhk=>hc (Qau.2 hk)
   rw[Lv]at G;rcases Lk.1 G with G|G
   ·exact U.2 p G
   rw[Lc.1 G];refine⟨Ss.one ha.1 (by have:=ha.2;show e.2.2<_;omega),?_⟩;show Ss _ (if e.2.1∈o then vnx a o un x.2.1 e.2.1 else x.2.1)
   split
   ·exact qq _ _ _ _ _
   exact(hl.2 _ (Lt.2 ⟨x,J,Z⟩)).2) hl)
  (λl hl=>by
   have:=yC _ hl.1 hl.2;rw[Lo,<-Vv]at this;exact this) _ 0 _ ⟨oe,λp G=>by rw[List.mem_singleton.1 G];exact⟨Ss.one oa oa,Ub _ _ _ _ _⟩⟩ oa h
 obtain⟨h3,h4⟩:=Qjt h2;have key:∀x est,Pr a o un x est->([x],est)∈l2.map kP:=λx est G=>by
  have go:∀{x v y:Int} {est:LI},([x],est)∈l2.map kP->(x,v,y)∈a.ed->([y],if v∈o then vnx a o un est v else est)∈l2.map kP:=λ{x v y est} J O=>by
   obtain⟨z,V,e⟩:=Lt.1 J;unfold kP at e;have e1:z.1=x:=by simpa using O0 Prod.fst e
   have e2:z.2.1=est:=O0 Prod.snd e;obtain⟨_,l',r',e3⟩:=h4 z V;rw[e3,Lv];refine LG _ ((Qdi z _ l').2 (x,v,y) (LB.2 ⟨O,O2 e1.symm⟩) _ ?_);unfold kP obN;rw[e2]
  induction G with
  | z=>exact Lt.2 ⟨_,h3 _ Lj,Z⟩
  | lo _ h1 h2 ih=>have:=go ih h1;rwa [OY h2]at this
  | hi _ h1 h2 ih=>have:=go ih h1;rwa [OZ h2]at this
 intro x est G;obtain⟨z,V,e⟩:=Lt.1 (key x est G);unfold kP at e;have e1:z.1=x:=by simpa using O0 Prod.fst e
 have e2:z.2.1=est:=O0 Prod.snd e;have:=(h4 z V).1
 rwa [e1,e2]at this
theorem QdV (x:Cq)(es:List Ed)(l:List Cq):(∃r,es.foldl (csE x) l=l++r)/\∀e∈es,∀k,k=e.2.2->k∈(es.foldl (csE x) l).map (·.1):=
 Vw (g:=λ(e:Ed) k=>k=e.2.2) (λl e=>by
  unfold csE;split
  ·exact⟨[],oe⟩
  ·exact⟨_,Z⟩) (λl e k G=>by
  rw[G];unfold csE;split
  ·rename_i I;exact I
  rw[Lv];exact Mv _ (Lc.2 Z)) es l
def Qt1 (n:Nat)(l:List Cq):Prop:=(l.map (·.1)).Nodup/\∀s∈l.map (·.1),0<=s/\s<(n:Int)
theorem QlV (ho:QL a)(h0:0<a.st)(h:cns a o un=none):∀x,Us (λ_=>true) a 0 x->∀v∈a.al,ctd a o un x v=false:=by
 unfold cns at h;rw[OY oa]at h;obtain⟨l2,h2⟩:=VH (L:=csL a o un) (tst:=λx=>a.al.find? (ctd a o un x.1)=none) (ad:=λx l=>(QK a.ed x.1).foldl (csE x) l) (Inv:=Qt1 a.st.toNat) (N:=a.st.toNat)
  (λf i l x hx I=>by
   cases Y:a.al.find? (ctd a o un x.1) with
   | some t=>rw[QdT hx Y]at I;cases I
   | none=>rw[jt hx Y]at I;exact⟨Z,I⟩)
  (λx l=>(QdV x _ l).1)
  (λx l hl J=>XD _ _ (λl e O U=>by
   unfold csE;split
   ·exact U
   rename_i hc;have ha:=(ho.ed e (LB.1 O).1).2.2.2;refine⟨?_,λp G=>?_⟩
   ·rw[Lv];exact Y6 U.1 hc
   rw[Lv]at G;rcases Lk.1 G with G|G
   ·exact U.2 p G
   rw[Lc.1 G];have:=ha.2;exact⟨ha.1,by show e.2.2<_;omega⟩) hl)
  (λl hl=>by
   have:=xM a.st.toNat _ hl.1 hl.2
   rwa [Lo]at this) _ 0 _ ⟨oe,λp G=>by rw[List.mem_singleton.1 G];exact⟨Ms _,by show(0:Int)<_;omega⟩⟩ oa h
 obtain⟨h3,h4⟩:=Qjt h2;intro x hx v hv;have J:x∈l2.map (·.1):=hx.to (S:=λx=>x∈l2.map (·.1)) (λe O J _=>by
  obtain⟨z,V,e1⟩:=Lt.1 J;obtain⟨_,l',r',e3⟩:=h4 z V;rw[e3,Lv];exact LG _ ((QdV z _ l').2 e (LB.2 ⟨O,O2 e1.symm⟩) _ Z)) (Lt.2 ⟨_,h3 _ Lj,Z⟩)
 obtain⟨z,V,e1⟩:=Lt.1 J;have h5:=(h4 z V).1;rw[List.find?_eq_none]at h5;have:=h5 v hv;rw[show z.1=x from e1]at this;exact eq_false_of_ne_true this
theorem Qgr {v:Int}{l:LI}:psb a v l=true↔∃s∈l,∃y,(s,v,y)∈a.ed:=by
 unfold psb;rw[MH];constructor
 ·rintro⟨s,G,h⟩;obtain⟨⟨p,q,r⟩,I,h2⟩:=MH.1 h;obtain⟨J,O⟩:=LB.1 I;have e1:q=v:=O3 h2;have e2:p=s:=O3 O;subst e1 e2;exact⟨p,G,r,J⟩
 rintro⟨s,G,y,I⟩;exact⟨s,G,MH.2 ⟨(s,v,y),LB.2 ⟨I,O2 Z⟩,O2 Z⟩⟩
structure q8 (a:Qz)(o un:LI):Prop where
 h1:∀x est v,Pr a o un x est->v∈kpt a o->v∈un->(vnx a o un est v).length≠0->∃x1,Us (VW o un true) a x x1/\∃y,(x1,v,y)∈a.ed
 h2:∀x est t,Pr a o un x est->(∀v∈t,v∈kpt a o)->mkd a (vns a o un est t)=true->Jo a o x t
theorem q8.of (ho:QL a)(J:0<a.st)(h1:obs a o un=none)(h2:cns a o un=none)(hb:∀x,Us (λ_=>true) a 0 x->∃t,Jo a o x t):q8 a o un:=by
 have one:∀{x est},Pr a o un x est->∀y∈[x],0<=y/\y<a.st:=λG y U=>by
  rw[Lc.1 U];have I:=G.ok ho J;have:=I.s.2 _ I.m;omega
 have run:=λx est (G:Pr a o un x est)=>Qno ho (G.ok ho J).s (Qkf ho J h1 x est G);refine⟨λx est v G V hu hn=>?_,λx est t G I Y=>?_⟩
 ·have I:=G.ok ho J;obtain⟨y,U⟩:=M6 (Nr hn);obtain⟨x2,ha,z,he,hl⟩:=(X5 ho).1 U;have hr:Us (λ_=>true) a 0 y:=by
   have h3:=(I.r x2 ha).snoc he Z;have:∀{p q:Int},Us (VW o un false) a p q->Us (λ_=>true) a 0 p->Us (λ_=>true) a 0 q:=λh4 O=>h4.to (S:=λq=>Us (λ_=>true) a 0 q) (λe he h6 _=>h6.snoc he Z) O;exact this hl h3
  obtain⟨t,ht⟩:=hb y hr;have Y:=QnB (un:=un) ho ht _ U (Qbi ho (y7 ho));have h3:=run x est G (v::t) (λw hw=>by
   rcases Ll.1 hw with rfl|hw
   ·exact V
   exact ht.kp ho w hw) Y
  have h4:=Qi2 ho (t:=t) (E:=vnx a o un (vcl a o un [x] false) v) h3;obtain⟨y2,hh⟩:=M6 (Nr h4);obtain⟨x3,hf,z3,hj,_⟩:=(X5 ho).1 hh;have O:=QlV ho J h2 x (I.r x I.m) v (LB.1 V).1;unfold ctd at O;rw[(LB.1 V).2,O2 hu,Qgr.2 ⟨x3,hf,z3,hj⟩]at O;have h6:psb a v (vcl a o un [x] true)=true:=by simpa using O
  obtain⟨x4,hq,z4,hs⟩:=Qgr.1 h6;obtain⟨x5,hz,hg⟩:=(JX ho (one G)).1 hq;rw[Lc.1 hz]at hg;exact⟨x4,hg,z4,hs⟩
 obtain⟨x2,ha,h7⟩:=QbN ho t _ I (run x est G t I Y);obtain⟨x3,hf,hl⟩:=(JX ho (one G)).1 ha;rw[Lc.1 hf]at hl;exact h7.pre hl
theorem Uz (ho:QL a)(J:∀v∈a.al,v∈o){x:Int}(hx:0<=x/\x<a.st)(b:Bool):vcl a o un [x] b=[x]:=by
 refine KW (KQ _ _) (MN _ _) λy=>?_;show y∈vcl a o un [x] b↔_;rw[JX ho (λz G=>by rw[Lc.1 G];exact hx)];constructor
 ·rintro⟨z,G,h⟩;rw[Lc.1 G]at h;cases h with
  | z=>simp
  | st O I _ =>
   have:=J _ (ho.ed _ O).2.2.1;unfold VW at I;rw[O2 this]at I;cases I
 intro U;exact⟨x,oe,by rw[List.mem_singleton.1 U];exact .z⟩
theorem QlC (ho:QL a){v y G:Int}(h:(s,v,y)∈a.ed)(I:(s,v,G)∈a.ed):y=G:=by
 have h1:=X8 ho.edi h;rw[X8 ho.edi I]at h1;exact(Option.some.inj h1).symm
theorem Qf1 (ho:QL a)(O:∀v∈a.al,v∈o){x v y:Int}(I:(x,v,y)∈a.ed):vnx a o un [x] v=[y]:=by
 refine KW (KQ _ _) (MN _ _) λz=>?_;show z∈vnx a o un [x] v↔_;rw[X5 ho];constructor
 ·rintro⟨w,U,u,J,h⟩;rw[Lc.1 U]at J;rw[QlC ho J I]at h;cases h with
  | z=>simp
  | st V G _ =>
   have:=O _ (ho.ed _ V).2.2.1;unfold VW at G;rw[O2 this]at G;cases G
 intro Y;rw[Lc.1 Y];exact⟨x,oe,y,I,.z⟩
theorem Pr.all (ho:QL a)(I:0<a.st)(G:∀v∈a.al,v∈o){x:Int}(h:Pr a o un x est):est=[x]:=by
 induction h with
 | z=>exact Uz ho G ⟨Ms _,I⟩ _
 | lo _ h1 h2 _=>exact O1 (G _ (ho.ed _ h1).2.2.1) h2
 | hi _ h1 _ ih=>rw[ih];exact Qf1 ho G h1
theorem q8.all (ho:QL a)(J:0<a.st)(O:∀v∈a.al,v∈o):q8 a o un:=by
 refine⟨λx est v G _ _ U=>?_,λx est t G hk V=>?_⟩
 ·rw[G.all ho J O]at U;obtain⟨y,I⟩:=M6 (Nr U);obtain⟨w,hw,z,Y,_⟩:=(X5 ho).1 I;rw[Lc.1 hw]at Y;exact⟨x,.z,z,Y⟩
 rw[G.all ho J O]at V;obtain⟨y,I,h⟩:=QbN ho t _ hk V;rw[Lc.1 I]at h;exact h
theorem QdQ {bad:LI->LI->Bool}(hb:∀E,bad E E=false):∀(f i:Nat) (l:List Dq),(∀d∈l,d.1=d.2.1)->dfL a o un bad f i l=none
 | 0,_,_,_=>rfl
 | f+1,i,l,h=>by
  cases hx:l[i]? with
  | none=>exact qa (MG.1 hx)
  | some x =>
   have e:=h x (Me hx);rw[jq hx,<-e,hb,OY oh];refine QdQ hb f (i+1) _ (XD (Inv:=λl:List Dq=>∀d∈l,d.1=d.2.1) _ _ (λl v _ hl d hd=>?_) h);unfold dfE at hd;split at hd
   ·rcases Lk.1 hd with hd|hd
    ·exact hl d hd
    rw[Lc.1 hd];show vnx a o un x.1 v=vnx a o un x.2.1 v;rw[e]
   exact hl d hd
theorem QgD (ho:QL a)(I:∀v∈a.al,v∈o):obs a o un=none:=by
 unfold obs;split
 ·rfl
 rename_i h0;have O:0<a.st:=by have:=ho.st0;omega
 have key:∀(f i:Nat) (l:List jQ),(∀z∈l,(0<=z.1/\z.1<a.st)/\z.2.1=[z.1])->obL a o un f i l=none:=by
  intro f;induction f with
  | zero=>intro i l _;rfl
  | succ f ih =>
   intro i l h;cases hx:l[i]? with
   | none=>exact UN (MG.1 hx)
   | some x =>
    have J:=h x (Me hx);have Y:rft a o un x.2.1 x.1=none:=by
     unfold rft dff;refine QdQ (λE=>by unfold yv;cases mkd a E <;> rfl) _ _ _ λd hd=>?_
     rw[Lc.1 hd,J.2];exact(Uz ho I J.1 _).symm
    rw[Vn hx Y];refine ih (i+1) _ (XD (Inv:=λl:List jQ=>∀z∈l,(0<=z.1/\z.1<a.st)/\z.2.1=[z.1]) _ _ (λl e he hl z G=>?_) h);unfold obE at G;split at G
    ·exact hl z G
    rcases Lk.1 G with G|G
    ·exact hl z G
    obtain⟨U,ha⟩:=LB.1 he;have V:=ho.ed e U;rw[Lc.1 G];refine⟨V.2.2.2,?_⟩;show(if e.2.1∈o then vnx a o un x.2.1 e.2.1 else x.2.1)=[e.2.2]
    rw[OZ (I _ V.2.2.1),J.2];have e3:e.1=x.1:=O3 ha;exact Qf1 ho I (by rw[<-e3];exact U)
 refine key _ _ _ λz G=>?_;rw[Lc.1 G];exact⟨⟨Ms _,O⟩,Uz ho I ⟨Ms _,O⟩ _⟩
theorem Qhk (ho:QL a)(I:∀v∈a.al,v∈o):cns a o un=none:=by
 unfold cns;split
 ·rfl
 rename_i Y;have O:0<a.st:=by have:=ho.st0;omega
 have key:∀(f i:Nat) (l:List Cq),(∀z∈l,0<=z.1/\z.1<a.st)->csL a o un f i l=none:=by
  intro f;induction f with
  | zero=>intro i l _;rfl
  | succ f ih =>
   intro i l h;cases hx:l[i]? with
   | none=>exact QdU (MG.1 hx)
   | some x =>
    have J:=h x (Me hx);have U:a.al.find? (ctd a o un x.1)=none:=by
     rw[List.find?_eq_none];intro v hv;unfold ctd;rw[Uz ho I J,Uz ho I J];cases psb a v [x.1] <;> simp
    rw[jt hx U];refine ih (i+1) _ (XD (Inv:=λl:List Cq=>∀z∈l,0<=z.1/\z.1<a.st) _ _ (λl e V hl z G=>?_) h);unfold csE at G;split at G
    ·exact hl z G
    rcases Lk.1 G with G|G
    ·exact hl z G
    rw[Lc.1 G];exact(ho.ed e (LB.1 V).1).2.2.2
 refine key _ _ _ λz G=>?_;rw[Lc.1 G];exact⟨Ms _,O⟩
structure JV (c:ZO)(hi:LI):Prop where
 d:D25 c
 x:c.ex=[]
 k:c.cs=[]
 i:YD hi
 b:∀v∈hi,0<=v/\v<5
 r:∀x∈c.rq,∀e∈x.a.al,e∈hi
theorem D25.bare (h:D25 c):D25 ⟨c.ev,c.co,c.rq,[],[]⟩:=⟨h.ev,h.c0,h.c3,h.r2,h.co,h.rq,h.nd,Lp _,nofun,MB,Lp _,nofun⟩
section
variable (h:JV c hi)
include h
theorem JV.hck:hck c hi=0:=by
 have h1:Ki (c.ev.length:Int) none hi=0:=Qck (λv G=>by rw[h.d.ev.1];exact h.b v G) h.i;unfold Lg.hck;rw[OY (not_not_intro h.d.ck),h.x,h.k,OY oh,OY (not_not_intro h1),OZ];rw[Mo];intro x hx;refine O2 (Lu (QbM (h.d.rq x hx).2.1.ok.ali h.i (h.r x hx)))
theorem JV.pl0:plE c=0/\∃z,xw (xj c.co)=some z:=by
 have G:=jr h.d;have J:=h.d.c3;obtain⟨k1,z,e1⟩:=U1 (aa:=xj c.co) (λa I=>G a (LG _ I)) (by rw[YX];omega);refine⟨?_,z,e1⟩;unfold plE KP;rw[OY (not_not_intro h.d.ck),OY (not_not_intro k1),e1]
theorem JV.celB:Xt c:=by
 have G:=jr h.d;have O:=h.d.c3;have h2:=h.d.r2;obtain⟨_,z,e2⟩:=U1 (aa:=xj c.co++xj c.rq) G (by rw[Le,YX,YX];omega);refine⟨h.x,h.k,λa I=>⟨(G a I).ok,(G a I).p⟩,λx hx=>(h.d.rq x hx).2.2,λx hx e J=>?_,h.pl0.2,z,e2⟩;rw[h.d.ev.1];exact(h.d.co x hx).2.2 e J
theorem JV.su0:suE c=0:=by
 obtain⟨_,_,_,_,_,_,G⟩:=QoN h.d;exact G
omit h in
theorem QcT:∀(l:List Jz) (n:Int),(∀x∈l,0<x.a.st)->l.foldl (λn x=>n*max 1 x.a.st) n=n*(((xj l).map (·.st.toNat)).foldr (·*·) 1:Nat)
 | [],n,_=>by simp[xj]
 | x::l,n,hx=>by
  have I:=hx x Lj;rw[LP,QcT l _ λy G=>hx y (Lh _ G)];have e:max 1 x.a.st=(x.a.st.toNat:Int):=oa
  rw[e,Int.mul_assoc];show n*((x.a.st.toNat:Int)*(((xj l).map (·.st.toNat)).foldr (·*·) 1:Nat))=n*((x.a.st.toNat*((xj l).map (·.st.toNat)).foldr (·*·) 1:Nat):Int);rw[Int.natCast_mul]
theorem JV.pst:0<(Yv c).st/\(Yv c).st<=Vg c.co:=by
 have G:=h.celB.sy;refine⟨G.2.2.2.1,?_⟩;have h1:=Qbh G.2.1.nd G.2.1.v;have h2:=QcT c.co 1 λx hx=>(h.d.co x hx).2.1.p;rw[Int.one_mul]at h2;rw[G.2.1.st];unfold Vg;rw[h2]
 exact_mod_cast h1
omit h in
theorem Qlg {α β:Type}(f:α->Option β):∀l:List α,(l.filterMap f).length<=l.length
 | []=>Lr _
 | x::l=>by
  rw[Mz];have:=Qlg f l;cases f x with
  | none=>simp only[oS];omega
  | some y=>simp only[oS];omega
omit h in
theorem QgX (g:Nat->Int->Option Ed)(vs:LI):∀n,(grid g vs n).length<=n*vs.length
 | 0=>by simp[grid]
 | n+1=>by
  rw[KB,Le,OU];have:=QgX g vs n;have:=Qlg (g n) vs;omega
theorem JV.evs5:∀v∈evs (xj c.co),0<=v/\v<5:=λv G=>by
 have:=h.celB.evb G;rw[h.d.ev.1]at this;exact this
theorem JV.al:(Yv c).al=evs (xj c.co):=h.celB.sy.2.1.al
theorem JV.pl9 (U:Vg c.co<=9):Pl9 (Yv c):=by
 have G:=h.celB.sy;have h1:=h.pst;refine⟨h.celB.pok,oa,?_⟩;rw[G.2.1.ed];have h2:=QgX (syF (xj c.co) (XK c)) (evs (xj c.co)) (XK c).length;have I:(XK c).length<=9:=by have:=G.2.1.st;omega
 have J:(evs (xj c.co)).length<=5:=xM 5 _ (Qfh (Qca λa O=>(h.celB.ok a (LG _ O)).1)) h.evs5;have V:(XK c).length*(evs (xj c.co)).length<=9*5:=Nj I J;omega
theorem JV.hok (G:Vg c.co<=9):HOk c hi:=⟨h.pl0.1,h.pl9 G⟩
theorem JV.prj (G:Vg c.co<=9):KA (ZI (Yp c) hi)=true/\QL (ZI (Yp c) hi)/\0<(ZI (Yp c) hi).st/\(ZI (Yp c) hi).st<=2 ^ (Yp c).st.toNat:=by
 have h1:=h.pst;exact Qnt h.celB.pok (o:=hi) (show(Yv c).st≠0 by omega) (show(Yv c).st<=12 by omega)
theorem JV.rkp:∀x∈c.rq,∀e∈x.a.al,e∈kpt (Yp c) hi:=λx hx e G=>by
 refine LB.2 ⟨?_,O2 (h.r x hx e G)⟩;show e∈(Yv c).al;rw[h.al];obtain⟨y,I,J⟩:=h.celB.eco x hx e G;exact(Xo (λa O=>(h.celB.ok a (LG _ O)).1) e).2 ⟨y.a,Lt.2 ⟨y,I,Z⟩,J⟩
theorem JV.kp5:∀e∈kpt (Yp c) hi,0<=e/\e<5:=λe G=>h.b e (O3 (LB.1 G).2)
theorem JV.top (U:Vg c.co<=9):Z2 (Zr c hi)=0:=by
 obtain⟨p1,p2,p3,p4⟩:=h.prj U;have ha:c.ev.length=5:=h.d.ev.1;have hr:=h.d.r2;have hf:(ZI (Yp c) hi).st<=4096:=p2.st1;generalize ZI (Yp c) hi=A at p1 p2 p3 hf;obtain⟨x0,l0,I⟩:∃x l,c.co=x::l:=by
  cases e:c.co with
  | nil=>exact O1 (by rw[e];rfl) h.d.c0
  | cons x l=>exact⟨x,l,Z⟩
 have hT:Zr c hi=⟨c.ev,[⟨x0.nm,ZI (Yp c) hi⟩],c.rq,[],[]⟩:=by rw[Qou,I];rfl
 have hg:=h.d.co x0 (by rw[I];exact Lj);have V:=h.d.nd;rw[I,L2,Mq]at V;obtain⟨n1,n2⟩:=List.nodup_cons.1 V;have n3:(x0.nm::c.rq.map (·.nm)).Nodup:=List.nodup_cons.2 ⟨λhm=>n1 (Mv _ hm),(Ml.1 n2).2.1⟩;obtain⟨q1,q2,q3,q4⟩:=h.prj U;have G:∀e∈(ZI (Yp c) hi).al,0<=e/\e<5:=h.kp5;have Y:∀x∈c.rq,∀e∈x.a.al,e∈(ZI (Yp c) hi).al:=h.rkp;rw[hT];generalize ZI (Yp c) hi=B at q1 q2 q3 G Y;have hs:B.st<=4096:=q2.st1;have hh:∀e∈B.al,e∈V3 c.ev.length:=λe J=>by
  have:=G e J;rw[ha,Qf2];exact⟨this.1,this.2⟩
 have hj:YA c.ev.length (V3 c.ev.length) [] ⟨x0.nm,B⟩=0:=by
  unfold YA;rw[OY (by rw[hg.1];decide),OY oe,OY (not_not_intro ((ZA B).2 q2)),OY (by rw[q1];decide),OY (by show ¬B.st=0;omega),OY,OY (not_not_intro (QbM q2.ali (Qf3 _) hh))];intro hn;obtain⟨e,h1,h2⟩:=MH.1 hn;have O:=G e h1;have:=O3 h2;omega
 have hk:YC c.ev.length (V3 c.ev.length) [] [] [⟨x0.nm,B⟩]=(0,[x0.nm],mrg (· || ·) [] B.al):=by
  rw[YC,OY (not_not_intro hj)];rfl
 have hu:∀e,e∈mrg (· || ·) [] B.al↔e∈B.al:=λe=>by
  rw[UU List.Pairwise.nil q2.ali];constructor
  ·rintro⟨h1|h1,_⟩
   ·cases h1
   exact h1
  intro h1;exact⟨.inr h1,by simp[h1]⟩
 have ho:=Qcl (nev:=c.ev.length) (u:=mrg (· || ·) [] B.al) (QbL _ _ _ _ (Lr _) List.Pairwise.nil q2.ali) c.rq [x0.nm] (λx hx=>by
  obtain⟨h1,h2,_⟩:=h.d.rq x hx;refine⟨h1,h2,λe J=>?_⟩;have O:=Y x hx e J;have h4:=G e O;exact⟨oa,(hu e).2 O⟩) n3
 unfold Z2;rw[OY (not_not_intro h.d.ev.2),OY oe,OY (by simp only[oL];omega),hk];simp only[];rw[OY (not_not_intro rfl),OY (not_not_intro ho)];have hp:Jn B.st=false:=by unfold Jn;rw[O4 oa,O4 oa];rfl
 have hq:¬(szs [⟨x0.nm,B⟩]).any Jn=true:=by
  show ¬(Jn B.st || false)=true;rw[hp];decide
 unfold Xa;rw[OY (show ¬8<(szs [⟨x0.nm,B⟩]).length by simp[szs]),OY hq,OY oe];rfl
omit h in
theorem QcI (G:QL a):∃z,xw [a]=some z:=by
 obtain⟨Q,I,_⟩:=yE G;exact⟨_,I⟩
omit h in
theorem Ql4 {l:List Qz}(G:∀a∈l,QL a)(hl:l.length<=12):K9 l=0:=by
 unfold K9;rw[OY oa];exact(qc _).2 G
theorem JV.okT (I:Vg c.co<=9):∀a∈xj (Zr c hi).co++xj (Zr c hi).rq,QL a/\0<a.st:=λa G=>by
 obtain⟨_,p2,p3,_⟩:=h.prj I;rcases Lk.1 G with G|G
 ·rw[Lc.1 (show a∈[ZI (Yp c) hi] from G)];exact⟨p2,p3⟩
 exact h.celB.ok a (Mv _ G)
theorem JV.suT (G:Vg c.co<=9):suE (Zr c hi)=match xw (xj (Zr c hi).co++xj (Zr c hi).rq) with|none=>3|some _=>0:=by
 have J:=h.okT G;have V:=h.d.r2;obtain⟨z,O⟩:=QcI (h.prj G).2.1;have U:xw (xj (Zr c hi).co)=some z:=O;show YY (Zr c hi)=_;unfold YY;have k1:=Ql4 (l:=xj (Zr c hi).co) (λa I=>(J a (LG _ I)).1) (show 1<=12 by decide);have k2:=Ql4 (l:=xj (Zr c hi).co++xj (Zr c hi).rq) (λa I=>(J a I).1) (by rw[Le,YX,YX];show 1+c.rq.length<=12;omega);rw[OY (not_not_intro (h.top G)),OY (not_not_intro k1),U];simp only[];rw[OY (not_not_intro k2)];cases xw (xj (Zr c hi).co++xj (Zr c hi).rq) <;> rfl
theorem JV.celT (I:Vg c.co<=9)(J:suE (Zr c hi)=0):Xt (Zr c hi):=by
 refine⟨Z,Z,h.okT I,λx hx e G=>⟨_,Lc.2 Z,h.rkp x hx e G⟩,λx hx e G=>?_,QcI (h.prj I).2.1,?_⟩
 ·rw[Lc.1 hx]at G;have:=h.kp5 e G;show e<(c.ev.length:Int);rw[h.d.ev.1];exact this.2
 rw[h.suT I]at J;cases e:xw (xj (Zr c hi).co++xj (Zr c hi).rq) with
 | none=>rw[e]at J;cases J
 | some z=>exact⟨z,Z⟩
omit h in
theorem Qak (G:∀a∈aa,QL a)(J:(aa.map (·.st.toNat)).foldr (·*·) 1<=4096):∃z,xw aa=some z :=
 Qf5 (P:=Vt aa) J (λl O U=>Qbh O U) (λV=>⟨oe,λi hi I=>by
  have h1:=V _ (Lm I);have h2:=(G _ (Lm I)).st0;simp only[Oy];omega⟩) λt ht v _ u Y=>Xw G ht Y
omit h in
theorem Qns (l:List Jz)(G:∀x∈l,x.a.st<=3):((xj l).map (·.st.toNat)).foldr (·*·) 1<=3 ^ l.length:=by
 induction l with
 | nil=>exact Lr _
 | cons x l ih =>
  have h1:=G x Lj;show x.a.st.toNat*_<=_;rw[LS,OM,Nat.mul_comm];exact Nj (ih λy I=>G y (Lh _ I)) oa
theorem JV.spT (O:Vg c.co<=6):((xj (Zr c hi).co++xj (Zr c hi).rq).map (·.st.toNat)).foldr (·*·) 1<=576:=by
 have h1:=h.pst;have U:=(h.prj oa).2.2.2;have V:(2:Int) ^ (Yp c).st.toNat<=2 ^ 6:=by
  have:2 ^ (Yp c).st.toNat<=2 ^ 6:=Nt oh (by show(Yv c).st.toNat<=6;omega)
  exact_mod_cast this
 have G:(ZI (Yp c) hi).st.toNat<=64:=oa
 have I:=Qns c.rq λx hx=>(h.d.rq x hx).2.1.s;have J:3 ^ c.rq.length<=3 ^ 2:=Nt oh h.d.r2;show(ZI (Yp c) hi).st.toNat*((xj c.rq).map (·.st.toNat)).foldr (·*·) 1<=576;exact LA (Nj G (LA I J)) oh
theorem JV.suX (G:Vg c.co<=9):suE (Zr c hi)=0\/suE (Zr c hi)=3/\6<Vg c.co:=by
 rw[h.suT G];cases e:xw (xj (Zr c hi).co++xj (Zr c hi).rq) with
 | some z=>exact .inl Z
 | none =>
  refine .inr ⟨Z,oW λO=>?_⟩;obtain⟨z,I⟩:=Qak (aa:=xj (Zr c hi).co++xj (Zr c hi).rq) (λa J=>(h.okT G a J).1) (LA (h.spT oa) oh);rw[I]at e;cases e
omit h in
theorem Qm7 {B:Qz}(G:QL B)(fb ul:LI):(Ud B fb ul).st<=B.st:=by
 have J:=G.st0;unfold Ud jZ;split
 ·exact J
 rename_i hc;have O:0<B.st:=by
  have:B.st≠0:=λe=>hc (.inl e);omega
 have I:=QlX (Kp G (Xk B fb ul)) O;rw[I.2.1];show((Qfu (rstr B (Xk B fb ul))).ord.length:Int)<=B.st;have:=I.2.2;have e:(rstr B (Xk B fb ul)).st=B.st:=rfl;omega
theorem JV.htX (I:Vg c.co<=9):Uk c hi=0\/Uk c hi=3/\6<Vg c.co:=by
 unfold Uk;rcases h.suX I with e|⟨e,e2⟩
 ·rw[OY (not_not_intro e)];have hT:=h.celT I e;have O:=Km e;have J:∀a∈[Yp c,Xv (Zr c hi)],QL a:=λa G=>by
   rcases Ll.1 G with rfl|G
   ·exact h.celB.pok
   rw[Lc.1 G];exact O
  unfold KP;rw[OY (not_not_intro (Ql4 J (by show 2<=12;decide)))];cases e3:xw [Yp c,Xv (Zr c hi)]with
  | some z=>exact .inl Z
  | none =>
   refine .inr ⟨Z,oW λV=>?_⟩;have h1:=h.pst;have h2:(Xv (Zr c hi)).st<=(spc (Zr c hi)).a.st:=Qm7 hT.sok _ _;have Y:((Xx (Zr c hi)).length:Nat)<=576:=LA (Qbh hT.sy.1.nd hT.sy.1.v) (h.spT oa);have h4:=hT.sy.1.st;obtain⟨z,U⟩:=Qak (aa:=[Yp c,Xv (Zr c hi)]) J (by
    show(Yv c).st.toNat*((Xv (Zr c hi)).st.toNat*1)<=4096;exact LA (Nj (show(Yv c).st.toNat<=6 by omega) (show(Xv (Zr c hi)).st.toNat*1<=576 by omega)) oh)
   rw[U]at e3;cases e3
 rw[OZ oa];exact .inr ⟨e,e2⟩
theorem JV.hcX (_h9:Vg c.co<=9):hcX c hi=Uk c hi:=by
 unfold Lg.hcX hcE;rw[OY (not_not_intro h.hck),h.su0];by_cases e:Uk c hi=0
 ·rw[OY (not_not_intro e),e]
 rw[OZ e]
end
theorem Z9.bare {H:xG}{c:CL}(h:Z9 L H c):Z9 L H { c with vx:=ZY,vk:=ZY,ex:=[],cs:=[] }:=
 ⟨h.ev,h.co,h.rq,⟨⟨Z,Lp _,.inl ⟨Z,Z⟩⟩,(λq G=>by cases G),λq G=>by cases G⟩,⟨⟨rfl,Lp _,.inl ⟨rfl,rfl⟩⟩,(λq G=>by cases G),λq G=>by cases G⟩⟩
theorem qi {c:CL}{v:O7}{es:LI}(h:Z9 [] ↑w c)(hE:Qu [] ↑w v es)(hl:c.co.length<=3)(Y:∀x∈c.V.co,x.a.st<=3):
  QT sV 20 [c.val,v] w λr w'=>r=.bool (decide (3∈es) && decide (6<Vg c.V.co))/\sW w w':=by
 have hg:=hE.le;refine Zn func20 ?_;refine Qc<|Zd c.cells λb2 w1 I hh ha=>Qb ?_
 replace hE:=hE.I I;refine Qd<|Qc<|Qb<|QY (α:=Nat) [(4,19)] (λz=>[(5,sS z)]) (λz w'=>w'=w1/\z<=es.length/\(3∈es↔3∈es.drop z)) (λz=>es.length - z) 0 Lb ⟨Z,Lp _,oe⟩ ?_;rintro k g w2 ⟨rfl,hk,J⟩;refine Qd<|Ql<|Qa<|QG hE Z<|ZT Z Z<|xe<|Zp rfl (λh9=>?_) (λh9=>?_)
 ·refine Qt ?_;rw[Lx oa]at J;refine Qc<|Qb<|Qk ⟨[.bool false],Lb,?_,I⟩;have O:¬(3:Int)∈es:=λh=>by have:=J.1 h;cases this
  rw[O4 O];rfl
 have G:k<es.length:=oa
 have hd:=QZ G;refine Qf<|Qd<|Qn<|Ql<|Qa<|xii (i:=k) hE Z Z G λhj he=>x (Qq he Z)<|x (Zc Z Z)<|xe<|Zh rfl (λU=>?_) (λU=>?_)
 ·have V:es[k]'G=3:=U;refine Qc<|Q7 ha Z Z<|Qw<|(ze (h.I I) hl Y).S ?_;rintro r3 w3 ⟨rfl,hf⟩;refine x (Ya Z Z)<|Qb<|Qk ⟨[_],Lb,?_,I.D hf⟩;have O:(3:Int)∈es:=by rw[<-V];exact Lm G
  rw[O2 O];rfl
 have V:¬es[k]'G=3:=U;refine Qf<|Qr<|Qa<|QC Z Z<|Qb<|⟨k+1,oa,Lb,Z,oa,?_⟩;rw[J,hd,Ll];exact⟨λh=>h.resolve_left λe=>V e.symm,.inr⟩
theorem PlA.I {L:LN}{w w':O6}{l:PlV}(h:PlA L ↑w l)(G:sW w w'):PlA L ↑w' l:=⟨h.n,h.b,h.x.I G,h.f0,h.f1,h.f2,h.bd⟩
theorem Qic {l:PwV}{rs:List X4V}{hb:Nat}(hE:PlA [] ↑w (l.pl rs))(hX:hb<256):
  QT sV 12 [.agg (Z6 l++[Value.int .u8 (hb:Int)]).toArray] w λr w'=>sW w w'/\∃(c:CL) (vh:O7) (hi:LI),r=.tuple #[c.val,vh]/\(∀L:LN,(∀b∈L,b<↑w)->Z9 L ↑w' c)/\Qh 3 ↑w w' vh hi/\JV c.V hi:=by
 have hw:(Z6 l).length=152:=Qbz (l:=l.pl rs) hE.n;have hY:(Z6 l++[Value.int .u8 (hb:Int)])[152]?=some (.int .u8 (hb:Int)):=by rw[MA oa,hw];rfl
 refine Zn func12 ?_;refine Qc<|Zd (Z6 l++[Value.int .u8 (hb:Int)]) λb1 w1 hF g9 hZ=>QV Vo λb2 w2 hG ka hH=>Qb ?_;have hz:=hF.D hG;have kb:=hF.size;have ga:=hz.size;have hI:=hZ.I hG;refine Qc<|Q9 Z<|x (ZW (us:=Z6 l) hI Z hw (by rw[NQ,<-hw];exact List.take_left))<|Qw<|(Qid (l:=l.pl rs) (hE.I hz)).S ?_;rintro r3 w3 ⟨ho,_,⟨c0,rfl,rfl,hJ⟩,gb⟩;have gc:=hJ [] oe;refine QV Vo λb4 w4 ge h6 gg=>Q6 c0.cells gg gc.ones λw5 gh gi=>xe ?_;refine Qc<|Q9 Z<|Qo<|Qv (j:=3) (u:=ZY) gi Z Z oe rfl λw6 gj gk=>Q9 rfl<|Qo<|Qv (j:=4) (u:=ZY) gk rfl rfl oe rfl λV gl gm=>xe ?_;obtain⟨c,hc⟩:∃c:CL,c={ c0 with vx:=ZY,vk:=ZY,ex:=[],cs:=[] }:=⟨_,Z⟩
 have hf:sW w3 V:=((ge.O gh h6).O gj h6).O gl h6;have hK:=(hz.D ho).D hf;have kc:=ho.size;have ke:=hf.size;have gn:=(hH.I ho).I hf;have gq:=(hI.I ho).I hf;have gr:=hH.lt;have hM:∀L:LN,(∀b∈L,b<↑w2)->Z9 L ↑V c:=λL hL=>by rw[hc];exact((hJ L hL).I hf).bare
 have hN:c.cells=[c0.ve,c0.vc,c0.vr,ZY,ZY]:=by rw[hc]
 have gs:QN ↑V b4 46 c.cells:=by rw[hN];exact gm
 have h7:c.V=⟨c0.V.ev,c0.V.co,c0.V.rq,[],[]⟩:=by rw[hc];rfl
 have hD:D25 c.V:=by rw[h7];exact gb.bare
 have hO:c.V.ex=[]/\c.V.cs=[]:=by rw[h7];exact⟨Z,Z⟩
 clear h7 hN hc;have kf:c.ev.length=5:=hD.ev.1;have hp:=hM [] oe;have kg:c.rq.length<=2:=by have h1:=hD.r2;rw[show c.V.rq.length=c.rq.length from Lo ..]at h1;exact h1
 refine Qc<|Qb<|Qd<|Qc<|Qb<|QY (α:=Nat×O7×LI) [(5,8),(14,54)] (λz=>[(5,z.2.1),(6,sS z.1)]) (λz w'=>z.1<=5/\sW V w'/\Qh 3 ↑V w' z.2.1 z.2.2/\YD z.2.2/\(∀v∈z.2.2,0<=v/\v<(z.1:Int))/\∀q∈c.rq,∀e∈q.p.a.al,e<(z.1:Int)->e∈z.2.2) (λz=>5 - z.1) (0,ZY,[]) oy
  ⟨Lp _,xd.C _ _,QM _ _ _ _,List.Pairwise.nil,nofun,λq O e J hr=>by
   have:=((hD.rq q.it (LL O)).2.1.ok.al e J).1;have h2:e<0:=hr;omega⟩ ?_
 rintro⟨k,vo,m⟩ g w8 ⟨hk,I,gt,hs,hg,h8⟩;have hh:Qh 3 ↑V w8 vo m:=gt;have gu:k<=5:=hk;have kh:=I.size;have ki:m.length<=5:=LA (xM k m (Qfh hs) hg) gu;have hu:=gs.I I;refine Qd<|Ql<|Qs Z hu Z Z<|QG (hp.ev.arr.I I) Z<|ZT Z Z<|xe<|Zp rfl (λh9=>?_) (λh9=>?_)
 ·refine Qt ?_;have gv:k=5:=by have gx:¬(k:Int)<(c.ev.length:Int):=h9;omega
  subst gv;refine Qc<|Q7 hu Z Z<|Qa<|Q6 c.cells (gn.I I) hp.ones λw9 hA gy=>Qb ?_;have gz:sW w w9:=(hK.D I).O hA oa;refine Qk ⟨[sT c.cells,vo],⟨Kh gy,Z,La⟩,gz,c,vo,m,Z,λL hL=>?_,?_,hD,hO.1,hO.2,hs,hg,λx hx e J=>?_⟩
  ·have h1:=(hM (b2::L) λb hb=>by
    rcases Ll.1 hb with rfl|hb
    ·exact gr
    exact LX (hL b hb) ga).I I
   exact(h1.st (hA.S λb hb=>by rw[Lc.1 hb];exact Lj)).up λb hb=>.inl (Lh _ hb)
  ·have hP:=Qg hh hA (λb hb hm=>by have:=(Qi hh b hb).1;rw[Lc.1 hm]at this;omega);exact⟨hP.1,hP.2.imp id λ⟨g,cap,cur,e1,e2,r⟩=>⟨g,cap,cur,e1,LA hK.size e2,r⟩⟩
  obtain⟨q,O,rfl⟩:=Lt.1 hx;obtain⟨y,hy,h4⟩:=(hD.rq q.it hx).2.2 e J;exact h8 q O e J ((hD.co y hy).2.2 e h4)
 have hr:k<5:=by have gx:(k:Int)<(c.ev.length:Int):=h9;omega
 have g0:hb / 2 ^ k<256:=Nat.lt_of_le_of_lt (Nat.div_le_self _ _) hX;refine Qf<|Qd<|Qn<|QX (α:=Bool) [(7,7),(21,30)] (λz=>[(7,.bool z)]) (λz w'=>w'=w8) ol ?_ ?_
 ·refine Qr<|Qa<|xb (YF Z Z) (λhQ=>?_) (λhQ=>O1 (show(k:Int)<8 by omega) hQ);refine Qa<|Qs Z (gq.I I) Z hY<|Qa<|x (Qax (n:=k) Z Z (by show k<=8;omega))<|x (Uh (a:=hb / 2 ^ k) (b:=1) (O0 (Value.int .u8) (zO hb k)) Z g0 oh)<|x (Zc Z Z)<|x (Uf Z) <|
   Qb<|⟨_,⟨rfl,La⟩,Z⟩
 rintro z0 g g2 rfl;refine Qd<|Qc<|Qb ?_;have hR:=hp.rq.arr.I I;refine QY (α:=Bool×Nat) [(7,8),(31,49)] (λz=>[(7,.bool z.1),(8,sS z.2)]) (λz w'=>sW g2 w'/\z.2<=c.rq.length/\∀j (hj:j<c.rq.length),j<z.2->(k:Int)∈(c.rq[j]'hj).p.a.al->z.1=true) (λz=>c.rq.length - z.2) (z0,0) oy ⟨xd.C _ _,Lp _,λj hj h0=>O1 h0 (NF j)⟩ ?_;rintro⟨q0,j⟩ g kj ⟨G,hj,hS⟩;have hT:=I.D G;refine Qd<|Ql<|Qs Z (hu.I G) Z Z<|QG (hR.I G) Z<|ZT Z Z<|xe<|Zp rfl (λhU=>?_) (λhU=>?_)
 ·refine Qt<|Ql<|xe<|Q5 Z (λhV=>?_) (λhV=>?_)
  rotate_left
  ·refine Qf<|Qr<|Qa<|QC Z Z<|Qb<|⟨(k+1,vo,m),by show 5 - (k+1)<5 - k;omega,oy,hr,hT,Qm hh G,hs,λv U=>?_,λq O e J hB=>?_⟩
   ·have h1:=hg v U;have h2:v<(k:Int):=h1.2;exact⟨h1.1,by show v<((k+1:Nat):Int);omega⟩
   have h2:e<((k+1:Nat):Int):=hB;by_cases e1:e=(k:Int)
   ·obtain⟨i,hi,e2⟩:=LQ O;have h3:=hS i hi (by show i<j;omega) (by rw[e2,<-e1];exact J);have h4:q0=true:=h3;have h5:q0=false:=hV;rw[h4]at h5;cases h5
   exact h8 q O e J (by show e<(k:Int);omega)
  refine Qr<|Qa<|Qa<|Qo<|Q3 [[sS k]] λkk kn hC ko g3=>Qo<|Q0 (news:=[sS k]) (L:=[]) (Qm (Qm hh G) hC) Z Z Z (g3.at oe) oo oa (ou G.size hC.size) λg4 kq g5 g6 kr =>
   Qb<|Qr<|Qa<|QC Z Z<|Qb<|⟨(k+1,g4,m++[(k:Int)]),by show 5 - (k+1)<5 - k;omega,oy,hr,(hT.D hC).Z g6 λb hb=>.inr (Qi hh b hb).1,Qh.snoc g5,?_,λv U=>?_,λq O e J hB=>?_⟩
  ·refine Mu.2 ⟨hs,MN _ _,λa ha b hb=>?_⟩;rw[Lc.1 hb];exact(hg a ha).2
  ·show 0<=v/\v<((k+1:Nat):Int);rcases Lk.1 U with U|U
   ·have h1:=hg v U;have h2:v<(k:Int):=h1.2;exact⟨h1.1,oa⟩
   rw[Lc.1 U];omega
  have h2:e<((k+1:Nat):Int):=hB;by_cases e1:e=(k:Int)
  ·rw[e1];exact Mv _ (Lc.2 Z)
  exact LG _ (h8 q O e J (by show e<(k:Int);omega))
 have Y:j<c.rq.length:=by have kt:(j:Int)<(c.rq.length:Int):=hU;omega
 have g7:=Lm Y;refine Qf<|Qd<|Qn<|Qr<|xB Vk (λhn=>?_) (λhn=>?_)
 ·refine Qa<|Zs<|Zs<|Zs<|QB Z<|Qb<|Qr<|Qa<|QC Z Z<|Qb<|⟨(q0,j+1),by show c.rq.length - (j+1)<c.rq.length - j;omega,⟨O0 Value.bool hn.symm,Z,La⟩,G,Y,λi hi hW hm=>hn⟩
 refine Qa<|Qs Z (hu.I G) Z Z<|Qa<|xo (g:=Zm) (i:=j) (λ_=>Z) (hR.I G) Z Z Y λku g8=>x (ZB Z)<|x (ZB Z) <|
  x (Qq (g8.fld 1 _ Z) Z)<|Qa<|Qw<|(y8 (((hp.rq.each (c.rq[j]'Y) g7).al.I I).I G) (k:Int)).S ?_
 rintro kv kw ⟨rfl,rfl⟩;refine QB rfl<|Qb<|Qr<|Qa<|QC Z Z<|Qb<|⟨(decide ((k:Int)∈(c.rq[j]'Y).p.a.al),j+1),by show c.rq.length - (j+1)<c.rq.length - j;omega,oy,G,Y,λi hi hW hm=>?_⟩;have kx:i<j+1:=hW;by_cases e:i=j
 ·subst e;exact O2 hm
 have h4:q0=true:=hS i hi (by show i<j;omega) hm;rw[h4]at hn;cases hn
theorem Qqb {l:PwV}{hb:Int}(h:l.ns.length=147):(Z6 l++[Value.int .u8 hb]).length=153:=by rw[Le,show(Z6 l).length=152 from Qbz (l:=l.pl []) h];rfl
theorem Qnz {l:PwV}{hb:Int}(h:l.ns.length=147):((Z6 l++[Value.int .u8 hb]).drop 0).take 152=Z6 l:=by rw[NQ,<-show(Z6 l).length=152 from Qbz (l:=l.pl []) h];exact List.take_left
theorem PwA.I {w w':O6}{l:PwV}(h:PwA w l)(G:sW w w'):PwA w' l:=⟨h.n,h.b,h.f0,h.f1,h.f2,h.bd,λI=>let⟨rs,h1,h2⟩:=h.r I;⟨rs,h1,h2.I G⟩⟩
theorem CL.co3 {c:CL}(h:JV c.V hi):c.co.length<=3/\(∀x∈c.V.co,x.a.st<=3)/\c.ev.length=5:=by
 have h1:=h.d.c3;rw[show c.V.co.length=c.co.length from Lo ..]at h1;exact⟨h1,λx hx=>(h.d.co x hx).2.1.s,h.d.ev.1⟩
theorem JV.hl (h:JV c hi):hi.length<=5:=xM 5 hi (Qfh h.i) h.b
theorem QrX {E n:Int}(h:E=0\/E=3/\6<n){l:LI}(h1:E∈l)(h2:(decide (3∈l) && decide (6<n))=false):E=0:=by
 rcases h with h|⟨h,G⟩
 ·exact h
 rw[h]at h1;rw[O2 h1,O2 G]at h2;cases h2
section
variable (k:α->Int)
end
abbrev Ky:=Int×ByteArray
structure xP where
 ky:Ky
 vr:Int
 sp:Qz
 kp:LI
 ds:LI
 rm:List Q4
 c:ZO
def hU (F:Int)(S:Qz):Qz:=if F=0 then S else⟨[],0,[],[]⟩
theorem Qaj {c:CL}(hC:JV c.V hi)(O:Vg c.V.co<=9)(h:Z9 [] ↑w c)(hH:Qu [] ↑w vh hi)(U:Kb w 4096):
  QT sV 15 [c.val,vh] w λr w'=>sW w w'/\∃vs vw vo vp,r=.tuple #[.agg (Zt ⟨(nbl (Yp c.V)).2,vs,(obs (Yp c.V) hi []).isNone,vw,vo,(cns (Yp c.V) hi (unc c.V.ev)).isNone,vp,(cns (Yp c.V) hi (unc c.V.ev)).elim (-1) (·.2)⟩).toArray,sS 0] /\
   ZN [vs,vw,vo,vp]/\Qu [] ↑w' vs (nbl (Yp c.V)).1/\Qu [] ↑w' vw ((obs (Yp c.V) hi []).elim [] (·.1))/\Qu [] ↑w' vo ((obs (Yp c.V) hi []).elim [] (·.2))/\Qu [] ↑w' vp ((cns (Yp c.V) hi (unc c.V.ev)).elim [] (·.1)):=by
 refine(Qcq h hH U λ_=>hC.hok O).S ?_;rintro r w' ⟨Y,R,rfl,ho,_,hV⟩;obtain⟨V,hK,hP⟩:=hV hC.hck;obtain⟨⟨e1,G⟩,⟨e2,i2,I⟩,e3,e4,J⟩:=QjH hK Z hP;refine⟨Y,R.vs,R.vw,R.vo,R.vp,?_,⟨G.one,i2.one,I.one,J.one,La⟩,G,i2,I,J⟩;rw[hC.hck,<-e1,<-e2,<-e3,<-e4]
theorem Qdt {b:Qz}{R:Int->Int->Prop}(J:R (fst a) (fst b))(O:∀x y v,R x y->(nxt a.ed x v=-1/\nxt b.ed y v=-1)\/R (nxt a.ed x v) (nxt b.ed y v))(U:∀x y,R x y->UV a kd x=UV b kd y):lgq a b kd=none:=by
 have hA:∀(al:LI) (i:Nat) (p:Vs) (V:List Vs),R p.x p.y->(∀q∈V,R q.x q.y)->∀q∈al.foldl (lgA a b i p) V,R q.x q.y:=by
  intro al;induction al with
  | nil=>intro i p V _ h;exact h
  | cons v al ih =>
   intro i p V I h;refine ih i p _ I λq G=>?_;unfold lgA at G;split at G
   ·rename_i hc;rcases Lk.1 G with G|G
    ·exact h q G
    rw[Lc.1 G];rcases O p.x p.y v I with h1|h1
    ·exact O1 (show(jX a b i p v).ky=(-1,-1) by unfold jX Vs.ky;rw[h1.1,h1.2]) hc.1
    exact h1
   exact h q G
 have Y:∀(al:LI) (f i:Nat) (V:List Vs),(∀q∈V,R q.x q.y)->lgL a b kd al f i V=none:=by
  intro al f;induction f with
  | zero=>intro i V _;rfl
  | succ f ih =>
   intro i V h;rw[lgL];split
   ·rename_i hi;have hg:gV V i∈V:=by
     unfold gV;rw[Qpw hi];exact Lm hi
    have hR:=h _ hg;rw[OY (by unfold lgC;rw[U _ _ hR];simp)];exact ih _ _ (hA al i _ V hR h)
   rfl
 exact Y _ _ _ _ λq G=>by rw[Lc.1 G];exact J
theorem Qn4 {b:Qz}{R:Int->Int->Prop}(I:a.st≠0)(hb:b.st≠0)(J:R 0 0)(O:∀x y,R x y->0<=x/\0<=y)(U:∀x y v u,R x y->xu a.ed x v=some u->∃G,xu b.ed y v=some G/\R u G)(V:∀x y v G,R x y->xu b.ed y v=some G->∃u,xu a.ed x v=some u/\R u G)
  (Y:∀x y,R x y->(x∈a.mr↔y∈b.mr)):lgq a b kd=none:=by
 refine Qdt (R:=R) ?_ (λx y v h=>?_) λx y h=>?_
 ·unfold fst;rw[OY I,OY hb];exact J
 ·rw[Ku,Ku];cases e:xu a.ed x v with
  | some u =>
   obtain⟨G,e',hR⟩:=U x y v u h e;rw[e'];exact .inr hR
  | none =>
   cases e':xu b.ed y v with
   | none=>exact .inl ⟨Z,Z⟩
   | some G =>
    obtain⟨u,e2,_⟩:=V x y v G h e';rw[e]at e2;cases e2
 have h1:=O x y h;have h2:=Y x y h;unfold UV;rw[O2 h1.1,O2 h1.2];congr 2;exact decide_eq_decide.2 h2
theorem Qn3 {b:Qz}(G:QL a)(I:QL b)(J:a.st=0)(hb:b.st=0):lgq a b kd=none:=by
 refine Qdt (R:=λx y=>x=-1/\y=-1) ?_ (λx y v h=>?_) λx y h=>?_
 ·unfold fst;rw[OZ J,OZ hb];exact⟨Z,Z⟩
 ·rw[h.1,h.2,QgG G,QgG I];exact .inl ⟨Z,Z⟩
 rw[h.1,h.2];rfl
structure HC (c:ZO)(hi:LI):Prop where
 b:Xt c
 t:Xt (Zr c hi)
 r:∀x∈c.rq,∀e∈x.a.al,e∈hi
structure Std (c:ZO)(hi:LI)(s:LI)(i:Nat)(est:LI):Prop where
 m:s∈XK c
 p:Pr (Yv c) hi (unc c.ev) ((XK c).idxOf s:Int) est
 lt:i<(VV (Yv c) hi).length
 e:(VV (Yv c) hi).getD i []=est
section
variable (h:HC c hi)
include h
theorem HC.pj:PjP (Yv c) hi (VV (Yv c) hi):=yA (oq h.b.sy.2.2.2.1)
theorem HC.evT {v:Int}:v∈evs (xj (Zr c hi).co)↔v∈kpt (Yv c) hi:=by
 rw[Xo (λa I=>(h.t.ok a (LG _ I)).1)];constructor
 ·rintro⟨a,I,G⟩;rw[Lc.1 (show a∈[ZI (Yp c) hi] from I)]at G;exact G
 intro G;exact⟨ZI (Yp c) hi,Lc.2 Z,G⟩
theorem HC.evk {v:Int}:v∈kpt (Yv c) hi↔v∈evs (xj c.co)/\v∈hi:=by
 unfold kpt;rw[LB,decide_eq_true_iff,show(Yv c).al=evs (xj c.co) from h.b.sy.2.1.al]
theorem HC.rql {v:Int}(G:v∉hi)(I:r.length=(xj c.rq).length):QU v (xj c.rq) r=some r:=yj I λa J O=>by
 obtain⟨x,hx,rfl⟩:=Lt.1 J;exact G (h.r x hx v O)
theorem HC.sl {s:LI}(G:s∈XK c):s.length=(xj c.co).length:=(h.b.sy.2.1.v s G).1
theorem HC.plTo {s G:LI}{v:Int}(O:s∈XK c)(I:v∈evs (xj c.co))(J:QU v (xj c.co) s=some G):G∈XK c/\(((XK c).idxOf s:Int),v,((XK c).idxOf G:Int))∈(Yv c).ed:=by
 have hi:=KR O;have hc:=h.b.sy.2.1.cl _ hi.1 v I G (by rw[hi.2];exact J);have h1:=h.b.sy.2.1.J hi.1 v;rw[OZ I,hi.2,J]at h1;exact⟨hc,YI h1⟩
theorem HC.plFrom {s:LI}{v u:Int}(O:s∈XK c)(V:(((XK c).idxOf s:Int),v,u)∈(Yv c).ed):v∈evs (xj c.co)/\∃G,QU v (xj c.co) s=some G/\G∈XK c/\u=((XK c).idxOf G:Int):=by
 have hi:=KR O;have I:=X8 h.b.pok.edi V;rw[h.b.sy.2.1.J hi.1 v]at I;split at I
 ·rename_i U;obtain⟨G,J,e⟩:=LZ.1 I;rw[hi.2]at J;exact⟨U,G,J,(h.plTo O U J).1,e.symm⟩
 cases I
theorem HC.cst {s:LI}{v:Int}(G:s∈XK c):QU v (xj c.co++xj c.rq) (s++r)=(QU v (xj c.co) s).bind λI=>(QU v (xj c.rq) r).map (I++·):=Qap v _ _ s r (h.sl G)
omit h in
theorem QpT {v:Int}(G:v∈kpt (Yv c) hi):QU v (xj (Zr c hi).co++xj (Zr c hi).rq) ((i:Int)::r)=(xu (ZI (Yv c) hi).ed i v).bind λI=>(QU v (xj c.rq) r).map (I::·):=by
 show QU v (ZI (Yp c) hi::xj c.rq) ((i:Int)::r)=_;rw[Yr];unfold pst;rw[OZ (show v∈(ZI (Yp c) hi).al from G)]
theorem HC.lo {s G est:LI}{i:Nat}{v:Int}(hS:Std c hi s i est)(I:v∈evs (xj c.co))(J:QU v (xj c.co) s=some G)(O:v∉hi):Std c hi G i est:=by
 obtain⟨h1,h2⟩:=h.plTo hS.m I J;exact⟨h1,hS.p.lo h2 O,hS.lt,hS.e⟩
theorem HC.pjs (hi':i<(VV (Yv c) hi).length)(O:(VV (Yv c) hi).getD i []=est){v:Int}(J:v∈kpt (Yv c) hi):(∃I:Nat,xu (ZI (Yv c) hi).ed i v=some (I:Int)/\I<(VV (Yv c) hi).length/\(VV (Yv c) hi).getD I []=vnx (Yv c) hi (unc c.ev) est v/\(vnx (Yv c) hi (unc c.ev) est v).length≠0)\/xu (ZI (Yv c) hi).ed i v=none/\(vnx (Yv c) hi (unc c.ev) est v).length=0:=by
 have h1:=h.pj.J hi' v;have U:=Qnu (o:=hi) (un:=unc c.ev) h.b.pok est v;have h2:=h.pj.to (j:=i) hi' J;rw[O,U]at h1 h2;by_cases G:(vnx (Yv c) hi (unc c.ev) est v).length=0
 ·rw[OY (λe=>e.2 G)]at h1;exact .inr ⟨h1,G⟩
 rw[OZ ⟨J,G⟩]at h1;exact .inl ⟨_,h1,(h2 G).1,(h2 G).2,G⟩
theorem HC.hgh {s I:LI}{v:Int}(hS:Std c hi s i est)(J:v∈evs (xj c.co))(V:QU v (xj c.co) s=some I)(O:v∈hi):∃G:Nat,xu (ZI (Yv c) hi).ed i v=some (G:Int)/\Std c hi I G (vnx (Yv c) hi (unc c.ev) est v):=by
 obtain⟨h1,h2⟩:=h.plTo hS.m J V;have U:((XK c).idxOf I:Int)∈vnx (Yv c) hi (unc c.ev) est v:=(X5 h.b.pok).2 ⟨_,(hS.p.ok h.b.pok h.b.sy.2.2.2.1).m,_,h2,.z⟩;rcases h.pjs hS.lt hS.e (h.evk.2 ⟨J,O⟩) with⟨G,e1,e2,e3,_⟩|⟨_,e2⟩
 ·exact⟨G,e1,h1,hS.p.hi h2 O,e2,e3⟩
 rw[Lu e2]at U;cases U
theorem HC.mr {s:LI}(G:s∈XK c):((XK c).idxOf s:Int)∈(Yv c).mr↔Yh (xj c.co) s=true:=by
 have hi:=KR G;rw[Qal h.b.sy.2.1 hi.1,hi.2]
theorem HC.cmk {s:LI}(G:s∈XK c):Yh (xj c.co++xj c.rq) (s++r)=(Yh (xj c.co) s && Yh (xj c.rq) r):=QaJ _ _ s r (h.sl G)
omit h in
theorem tmk :Yh (xj (Zr c hi).co++xj (Zr c hi).rq) ((i:Int)::r)=(decide ((i:Int)∈(ZI (Yv c) hi).mr) && Yh (xj c.rq) r):=rfl
theorem HC.imr (hi':i<(VV (Yv c) hi).length)(G:(VV (Yv c) hi).getD i []=est):(i:Int)∈(ZI (Yv c) hi).mr↔mkd (Yv c) est=true:=by
 rw[h.pj.mr hi',G]
theorem HC.td {s:LI}(G:s∈XK c):(s++r).take c.co.length=s/\(s++r).drop c.co.length=r:=by
 have hl:=h.sl G;rw[YX]at hl;exact⟨by rw[<-hl,List.take_left],by rw[<-hl,List.drop_left]⟩
inductive PLT (c:ZO) (hi:LI):LI->LI->Prop
 | mk {q:LI}:Lq (Zr c hi) q->Yh (xj (Zr c hi).co++xj (Zr c hi).rq) q=true->PLT c hi q []
 | st {q q' t:LI} {v:Int}:Lq (Zr c hi) q->v∈kpt (Yv c) hi->QU v (xj (Zr c hi).co++xj (Zr c hi).rq) q=some q'->PLT c hi q' t->PLT c hi q (v::t)
omit h in
theorem PLT.l {t:LI}(G:PLT c hi q t):Lq (Zr c hi) q:=by cases G with|mk h1 _=>exact h1|st h1 _ _ _=>exact h1
theorem HC.plt:∀q,Lq (Zr c hi) q->∃t,PLT c hi q t:=h.t.lind (T:=λq=>∃t,PLT c hi q t) (λ_ hl G=>⟨[],.mk hl G⟩) λ_ _ v hl _ I J ⟨t,ht⟩=>⟨v::t,.st hl (h.evT.1 I) J ht⟩
theorem HC.pltm {t:LI}:∀{i:Nat}{r est:LI},i<(VV (Yv c) hi).length->(VV (Yv c) hi).getD i []=est->PLT c hi ((i:Int)::r) t->(∀v∈t,v∈kpt (Yv c) hi)/\mkd (Yv c) (vns (Yv c) hi (unc c.ev) est t)=true:=by
 induction t with
 | nil =>
  intro i r est h1 h2 I;cases I with
  | mk _ U =>
   rw[tmk,LD,decide_eq_true_iff]at U;exact⟨nofun,(h.imr h1 h2).1 U.1⟩
 | cons v t ih =>
  intro i r est h1 h2 I;cases I with
  | st _ J G V =>
   rw[QpT J]at G;rcases h.pjs h1 h2 J with⟨Y,e1,e2,e3,_⟩|⟨e1,_⟩
   ·rw[e1]at G;obtain⟨r',hr,e4⟩:=LZ.1 (show(QU v (xj c.rq) r).map ((Y:Int)::·)=some _ from G);rw[<-e4]at V;obtain⟨k1,k2⟩:=ih e2 e3 V;refine⟨λw O=>?_,k2⟩;rcases Ll.1 O with rfl|O
    ·exact J
    exact k1 w O
   rw[e1]at G;cases G
def Oc (c:ZO)(hi:LI)(q:LI):Prop:=∃(s:LI) (i:Nat) (est r:LI),q=s++r/\r.length=(xj c.rq).length/\Std c hi s i est/\q∈Xx c/\Lq (Zr c hi) ((i:Int)::r)
def Ot (c:ZO)(hi:LI)(q:LI):Prop:=∃(s:LI) (i:Nat) (est r:LI),q=(i:Int)::r/\r.length=(xj c.rq).length/\Std c hi s i est/\q∈Xx (Zr c hi)/\Lq c (s++r)
theorem HC.cto {s I:LI}{v:Int}(U:s∈XK c)(V:r.length=(xj c.rq).length)(J:QU v (xj c.co++xj c.rq) (s++r)=some I):∃G r',I=G++r'/\QU v (xj c.co) s=some G/\QU v (xj c.rq) r=some r'/\r'.length=(xj c.rq).length:=by
 rw[h.cst U]at J;obtain⟨G,h1,h2⟩:=L7.1 J;obtain⟨r',O,Y⟩:=LZ.1 h2;exact⟨G,r',Y.symm,h1,O,qv V O⟩
theorem HC.cin {s G r':LI}{v:Int}(I:s∈XK c)(h1:QU v (xj c.co) s=some G)(h2:QU v (xj c.rq) r=some r'):QU v (xj c.co++xj c.rq) (s++r)=some (G++r'):=by
 rw[h.cst I,h1,h2];rfl
omit h in
theorem Qm6 {G:Int}{r':LI}{v:Int}(I:v∈kpt (Yv c) hi)(h1:xu (ZI (Yv c) hi).ed i v=some G)(h2:QU v (xj c.rq) r=some r'):QU v (xj (Zr c hi).co++xj (Zr c hi).rq) ((i:Int)::r)=some (G::r'):=by
 rw[QpT I,h1,h2];rfl
theorem HC.tto {J:LI}{v:Int}(hi':i<(VV (Yv c) hi).length)(V:(VV (Yv c) hi).getD i []=est)(Y:r.length=(xj c.rq).length)(O:v∈kpt (Yv c) hi)(G:QU v (xj (Zr c hi).co++xj (Zr c hi).rq) ((i:Int)::r)=some J):
  ∃(I:Nat) (r':LI),J=(I:Int)::r'/\xu (ZI (Yv c) hi).ed i v=some (I:Int)/\QU v (xj c.rq) r=some r'/\r'.length=(xj c.rq).length/\(vnx (Yv c) hi (unc c.ev) est v).length≠0:=by
 rw[QpT O]at G;rcases h.pjs hi' V O with⟨I,e1,e2,e3,e5⟩|⟨e1,_⟩
 ·rw[e1]at G;obtain⟨r',U,e4⟩:=LZ.1 (show(QU v (xj c.rq) r).map ((I:Int)::·)=some _ from G);exact⟨I,r',e4.symm,e1,U,qv Y U,e5⟩
 rw[e1]at G;cases G
theorem HC.oc (ob:q8 (Yv c) hi (unc c.ev)):∀q,Oc c hi q->Lq c q:=by
 refine h.b.lmax (λq Y=>?_) (λq Y=>?_) (λq q' v Y G hu V=>?_) (λq Y=>?_)
 ·obtain⟨_,_,_,_,_,_,_,h1,_⟩:=Y;exact h1
 ·obtain⟨s,i,est,r,rfl,J,hS,hg,hL⟩:=Y;intro v hu G hs;rw[(h.td hS.m).1]at hs;rw[(h.td hS.m).2];by_cases I:v∈hi
  ·obtain⟨O,ha⟩:=Option.isSome_iff_exists.1 hs;obtain⟨i',e1,_⟩:=h.hgh hS G ha I;have hk:=h.evk.2 ⟨G,I⟩;refine h.t.lfr hL v hu (h.evT.2 hk) ?_;show(QU v [ZI (Yp c) hi] [(i:Int)]).isSome=true;rw[Yr];unfold Lg.pst;rw[OZ (show v∈(ZI (Yp c) hi).al from hk),show xu (ZI (Yp c) hi).ed i v=some (i':Int) from e1];rfl
  rw[h.rql I J];rfl
 ·obtain⟨s,i,est,r,rfl,J,hS,hg,hL⟩:=Y;have U:=h.b.nxQ hg G V;obtain⟨O,r',rfl,h1,h2,hh⟩:=h.cto hS.m J V;by_cases I:v∈hi
  ·obtain⟨i',e1,hf⟩:=h.hgh hS G h1 I;have hk:=h.evk.2 ⟨G,I⟩;exact⟨O,i',_,r',Z,hh,hf,U,h.t.lunc hL (h.evT.2 hk) hu (Qm6 hk e1 h2)⟩
  rw[h.rql I J]at h2;have e:=Option.some.inj h2;rw[<-e]at U ⊢;exact⟨O,i,est,r,Z,J,h.lo hS G h1 I,U,hL⟩
 obtain⟨s,i,est,r,rfl,J,hS,hg,hL⟩:=Y;obtain⟨t,ht⟩:=h.plt _ hL;obtain⟨k1,k2⟩:=h.pltm hS.lt hS.e ht;have hp:=ob.h2 _ _ t hS.p k1 k2;clear hL k1 k2;generalize hx:((XK c).idxOf s:Int)=x at hp;induction hp generalizing s i est r with
 | mk hm =>
  rw[<-hx]at hm;cases ht with
  | mk _ hj =>
   rw[tmk,LD]at hj;refine WQ.mk ?_;rw[h.cmk hS.m,(h.mr hS.m).1 hm,hj.2];rfl
 | lo he I _ ih =>
  rw[<-hx]at he;obtain⟨G,O,ha,hw,e⟩:=h.plFrom hS.m he;have V:=h.cin hS.m ha (h.rql I J);have hf:=h.lo hS G ha I;have U:=h.b.nxQ hg G V;exact WQ.st G V ⟨O,i,est,r,Z,J,hf,U,ht.l⟩ (ih O i est r J hf U ht e.symm)
 | hi he I _ ih =>
  rw[<-hx]at he;obtain⟨G,O,ha,hw,e⟩:=h.plFrom hS.m he;cases ht with
  | st hl hk hy ho =>
   obtain⟨i',r',rfl,e1,e2,hh,_⟩:=h.tto hS.lt hS.e J hk hy;have V:=h.cin hS.m ha e2;obtain⟨i2,e3,hf⟩:=h.hgh hS G ha I;have ei:i2=i':=by
    rw[e1]at e3;have:=Option.some.inj e3;omega
   subst ei;have U:=h.b.nxQ hg G V;exact WQ.st G V ⟨O,i2,_,r',Z,hh,hf,U,ho.l⟩ (ih O i2 _ r' hh hf U ho e.symm)
theorem HC.walkU {x y:Int}(hl:Us (VW hi (unc c.ev) true) (Yv c) x y):∀{s est r:LI}{i:Nat},((XK c).idxOf s:Int)=x->r.length=(xj c.rq).length->Std c hi s i est->Lq c (s++r)->∃s1,y=((XK c).idxOf s1:Int)/\Std c hi s1 i est/\Lq c (s1++r):=by
 induction hl with
 | z=>intro s est r i hx _ hS G;exact⟨s,hx.symm,hS,G⟩
 | st I Y _ ih =>
  intro s est r i hx J hS G;rw[<-hx]at I;obtain⟨O,hu⟩:=Qkd.1 Y;obtain⟨U,s',V,_,e⟩:=h.plFrom hS.m I;exact ih e.symm J (h.lo hS U V O) (h.b.lunc G U hu (h.cin hS.m V (h.rql O J)))
theorem HC.ot (ob:q8 (Yv c) hi (unc c.ev)):∀q,Ot c hi q->Lq (Zr c hi) q:=by
 have hy:∀{s est r:LI} {i:Nat} {v:Int},r.length=(xj c.rq).length->Std c hi s i est->Lq c (s++r)->v∈kpt (Yv c) hi->v∈unc c.ev->(vnx (Yv c) hi (unc c.ev) est v).length≠0->∃V s2,Std c hi V i est/\Lq c (V++r)/\v∈evs (xj c.co)/\QU v (xj c.co) V=some s2:=λ{s est r i v} G hS Y I hu hz=>by
  obtain⟨x1,hl,y,he⟩:=ob.h1 _ _ v hS.p I hu hz;obtain⟨V,e1,O,hg⟩:=h.walkU hl Z G hS Y;rw[e1]at he;obtain⟨J,s2,ha,_⟩:=h.plFrom O.m he;exact⟨V,s2,O,hg,J,ha⟩
 refine h.t.lmax (λq hq=>?_) (λq hq=>?_) (λq q' v hq J hu hj=>?_) (λq hq=>?_)
 ·obtain⟨_,_,_,_,_,_,_,h1,_⟩:=hq;exact h1
 ·obtain⟨s,i,est,r,rfl,G,hS,U,Y⟩:=hq;intro v hu J hs;have I:=h.evT.1 J;show(QU v (xj c.rq) r).isSome=true;have hh:(QU v [ZI (Yp c) hi] [(i:Int)]).isSome=true:=hs;rw[Yr]at hh;unfold Lg.pst at hh;rw[OZ (show v∈(ZI (Yp c) hi).al from I)]at hh;rcases h.pjs hS.lt hS.e I with⟨i',e1,_,_,e5⟩|⟨e1,_⟩
  ·obtain⟨V,s2,O,hg,ho,ha⟩:=hy G hS Y I hu e5;have hf:=h.b.lfr hg v hu ho;rw[(h.td O.m).1,(h.td O.m).2,ha]at hf;exact hf Z
  rw[show xu (ZI (Yp c) hi).ed i v=none from e1]at hh;cases hh
 ·obtain⟨s,i,est,r,rfl,G,hS,U,Y⟩:=hq;have I:=h.evT.1 J;have hp:=h.t.nxQ U J hj;obtain⟨i',r',rfl,e1,e2,hw,e5⟩:=h.tto hS.lt hS.e G I hj;obtain⟨V,s2,O,hg,ho,ha⟩:=hy G hS Y I hu e5;obtain⟨i2,e3,h4⟩:=h.hgh O ho ha (h.evk.1 I).2;have ei:i2=i':=by
   rw[e1]at e3;have:=Option.some.inj e3;omega
  subst ei;exact⟨s2,i2,_,r',Z,hw,h4,hp,h.b.lunc hg ho hu (h.cin O.m ha e2)⟩
 obtain⟨s,i,est,r,rfl,G,hS,U,Y⟩:=hq;have key:=h.b.lind (T:=λq=>∀s i est r,q=s++r->r.length=(xj c.rq).length->Std c hi s i est->(i:Int)::r∈Xx (Zr c hi)->WQ (Zr c hi) (Ot c hi) ((i:Int)::r)) (λq hl hm s i est r e G hS U=>by
  subst e;rw[h.cmk hS.m,LD]at hm;refine WQ.mk ?_;rw[tmk,hm.2,O2 ((h.imr hS.lt hS.e).2 (US.2 ⟨_,(hS.p.ok h.b.pok h.b.sy.2.2.2.1).m,(h.mr hS.m).2 hm.1⟩))];rfl) (λq q' v hl h5 J hj ih s i est r e G hS U=>by
  subst e;obtain⟨s',r',rfl,h1,h2,hw⟩:=h.cto hS.m G hj;by_cases hn:v∈hi
  ·obtain⟨i',e1,h0⟩:=h.hgh hS J h1 hn;have I:=h.evk.2 ⟨J,hn⟩;have h3:=Qm6 I e1 h2;have hp:=h.t.nxQ U (h.evT.2 I) h3;exact WQ.st (h.evT.2 I) h3 ⟨s',i',_,r',Z,hw,h0,hp,h5⟩ (ih s' i' _ r' Z hw h0 hp)
  rw[h.rql hn G]at h2;have e:=Option.some.inj h2;subst e;exact ih s' i est r Z G (h.lo hS J h1 hn) U)
 exact key _ Y s i est r Z G hS U
theorem HC.std0:Std c hi (oI (xj c.co).length 0) 0 (vcl (Yv c) hi (unc c.ev) [0] false):=by
 have I:=h.b.sy.2.1;have G:0<(XK c).length:=by have:=I.st;have:=h.b.sy.2.2.2.1;omega
 have h1:=I.hd G;have O:oI (xj c.co).length (0:Int)∈XK c:=by rw[<-h1];exact(ZR G).2
 have J:=KR O;have e:(XK c).idxOf (oI (xj c.co).length (0:Int))=0:=by
  refine QaF I.nd J.1 G ?_;rw[<-(ZR J.1).1,<-(ZR G).1,J.2];exact h1.symm
 refine⟨O,by rw[e];exact Pr.z,h.pj.hd.2,?_⟩;rw[h.pj.hd.1];exact Qgn h.b.pok λx hx=>by rw[Lc.1 hx];exact⟨Ms _,h.b.sy.2.2.2.1⟩
omit h in
theorem Qc4 (c:ZO)(hi:LI):oI (xj c.co++xj c.rq).length (0:Int)=oI (xj c.co).length 0++oI (xj c.rq).length 0/\oI (xj (Zr c hi).co++xj (Zr c hi).rq).length (0:Int)=((0:Nat):Int)::oI (xj c.rq).length 0:=by
 refine⟨by rw[Le,List.replicate_append_replicate],?_⟩;show oI (ZI (Yp c) hi::xj c.rq).length (0:Int)=_;rw[LS,List.replicate_succ];rfl
theorem HC.l0 (ob:q8 (Yv c) hi (unc c.ev)):Lq (Zr c hi) (((0:Nat):Int)::oI (xj c.rq).length 0)↔Lq c (oI (xj c.co).length 0++oI (xj c.rq).length 0):=by
 have h1:=h.b.q0.1;have h2:=h.t.q0.1;rw[(Qc4 c hi).1]at h1;rw[(Qc4 c hi).2]at h2;exact⟨λhl=>h.oc ob _ ⟨_,0,_,_,Z,Np,h.std0,h1,hl⟩,λhl=>h.ot ob _ ⟨_,0,_,_,Z,Np,h.std0,h2,hl⟩⟩
end
abbrev htQ (c:ZO)(hi:LI):List (LI):=syQ [Yp c,Xv (Zr c hi)]
structure HtS (c:ZO)(hi:LI)(k:Nat)(s:LI)(i:Nat)(est r:LI)(y:Int):Prop where
 lt:k<(htQ c hi).length
 q:(htQ c hi).getD k []=[((XK c).idxOf s:Int),y]
 st:Std c hi s i est
 rl:r.length=(xj c.rq).length
 v:Vq (Zr c hi) ((i:Int)::r) y
section
variable (h:HC c hi)(hE:Uk c hi=0)
include h hE
theorem HC.ht:SyP [Yp c,Xv (Zr c hi)] (zh c hi) (htQ c hi)/\((htQ c hi).length=0↔(Xv (Zr c hi)).st=0)/\QL (zh c hi)/\QL (Xv (Zr c hi)):=by
 unfold Uk at hE;by_cases h1:suE (Zr c hi)≠0
 ·rw[OZ h1]at hE;exact O1 hE h1
 rw[OY h1]at hE;have I:=Km (Ly.1 h1);have J:∀a∈[Yp c,Xv (Zr c hi)],QL a:=λa G=>by
  rcases Ll.1 G with rfl|G
  ·exact h.b.pok
  rw[Lc.1 G];exact I
 obtain⟨U,_⟩:=Qm8 hE;obtain⟨O,V⟩:=Yx J U;refine⟨O,?_,O.okay J,I⟩;rw[V];have Y:0<(Yv c).st:=h.b.sy.2.2.2.1;constructor
 ·rintro⟨a,G,e⟩;rcases Ll.1 G with rfl|G
  ·exact O1 e (by show(Yv c).st≠0;omega)
  rw[Lc.1 G]at e;exact e
 intro e;exact⟨_,oe,e⟩
theorem HC.hev (O:(Xv (Zr c hi)).st≠0){v:Int}:v∈evs [Yp c,Xv (Zr c hi)]↔v∈evs (xj c.co):=by
 rw[Xo (λa G=>by
  rcases Ll.1 G with rfl|G
  ·exact h.b.pok
  rw[Lc.1 G];exact(h.ht hE).2.2.2)]
 have J:(Yp c).al=evs (xj c.co):=h.b.sy.2.1.al;constructor
 ·rintro⟨a,G,I⟩;rcases Ll.1 G with rfl|G
  ·rwa [J]at I
  rw[Lc.1 G]at I;exact(h.evk.1 (h.evT.1 (((h.t.suE O).2.2 v).1 I))).1
 intro I;exact⟨Yp c,oe,by rw[J];exact I⟩
omit h hE in
theorem yi (v:Int)(a b:Qz)(x y:Int):QU v [a,b] [x,y]=(pst v a x).bind λG=>(pst v b y).map λI=>[G,I]:=by
 rw[Yr,Yr];cases pst v a x with
 | none=>rfl
 | some G=>cases pst v b y <;> rfl
theorem HC.hto {k i:Nat}{s est r:LI}{y v u:Int}(hS:HtS c hi k s i est r y)(he:xu (zh c hi).ed k v=some u):
  v∈evs (xj c.co)/\∃(k':Nat) (I:LI) (i':Nat) (est' r':LI) (J:Int),u=(k':Int)/\QU v (xj c.co++xj c.rq) (s++r)=some (I++r')/\HtS c hi k' I i' est' r' J:=by
 obtain⟨h1,h2,h3,h4⟩:=h.ht hE;have V:(Xv (Zr c hi)).st≠0:=λe=>ou (h2.2 e) hS.lt
 have Y:=h1.J hS.lt v;rw[he]at Y;split at Y
 ·rename_i hv;have O:=(h.hev hE V).1 hv;obtain⟨t,ht,e⟩:=LZ.1 Y.symm;have hto:=h1.to hS.lt hv ht;rw[hS.q,yi]at ht;obtain⟨x',hx,hf⟩:=L7.1 ht;obtain⟨J,G,hg⟩:=LZ.1 hf;subst hg;have hh:(Yp c).al=evs (xj c.co):=h.b.sy.2.1.al;unfold pst at hx;rw[OZ (by rw[hh];exact O)]at hx;obtain⟨_,I,ha,_,e2⟩:=h.plFrom hS.st.m (YI (show xu (Yv c).ed _ v=some x' from hx));subst e2;refine⟨O,?_⟩;by_cases U:v∈hi
  ·have hk:=h.evk.2 ⟨O,U⟩;unfold pst at G;rw[OZ (((h.t.suE V).2.2 v).2 (h.evT.2 hk))]at G;obtain⟨_,q',hj,ho⟩:=h.t.vst V hS.v G;obtain⟨i',r',rfl,e1,e2,hq,_⟩:=h.tto hS.st.lt hS.st.e hS.rl hk hj;obtain⟨i2,e3,hr⟩:=h.hgh hS.st O ha U;have ei:i2=i':=by
    rw[e1]at e3;have:=Option.some.inj e3;omega
   subst ei;exact⟨_,I,i2,_,r',J,e.symm,h.cin hS.st.m ha e2,hto.1,hto.2,hr,hq,ho⟩
  have hs:J=y:=by
   unfold pst at G;rw[OY (λhm=>U (h.evk.1 (h.evT.1 (((h.t.suE V).2.2 v).1 hm))).2)]at G;exact(Option.some.inj G).symm
  subst hs;exact⟨_,I,i,est,r,J,e.symm,h.cin hS.st.m ha (h.rql U hS.rl),hto.1,hto.2,h.lo hS.st O ha U,hS.rl,hS.v⟩
 cases Y
theorem HC.hgo {k:Nat}{s J r':LI}{y v:Int}(hS:HtS c hi k s i est r y)(O:v∈evs (xj c.co))(he:QU v (xj c.co) s=some J)(V:QU v (xj c.rq) r=some r')(hl:∀G:Nat,v∈hi->xu (ZI (Yv c) hi).ed i v=some (G:Int)->Std c hi J G (vnx (Yv c) hi (unc c.ev) est v)->Lq (Zr c hi) ((G:Int)::r')):
  ∃(k' G:Nat) (est':LI) (I:Int),xu (zh c hi).ed k v=some (k':Int)/\HtS c hi k' J G est' r' I:=by
 obtain⟨h1,h2,h3,h4⟩:=h.ht hE;have Y:(Xv (Zr c hi)).st≠0:=λe=>ou (h2.2 e) hS.lt
 have hg:=(h.hev hE Y).2 O;have h5:=h1.J hS.lt v;rw[OZ hg,hS.q,yi]at h5;have hh:(Yp c).al=evs (xj c.co):=h.b.sy.2.1.al;have hx:pst v (Yp c) ((XK c).idxOf s:Int)=some ((XK c).idxOf J:Int):=by
  unfold pst;rw[OZ (by rw[hh];exact O)];exact X8 h.b.pok.edi (h.plTo hS.st.m O he).2
 have fin:∀(G:Nat) (est':LI) (I:Int),pst v (Xv (Zr c hi)) y=some I->Std c hi J G est'->r'.length=(xj c.rq).length->Vq (Zr c hi) ((G:Int)::r') I->∃(k' G:Nat) (est':LI) (I:Int),xu (zh c hi).ed k v=some (k':Int)/\HtS c hi k' J G est' r' I:=λG est' I hy ha hj hf=>by
  rw[hx,hy]at h5;have hto:=h1.to hS.lt hg (u:=[((XK c).idxOf J:Int),I]) (by rw[hS.q,yi,hx,hy];rfl);exact⟨_,G,est',I,h5,hto.1,hto.2,ha,hj,hf⟩
 by_cases U:v∈hi
 ·obtain⟨G,e1,ha⟩:=h.hgh hS.st O he U;have hk:=h.evk.2 ⟨O,U⟩;obtain⟨I,hy,hf⟩:=h.t.vgo Y hS.v (h.evT.2 hk) (Qm6 hk e1 V) (hl G U e1 ha);exact fin G _ I (by unfold pst;rw[OZ (((h.t.suE Y).2.2 v).2 (h.evT.2 hk))];exact hy) ha (qv hS.rl V) hf
 have e2:r'=r:=by rw[h.rql U hS.rl]at V;exact(Option.some.inj V).symm
 subst e2;exact fin i est y (by unfold pst;rw[OY (λhm=>U (h.evk.1 (h.evT.1 (((h.t.suE Y).2.2 v).1 hm))).2)]) (h.lo hS.st O he U) hS.rl hS.v
theorem HC.hs0 (O:(Xv (Zr c hi)).st≠0):HtS c hi 0 (oI (xj c.co).length 0) 0 (vcl (Yv c) hi (unc c.ev) [0] false) (oI (xj c.rq).length 0) 0:=by
 obtain⟨h1,h2,h3,h4⟩:=h.ht hE;have U:0<(htQ c hi).length:=Nr λe=>O (h2.1 e);have V:=h.t.v0 O;rw[(Qc4 c hi).2]at V;refine⟨U,?_,h.std0,Np,V⟩;rw[h1.hd U];have G:=h.std0.m;have e:(XK c).idxOf (oI (xj c.co).length (0:Int))=0:=by
  have I:=h.b.sy.2.1;have J:0<(XK c).length:=by have:=I.st;have:=h.b.sy.2.2.2.1;omega
  have Y:=I.hd J;have G:=KR G;refine QaF I.nd G.1 J ?_;rw[<-(ZR G.1).1,<-(ZR J).1,G.2];exact Y.symm
 rw[e];rfl
theorem HC.same (ob:q8 (Yv c) hi (unc c.ev))(hh:QL (Xv c))(kd:Int):lgq (zh c hi) (Xv c) kd=none:=by
 obtain⟨h1,h2,h3,h4⟩:=h.ht hE;by_cases I:(Xv (Zr c hi)).st=0
 ·have e1:(zh c hi).st=0:=by rw[h1.st,h2.2 I];rfl
  have e2:(Xv c).st=0:=oW λhn=>by
   have hl:=h.b.vl (h.b.v0 hn);rw[(Qc4 c hi).1]at hl;have U:=(h.l0 ob).2 hl;rw[<-(Qc4 c hi).2]at U;exact h.t.pos U I
  exact Qn3 h3 hh e1 e2
 have hc:(Xv c).st≠0:=by
  have hl:=h.t.vl (h.t.v0 I);rw[(Qc4 c hi).2]at hl;have U:=(h.l0 ob).1 hl;rw[<-(Qc4 c hi).1]at U;exact h.b.pos U
 have ht:(zh c hi).st≠0:=by
  rw[h1.st];intro e;exact I (h2.1 oa)
 have hf:=h.b.v0 hc;rw[(Qc4 c hi).1]at hf;refine Qn4 (R:=λa b=>∃(k i:Nat) (s est r:LI) (y:Int),a=(k:Int)/\HtS c hi k s i est r y/\Vq c (s++r) b) ht hc ⟨0,0,_,_,_,0,Z,h.hs0 hE I,hf⟩ ?_ ?_ ?_ ?_
 ·rintro a b ⟨k,i,s,est,r,y,rfl,_,j,_,rfl,_⟩;exact⟨oa,oa⟩
 ·rintro a b v u ⟨k,i,s,est,r,y,rfl,hS,J⟩ he;obtain⟨V,k',Y,O,est',r',y',rfl,hg,G⟩:=h.hto hE hS he;have hL:=h.oc ob _ ⟨Y,O,est',r',Z,G.rl,G.st,h.b.nxQ (h.b.vl J).1 V hg,h.t.vl G.v⟩;obtain⟨b',hb,ha⟩:=h.b.vgo hc J V hg hL;exact⟨b',hb,k',O,Y,est',r',y',Z,G,ha⟩
 ·rintro a b v u' ⟨k,i,s,est,r,y,rfl,hS,J⟩ he;obtain⟨V,q',hq,ha⟩:=h.b.vst hc J he;obtain⟨Y,r',rfl,g1,g2,hj⟩:=h.cto hS.st.m hS.rl hq;obtain⟨k',O,est',y',ho,G⟩:=h.hgo hE hS V g1 g2 λO hn e1 G=>by
   have hk:=h.evk.2 ⟨V,hn⟩;exact h.ot ob _ ⟨Y,O,_,r',Z,hj,G,h.t.nxQ (h.t.vl hS.v).1 (h.evT.2 hk) (Qm6 hk e1 g2),h.b.vl ha⟩
  exact⟨k',ho,k',O,Y,est',r',y',Z,G,ha⟩
 rintro a b ⟨k,i,s,est,r,y,rfl,hS,J⟩;rw[Qal h1 hS.lt,hS.q,h.b.vmr hc J,h.cmk hS.st.m];have hy:=h.t.vmr I hS.v;rw[tmk]at hy;show(decide (((XK c).idxOf s:Int)∈(Yp c).mr) && (decide (y∈(Xv (Zr c hi)).mr) && true))=true↔_;have hm:=h.mr hS.st.m;rw[Bool.and_true,LD,LD,decide_eq_true_iff,decide_eq_true_iff,hy,LD,decide_eq_true_iff];constructor
 ·rintro⟨g1,g2,g3⟩;exact⟨hm.1 g1,g3⟩
 rintro⟨g1,g2⟩;have g3:=hm.2 g1;exact⟨g3,(h.imr hS.st.lt hS.st.e).2 (US.2 ⟨_,(hS.st.p.ok h.b.pok h.b.sy.2.2.2.1).m,g3⟩),g2⟩
end
theorem QpB {a:Qz}{P:Int->Prop}(G:∀e∈a.ed,P e.2.2->P e.1):∀(f i:Nat) (l:LI),(∀x∈l,P x/\0<=x)->(∀e∈a.ed,0<=e.1)->∀x∈bq a.ed f i l,P x/\0<=x
 | 0,_,_,h,_=>h
 | f+1,i,l,h,I=>by
  rw[bq];split
  ·rename_i hi;refine QpB G f (i+1) _ ?_ I;have hc:=h (xh l i) (by rw[<-Zo hi];exact Lm hi);refine XD (Inv:=λl=>∀x∈l,P x/\0<=x) _ _ (λm v J hl x hx=>?_) h;unfold ya at hx;split at hx
   ·rcases Lk.1 hx with hx|hx
    ·exact hl x hx
    rw[Lc.1 hx];unfold pre at J;obtain⟨e,O,rfl⟩:=Lt.1 J;obtain⟨h2,U⟩:=LB.1 O;have V:=O3 U;have Y:(((xh l i).toNat:Nat):Int)=xh l i:=by have:=hc.2;omega
    exact⟨G e h2 (by rw[V,Y];exact hc.1),I e h2⟩
   exact hl x hx
  exact h
theorem QnT {P:Qz}(V:QL P)(h0:0<P.st)(h:(nbl P).2=true):∀x,Us (λ_=>true) P 0 x->∃t,Jo P o x t:=by
 obtain⟨Q,hz,O⟩:=yE V;have hh:∀a∈[P],QL a:=λa U=>by rw[Lc.1 U];exact V
 obtain⟨hS,hj⟩:=Yx hh hz;have hw:=hS.st;have hq:0<Q.length:=Nr λe=>by
  obtain⟨a,U,e0⟩:=hj.1 e;rw[Lc.1 U]at e0;omega
 have h3:=Qjc hz;have hb:∀k,k<Q.length->(k:Int)∈crq (Jf [P]) (Jf [P]).mr:=λk I=>oW λhn=>by
  have Y:(k:Int)∈blkd (Jf [P]) (Jf [P]).mr:=Lt.2 ⟨k,LB.2 ⟨ME.2 oa,O2 hn⟩,Z⟩;have hf:(bpt (Jf [P]) (blkd (Jf [P]) (Jf [P]).mr)).2=true:=by
   unfold bpt;rw[OY oa];refine QhX (n:=(Jf [P]).st.toNat) (s:=k) (by rw[hw,MD];exact h3) (λe G=>?_) (λe G=>?_) oa (O2 Y)
   ·have:=O.ed e G;exact⟨this.1,this.2.2.2.1,oa⟩
   have:=O.ed e G;refine O2 (Lt.2 ⟨e.2.2.toNat,ME.2 oa,oa⟩)
  unfold nbl at h;rw[hf]at h;cases h
 have hc:∀k,k<Q.length->Rch (Jf [P]) (k:Int):=λk I=>(QpB (P:=Rch (Jf [P])) (λe G hr=>Rch.step (v:=e.2.1) G hr) _ _ _ (λx hx=>⟨.mk hx,(O.mr x hx).1⟩) (λe G=>(O.ed e G).1) _ (hb k I)).1;have hev:∀{v},v∈P.al->v∈evs [P]:=λJ=>(Xo hh _).2 ⟨P,oe,J⟩;have hx:∀x,Us (λ_=>true) P 0 x->∃k,k<Q.length/\Q.getD k []=[x]:=λx hl=>hl.to (S:=λx=>∃k,k<Q.length/\Q.getD k []=[x]) (λe G ⟨k,I,e1⟩ _=>by
  have J:=(V.ed e G).2.2.1;have hs:QU e.2.1 [P] (Q.getD k [])=some [e.2.2]:=by
   rw[e1,Yr];unfold pst;rw[OZ J,X8 V.edi G];rfl
  have:=hS.to I (hev J) hs;exact⟨_,this.1,this.2⟩) ⟨0,hq,hS.hd hq⟩
 have hr:∀y,Rch (Jf [P]) y->∀(k:Nat) (x:Int),y=(k:Int)->k<Q.length->Q.getD k []=[x]->∃t,Jo P o x t:=by
  intro y hy;induction hy with
  | mk Y =>
   intro k x e I e1;rw[e,Qal hS I,e1]at Y;have:decide (x∈P.mr)=true:=by
    have h5:(decide (x∈P.mr) && true)=true:=Y
    rwa [Bool.and_true]at h5
   exact⟨[],.mk (O3 this)⟩
  | @step y z v G _ ih =>
   intro k x e I e1;rw[e]at G;have hg:=X8 O.edi G;rw[hS.J I v,e1]at hg;split at hg
   ·rename_i J;obtain⟨t',ht,e2⟩:=LZ.1 hg;have hto:=hS.to I J (u:=t') (by rw[e1];exact ht);have h4:v∈P.al:=by
     obtain⟨a,U,h6⟩:=(Xo hh v).1 J
     rwa [Lc.1 U]at h6
    rw[Yr]at ht;unfold pst at ht;rw[OZ h4]at ht;obtain⟨u,hu,h7⟩:=L7.1 ht;have e3:[u]=t':=Option.some.inj h7;rw[<-e3]at e2 hto;obtain⟨t,hp⟩:=ih _ u e2.symm hto.1 hto.2;by_cases hvo:v∈o
    ·exact⟨v::t,.hi (YI hu) hvo hp⟩
    exact⟨t,.lo (YI hu) hvo hp⟩
   cases hg
 intro x hl;obtain⟨k,I,e1⟩:=hx x hl;exact hr _ (hc k I) k x Z I e1
section
variable {un':LI}
theorem QlO {bad:LI->LI->Bool}:∀(f i:Nat) (l:List Dq),dfL a o un bad f i l=dfL a o un' bad f i l
 | 0,_,_=>rfl
 | f+1,i,l=>by
  cases hx:l[i]? with
  | none=>rw[qa (MG.1 hx),qa (MG.1 hx)]
  | some x =>
   rw[jq hx,jq hx];split
   ·rfl
   exact QlO f (i+1) _
theorem QjG (est:LI)(s:Int):rft a o un est s=rft a o un' est s:=QlO _ _ _
theorem Qkh:∀(f i:Nat) (l:List jQ),obL a o un f i l=obL a o un' f i l
 | 0,_,_=>rfl
 | f+1,i,l=>by
  cases hx:l[i]? with
  | none=>rw[UN (MG.1 hx),UN (MG.1 hx)]
  | some x =>
   cases G:rft a o un x.2.1 x.1 with
   | some t=>rw[UM hx G,UM hx ((QjG _ _).symm.D G)]
   | none =>
    rw[Vn hx G,Vn hx ((QjG _ _).symm.D G)];exact Qkh f (i+1) _
theorem Qke:obs a o un=obs a o un':=by
 unfold obs;split
 ·rfl
 exact Qkh _ _ _
end
theorem QgU {set:LI}:hld a un set=true↔obs a set un=none/\cns a set un=none:=by
 unfold hld;rw[LD,NE,NE]
theorem Qoq {set:LI}{v x:Int}(G:Z7 set)(I:0<=v/\v<32):x∈ins set v↔x∈set\/x=v:=by
 unfold ins;rw[UA,Lk,Lc];constructor
 ·exact λh=>h.2
 rintro(h|h)
 ·exact⟨G.b x h,.inl h⟩
 rw[h];exact⟨I,.inr Z⟩
theorem yf {a:Qz}{un K:LI}:∀(l:LI) (z:LI×LI),(∀v∈l,0<=v/\v<32)->Z7 z.1->(∀v∈K,v∈z.1)->(∀v∈z.2,v∉K) ->
  Z7 (zL a un l z).1/\(∀v∈z.1,v∈(zL a un l z).1)/\(hld a un (zL a un l z).1=true\/∀v∈l,v∈(zL a un l z).1)/\(∀v∈(zL a un l z).2,v∉K)/\∀v∈(zL a un l z).1,v∈z.1\/v∈l
 | [],z,_,h1,_,J=>⟨h1,λv I=>I,.inr nofun,J,λv I=>.inl I⟩
 | v::l,z,hl,h1,h2,J=>by
  by_cases V:hld a un z.1=true
  ·rw[QcA V];exact⟨h1,λv I=>I,.inl V,J,λv I=>.inl I⟩
  have e:zL a un (v::l) z=zL a un l (if v∈z.1 then z else(ins z.1 v,z.2++[v])):=by rw[zL,OY V]
  have ha:=hl v Lj;rw[e];by_cases I:v∈z.1
  ·rw[OZ I];obtain⟨g1,O,Y,g4,g5⟩:=yf (K:=K) l z (λw G=>hl w (Lh _ G)) h1 h2 J;refine⟨g1,O,Y.imp id λh w G=>?_,g4,λw G=>(g5 w G).imp id (Lh _)⟩;rcases Ll.1 G with rfl|G
   ·exact O w I
   exact h w G
  rw[OY I];have U:∀x,x∈ins z.1 v↔x∈z.1\/x=v:=λx=>Qoq h1 ha;obtain⟨g1,O,Y,g4,g5⟩:=yf (K:=K) l (ins z.1 v,z.2++[v]) (λw G=>hl w (Lh _ G)) (Z7.ins v) (λw G=>(U w).2 (.inl (h2 w G))) (λw G=>by
   rcases Lk.1 G with G|G
   ·exact J w G
   rw[Lc.1 G];exact λhk=>I (h2 v hk))
  refine⟨g1,λw G=>O w ((U w).2 (.inl G)),Y.imp id λh w G=>?_,g4,λw G=>?_⟩
  ·rcases Ll.1 G with rfl|G
   ·exact O w ((U w).2 (.inr Z))
   exact h w G
  rcases g5 w G with h|h
  ·rcases(U w).1 h with h|h
   ·exact .inl h
   exact .inr (h ▸ Lj)
  exact .inr (Lh _ h)
theorem ji (J:QL a)(o un:LI):hld a un (KC a o un)=true/\(∀v∈kpt a o,v∈KC a o un)/\(∀v∈KC a o un,v∈a.al)/\Z7 (KC a o un):=by
 have V:Z7 (kpt a o):=⟨λv I=>J.al v (LB.1 I).1,J.ali.filter _⟩;obtain⟨g1,Y,g3,g4,g5⟩:=yf (a:=a) (un:=un) (K:=kpt a o) a.al (kpt a o,[]) J.al V (λv I=>I) nofun;have hh:hld a un (zL a un a.al (kpt a o,[])).1=true:=by
  rcases g3 with h|h
  ·exact h
  exact QgU.2 ⟨QgD J h,Qhk J h⟩
 have key:∀(vs set:LI),(∀v∈vs,v∉kpt a o)->hld a un set=true->(∀v∈kpt a o,v∈set)->(∀v∈set,v∈a.al)->Z7 set ->
   hld a un (vs.foldl (xtD a un) set)=true/\(∀v∈kpt a o,v∈vs.foldl (xtD a un) set)/\(∀v∈vs.foldl (xtD a un) set,v∈a.al)/\Z7 (vs.foldl (xtD a un) set):=by
  intro vs;induction vs with
  | nil=>intro set _ h1 h2 O U;exact⟨h1,h2,O,U⟩
  | cons v vs ih =>
   intro set I h1 h2 O U;refine ih (xtD a un set v) (λw G=>I w (Lh _ G)) ?_ ?_ ?_ ?_
   ·unfold xtD;split
    ·rename_i h;exact h
    exact h1
   ·intro w G;unfold xtD;split
    ·refine LB.2 ⟨h2 w G,?_⟩;have:w≠v:=λe=>I v Lj (e ▸ G);simp[this]
    exact h2 w G
   ·intro w G;unfold xtD at G;split at G
    ·exact O w (LB.1 G).1
    exact O w G
   unfold xtD;split
   ·exact U.fil _
   exact U
 exact key _ _ g4 hh Y (λv I=>(g5 v I).elim (λh=>(LB.1 h).1) id) g1
theorem JV.hc (h:JV c hi)(G:Vg c.co<=9)(hE:Uk c hi=0):HC c hi:=by
 have e:suE (Zr c hi)=0:=by
  unfold Uk at hE;by_cases e:suE (Zr c hi)=0
  ·exact e
  rw[OZ e]at hE;exact O1 hE e
 exact⟨h.celB,h.celT G e,h.r⟩
theorem JV.ob (h:JV c hi)(h1:(nbl (Yp c)).2=true)(h2:obs (Yp c) hi []=none)(G:cns (Yp c) hi (unc c.ev)=none):q8 (Yv c) hi (unc c.ev):=
 q8.of h.celB.pok h.celB.sy.2.2.2.1 (Qke.D h2) G (QnT h.celB.pok h.celB.sy.2.2.2.1 h1)
theorem JV.same {c:ZO}{hi:LI}(h:JV c hi)(J:Vg c.co<=9)(hE:Uk c hi=0)(ob:q8 (Yv c) hi (unc c.ev)):hcR c hi=none:=by
 have G:=h.hc J hE;have I:QL (Xv c):=Km h.su0;unfold hcR;rw[G.same hE ob I 1];exact G.same hE ob I 2
theorem QdY {c:CL}(hC:JV c.V hi)(J:Vg c.V.co<=9)(h:Z9 [] ↑w c)(hH:Qu [] ↑w vh hi)(O:Kb w 4096):
  QT sV 25 [c.val,vh] w λr w'=>sW w w'/\∃v e,r=.tuple #[v,.bool e,sS (Uk c.V hi)]/\v.oneCell'=true/\(Uk c.V hi=0->hcR c.V hi=none->v=ZY/\e=true):=by
 have hX:=hC.hcX J;refine(QgW h hH O λ_=>hC.hok J).S ?_;rintro r w' ⟨U,v,e,rfl,hb,I⟩;rw[hX]at hb I ⊢;refine⟨U,v,e,Z,?_,λG V=>?_⟩
 ·by_cases G:Uk c.V hi=0
  ·have:=I G;cases hR:hcR c.V hi with
   | none=>rw[hR]at this;rw[this.1];rfl
   | some u=>rw[hR]at this;exact QA this.2
  rw[(hb G).1];rfl
 have:=I G;rw[V]at this;exact this
theorem QiC {n:Int}(hn:n=5):QT sV 26 [.int .u8 255,sS n] w λr w'=>sW w w'/\Qh 3 ↑w w' r [0,1,2,3,4]:=by
 subst hn;refine Zn func26 ?_;refine Qc<|Qb<|Qc<|Qb<|Qd<|Qc<|Qb<|QY (α:=Nat×O7) [(5,20)] (λz=>[(5,z.2),(6,sS z.1)]) (λz w'=>z.1<=5/\sW w w'/\Qh 3 ↑w w' z.2 (setK 255 z.1)) (λz=>5 - z.1) (0,ZY) oy ⟨Lp _,xd.C _ _,QM _ _ _ _⟩ ?_;rintro⟨k,v⟩ g U ⟨hk,G,he⟩;have I:Qh 3 ↑w U v (setK 255 k):=he;have hr:k<=5:=hk;have hs:=G.size;have hu:(setK 255 k).length<=5:=by
  have:k=0\/k=1\/k=2\/k=3\/k=4\/k=5:=oa
  rcases this with rfl|rfl|rfl|rfl|rfl|rfl <;> decide
 refine Qd<|Ql<|Qa<|ZT Z Z<|xe<|Zp rfl (λJ=>?_) (λJ=>?_)
 ·refine Qt<|Ql<|Qb ?_;have hf:k=5:=by have h7:¬(k:Int)<5:=J;omega
  have hg:Qh 3 ↑w U v (setK 255 5):=by rw[<-hf];exact I
  exact Qk ⟨[v],Lb,G,hg⟩
 have hh:k<5:=by have h7:(k:Int)<5:=J;omega
 have hj:255 / 2 ^ k<256:=Nat.lt_of_le_of_lt (Nat.div_le_self _ _) oh;have V:=qz 255 k;have Y:255 / 2 ^ k &&& 1=1:=by
  have:k=0\/k=1\/k=2\/k=3\/k=4:=oa
  rcases this with rfl|rfl|rfl|rfl|rfl <;> decide
 rw[OZ Y]at V;refine Qf<|Qd<|Qn<|Ql<|Qa<|x (Qax (n:=k) Z Z (by show k<=8;omega))<|x (Uh (a:=255 / 2 ^ k) (b:=1) (O0 (Value.int .u8) (zO 255 k)) Z hj oh)<|x (Zc Z Z)<|xe<|Zp rfl (λha=>O1 (O0 Int.ofNat Y) ha) (λha=>?_);refine Qr<|Qa<|Qa<|Qo<|Q3 [[sS k]] λb15 w2 O hv hm=>?_;have ho:=Qm I O;have hw:=O.size;refine Qo<|Q0 (news:=[sS k]) (L:=[]) ho Z Z Z (hm.at oe) oo oa oa λv3 w3 hp hq hy =>
  Qb<|Qr<|Qa<|QC Z Z<|Qb<|⟨(k+1,v3),og,oy,hh,(G.D O).Z hq (λb hb=>.inr ((Qi I) b hb).1),?_⟩
 simp only[];rw[V];exact Qh.snoc hp
theorem JV.all (h:JV c hi):JV c [0,1,2,3,4]:=⟨h.d,h.x,h.k,oh,oh,λx hx e I=>by
 obtain⟨y,G,h1⟩:=(h.d.rq x hx).2.2 e I;have h2:=(h.d.co y G).2.2 e h1;have J:=((h.d.co y G).2.1.ok.al e h1).1;have:e=0\/e=1\/e=2\/e=3\/e=4:=oa
 rcases this with rfl|rfl|rfl|rfl|rfl <;> decide⟩
theorem JV.I (h:JV c hi):JV c (KC (Yp c) hi (unc c.ev)):=by
 obtain⟨_,h2,I,J⟩:=ji h.celB.pok hi (unc c.ev);refine⟨h.d,h.x,h.k,J.i,λv O=>?_,λx hx e U=>h2 e (h.rkp x hx e U)⟩;have G:=I v O;rw[show(Yv c).al=evs (xj c.co) from h.al]at G;exact h.evs5 v G
theorem JV.obs0 (h:JV c hi):obs (Yp c) [0,1,2,3,4] []=none/\cns (Yp c) [0,1,2,3,4] (unc c.ev)=none/\q8 (Yv c) [0,1,2,3,4] (unc c.ev):=by
 have G:∀v∈(Yv c).al,v∈[(0:Int),1,2,3,4]:=λv I=>by
  rw[show(Yv c).al=evs (xj c.co) from h.al]at I;have h1:=h.evs5 v I;have:v=0\/v=1\/v=2\/v=3\/v=4:=oa
  rcases this with rfl|rfl|rfl|rfl|rfl <;> decide
 exact⟨QgD h.celB.pok G,Qhk h.celB.pok G,q8.all h.celB.pok h.celB.sy.2.2.2.1 G⟩
theorem JV.ext0 (h:JV c hi):obs (Yp c) (KC (Yp c) hi (unc c.ev)) []=none/\cns (Yp c) (KC (Yp c) hi (unc c.ev)) (unc c.ev)=none:=by
 have h1:=QgU.1 (ji h.celB.pok hi (unc c.ev)).1;exact⟨Qke.D h1.1,h1.2⟩
theorem JV.used (h:JV c hi):∀v∈hi,(∃x∈c.co,v∈x.a.al)->v∈KC (Yp c) hi (unc c.ev):=λv G ⟨x,hx,I⟩=>by
 refine(ji h.celB.pok hi (unc c.ev)).2.1 v (LB.2 ⟨?_,O2 G⟩);rw[show(Yv c).al=evs (xj c.co) from h.al];exact(Xo (λa J=>(h.celB.ok a (LG _ J)).1) v).2 ⟨x.a,Lt.2 ⟨x,hx,Z⟩,I⟩
theorem Qfa {l:PwV}{hb:Nat}(hl:PwA w l)(g8:hb<256)(hA:Kb w 4096):
  QT sV 5 [.agg (Z6 l++[Value.int .u8 (hb:Int)]).toArray] w λr w'=>r=.bool true/\sW w w':=by
 refine Zn func5 ?_;refine Qc<|Zd (Z6 l++[Value.int .u8 (hb:Int)]) λb1 w1 hB q5 hQ=>Qb<|Qd<|QX (α:=Bool) [(21,28)] (λz=>[(28,.bool z)]) (λz w'=>sW w1 w'/\(z=false->l.n<=4)) ol ?_ ?_
 ·refine Qr<|Qw<|(jS (hA.I hB)).S ?_;rintro r2 w2 ⟨rfl,ha⟩;refine x (Zi Z)<|Qa<|Q9 Z<|x (ZW (us:=Z6 l) (hQ.I ha) Z (Qbz (l:=l.pl []) hl.n) (Qnz hl.n))<|Qw<|(Qmu (l:=l) ((hl.I hB).I ha)).S ?_;rintro r3 w3 ⟨rfl,hj⟩;refine x (Zi Z)<|QB Z<|xe ?_;exact⟨!decide (l.n<=4),Lb,ha.D hj,λe=>ox e⟩
 rintro z g w2 ⟨ha,hz⟩;have hr:=hB.D ha;refine Q5 rfl (λhR=>?_) (λhR=>?_)
 ·refine Qc<|Qw<|(jS (hA.I hr)).S ?_;rintro r3 w3 ⟨rfl,hj⟩;refine Qb<|Qk ⟨[.bool true],Lb,Z,hr.D hj⟩
 refine Qf<|Exists.elim (hl.pl hr (hz hR)) λrs g9=>?_;refine Qc<|Q7 (hQ.I ha) Z (Qqb hl.n)<|Qw<|(Qic g9.1 g8).S ?_;rintro _ w3 ⟨hj,c,vh,hi,rfl,ka,kb,hC⟩;have hS:=ka [] oe;have kc:Qu [] ↑w3 vh hi:=Qh.ints kb (oq hC.hl) oe;obtain⟨hD,hE,ke⟩:=CL.co3 hC;refine Qa<|QS Z Z<|QS Z Z<|QV Vo λb3 w4 kf kg kh=>Q6 c.cells kh hS.ones λw5 ki hT =>
  Qb ?_
 have hF:sW w3 w5:=kf.O ki kg;have hs:=(hr.D hj).D hF;have hU:=hS.I hF;have kj:=kc.I hF;refine Qd<|Qc<|Q7 hT Z Z<|Qw<|(QmG hU hD hE).S ?_;rintro _ w6 ⟨rfl,V⟩;refine x (Zi Z)<|xe<|Q5 rfl (λhV=>?_) (λhV=>?_)
 ·refine Qc<|Qb<|Qk ⟨[.bool true],Lb,Z,hs.D V⟩
 have J:Vg c.V.co<=9:=by simpa using hV
 have hO:hck c.V hi=0->HOk c.V hi:=λ_=>hC.hok J;have kk:=hC.hck;have hk:=hC.all;have he:=hC.I;have hW:=hk.htX J;have hG:=he.htX J;have hu:=hC.obs0;have hm:=hC.ext0;have hY:=hC.used;have hZ:Uk c.V [0,1,2,3,4]=0->hcR c.V [0,1,2,3,4]=none:=λe=>hk.same J e hu.2.2;have hv:Uk c.V (KC (Yp c.V) hi (unc c.V.ev))=0->(nbl (Yp c.V)).2=true->hcR c.V (KC (Yp c.V) hi (unc c.V.ev))=none:=λe h1=>he.same J e (he.ob h1 hm.1 hm.2);have cT1:=λ{w:O6} {vh:O7} (a:Z9 [] ↑w c) (b:Qu [] ↑w vh [0,1,2,3,4]) (k:Kb w 4096)=>Qaj hk J a b k;have cM1:=λ{w:O6} {vh:O7} (a:Z9 [] ↑w c) (b:Qu [] ↑w vh [0,1,2,3,4]) (k:Kb w 4096)=>QdY hk J a b k;have cT2:=λ{w:O6} {vh:O7} (a:Z9 [] ↑w c) (b:Qu [] ↑w vh (KC (Yp c.V) hi (unc c.V.ev))) (k:Kb w 4096)=>Qaj he J a b k;have cM2:=λ{w:O6} {vh:O7} (a:Z9 [] ↑w c) (b:Qu [] ↑w vh (KC (Yp c.V) hi (unc c.V.ev))) (k:Kb w 4096)=>QdY he J a b k;have cX:=λ{w:O6} (a:Z9 [] ↑w c) (b:Qu [] ↑w vh hi) (k:Kb w 4096)=>y9 a b k hO;rw[kk]at cX;rw[hu.1,hu.2.1]at cT1;rw[hm.1,hm.2]at cT2;refine Zg (KC (Yp c.V) hi (unc c.V.ev)) λX hX=>?_;rw[hX]at hG hY hv cT2 cM2 cX;refine Zg (Uk c.V [0,1,2,3,4]) λE1 ga=>?_;rw[ga]at hW hZ cM1;refine Zg (Uk c.V X) λE2 gb=>?_;rw[gb]at hG hv cM2;refine Zg (nbl (Yp c.V)) λNB gc=>?_;rw[gc]at hv cT1 cT2;clear hk he hu hm hX ga gb gc;have hw:=hA.I (hs.D V);have hf:=hU.I V;have ge:=kj.I V;have hg:=hT.I V;refine Qf<|Qc<|Qs Z hg Z Z<|QG hf.ev.arr Z<|x (Qr1 Z Z)<|Qw<|(QiC (by rw[ke];rfl)).S ?_;rintro va w7 ⟨kn,ko⟩;have gg:Qu [] ↑w7 va [0,1,2,3,4]:=Qh.ints ko oh oe;have hy:=kn;refine Qb<|Qc<|Q7 (hg.I hy) Z Z<|Qa<|Qw<|(cT1 (hf.I hy) gg (hw.I hy)).S ?_;rintro _ w8 ⟨kq,rs,rw,ro,rp,rfl,h0,_,_,_,_⟩;refine Qa<|QS Z Z<|QS Z Z<|QV (Zt rp8) λb6 w9 kr kt ku=>Q6 (Zt ⟨NB.2,rs,true,rw,ro,true,rp,-1⟩) ku ⟨rfl,h0.1,rfl,h0.2.1,h0.2.2.1,rfl,h0.2.2.2.1,rfl,La⟩ λkv kw kx =>
  Qb ?_
 have kz:sW w8 kv:=kr.O kw kt;have gh:=kq.D kz;have h3:=hy.D gh;refine Qc<|Q7 (hg.I h3) Z Z<|Qa<|Qw<|(cM1 (hf.I h3) (gg.I gh) (hw.I h3)).S ?_;rintro _ j1 ⟨gi,v1,e1,rfl,_,k0⟩;have hn:=h3.D gi;refine Qa<|QS Z Z<|QS Z Z<|QS Z Z<|x Qe<|x Qe<|Qb<|Qc<|Q7 (hg.I hn) Z Z<|Qa<|Qw<|(cX (hf.I hn) (ge.I hn) (hw.I hn)).S ?_;rintro _ k4 ⟨gj,vl,rfl,_,_,gk⟩;have hH:=hn.D gj;have j2:=(gk Z).2.len;have k5:Qu [] ↑k4 vl X:=Qh.ints (gk Z).1 oa oe;refine Qa<|QS Z Z<|QS Z Z<|x Qe<|Qb<|Qd<|Qc<|Q7 (hg.I hH) Z Z<|Qa<|Qa<|Qa<|Qo<|Yj (us:=[[sS 0],[sS E1],[sS 0]]) Z Z oh oe ⟨rfl,rfl,rfl,rfl,rfl,rfl,La⟩ λj3 j4 gl za k6 =>
  Qw<|(qi (es:=[0,E1,0]) ((hf.I hH).I gl) (Qn2 k6) hD hE).S ?_
 rintro _ gm ⟨rfl,k9⟩;have hI:=gl.D k9;have hh:=hH.D hI;refine xe<|Q5 rfl (λgn=>?_) (λgn=>?_)
 ·refine Qc<|Qb<|Qk ⟨[.bool true],Lb,Z,(hs.D V).D hh⟩
 have hJ:E1=0:=QrX hW oe gn;have gq:=k0 hJ (hZ hJ);have ma:Qu [] ↑gm v1 []:=by rw[gq.1];exact Qpu
 have mc:=(gi.D gj).D hI;have hK:=kx.I mc;refine Qf<|Qd<|QX (α:=Bool) [(68,96)] (λz=>[(96,.bool z)]) (λz w'=>w'=gm/\z=false) ol ?_ ?_
 ·refine Qr<|Qa<|xb (J0 Z Z) (λmf=>O1 Z mf) (λ_=>?_);refine Qa<|Qa<|xb (J0 Z Z) (λmg=>O1 hJ mg) (λ_=>?_);refine QB Z<|Qa<|Qa<|xb (J0 Z Z) (λmh=>O1 Z mh) (λ_=>?_);refine QB Z<|Qa<|Qs Z (u:=.bool true) hK Z Z<|xB (b:=!true) (Zi Z) (λmj=>O1 mj oh) (λ_=>?_);refine QB Z<|Qa<|Qs Z (u:=.bool true) hK Z Z<|xB (b:=!true) (Zi Z) (λmo=>O1 mo oh) (λ_=>?_);refine QB Z<|Qa<|Qa<|xB (b:=!e1) (Zi Z) (λmq=>O1 mq (by rw[gq.2];decide)) (λ_=>?_);refine QB Z<|Qa<|Qa<|QG ma Z<|x (Ya Z Z)<|QB Z<|xe ?_;exact⟨false,Lb,Z,Z⟩
 rintro z g ms ⟨rfl,mt⟩;refine Q5 rfl (λmu=>O1 (mt.symm.D mu) oh) (λ_=>?_);refine Qf ?_;have mv:=hf.I hh;have mw:=ge.I hh;have my:=hg.I hh;have mz:=k5.I hI;have m0:=hw.I hh;have m1:=(hs.D V).D hh;have z0:=hC.hl;refine Qd<|Qc<|Qb<|QY (α:=Nat) [(2,2),(13,15),(97,134)] (λz=>[(13,sS z)]) (λz w'=>z<=hi.length/\sW ms w') (λz=>hi.length - z) 0 Lb ⟨Lp _,xd.C _ _⟩ ?_;rintro i g m2 ⟨z1,Y⟩;have gr:=mw.I Y;have h4:=my.I Y;have ho:=mv.I Y;have hL:=mz.I Y;refine Qd<|Ql<|Qa<|QG gr Z<|ZT Z Z<|xe<|Zp rfl (λgs=>?_) (λgs=>?_)
 ·refine Qt ?_;have gt:=m0.I Y;refine Qc<|Q7 h4 Z Z<|Qa<|Qw<|(cT2 ho hL gt).S ?_;rintro _ O ⟨G,ts,tw,to,tp,rfl,h5,_,_,_,_⟩;refine Qa<|QS Z Z<|QS Z Z<|QV (Zt rp8) λb16 hM m3 m4 m5=>Q6 (Zt ⟨NB.2,ts,true,tw,to,true,tp,-1⟩) m5 ⟨Z,h5.1,Z,h5.2.1,h5.2.2.1,Z,h5.2.2.2.1,Z,La⟩ λm6 m7 m8 =>
   Qb ?_
  have m9:sW O m6:=m3.O m7 m4;have hp:=G.D m9;refine Qc<|Q7 (h4.I hp) Z Z<|Qa<|Qw<|(cM2 (ho.I hp) (hL.I hp) (gt.I hp)).S ?_;rintro _ pc ⟨gu,v2,e2,rfl,_,pd⟩;have hN:=hp.D gu;have gv:=Y.D hN;refine Qa<|QS Z Z<|QS Z Z<|QS Z Z<|x Qe<|x Qe<|Qb<|QX (α:=Bool) [(2,2),(148,183)] (λz=>[(2,.bool z)]) (λz w'=>sW pc w'/\z=true) ol ?_ ?_
  ·refine Qr<|Q7 (h4.I hN) Z Z<|Qa<|Qa<|Qo<|Q3 [[sS 0],[sS E2]] λz2 z3 gx z4 pf =>
    Qw<|(qi (es:=[0,E2]) ((ho.I hN).I gx) (Qqq pf) hD hE).S ?_
   rintro z5 w22 ⟨h6,pg⟩;have hq:=gx.D pg;refine Qb7 (decide (3∈[0,E2]) && decide (6<Vg c.V.co)) (λh7=>?_) (λh7=>?_)
   ·rw[h7]at h6;subst h6;refine Qa<|Zs<|Zs<|Zs<|Zs<|Zs<|Zs<|Zs<|Zs<|Zs<|YN<|QB Z<|Qb<|⟨true,Lb,hq,Z⟩
   rw[h7]at h6;subst h6;have hP:E2=0:=QrX hG oe h7;have h8:=m8.I (gu.D hq);have ph:=hK.I (gv.D hq);refine Qa<|Qa<|xb (Zc Z Z) (λ_=>?_) (λpn=>O1 Z pn);refine Qa<|Qa<|xb (Zc Z Z) (λ_=>?_) (λpo=>O1 hP po);refine QB Z<|Qa<|Q9 Z<|xB (b:=true) (Qj (u:=.bool true) h8 Z Z) (λ_=>?_) (λpp=>O1 pp oh);refine QB Z<|Qa<|Q9 Z<|xB (b:=true) (Qj (u:=.bool true) h8 Z Z) (λ_=>?_) (λpt=>O1 pt oh);refine QB Z<|Qa<|Qs Z (u:=.bool NB.2) h8 Z Z<|Qs Z (u:=.bool NB.2) ph Z Z<|xB (b:=NB.2 == NB.2) (QeR Z Z) (λ_=>?_) (λpu=>O1 pu (by rw[beq_self_eq_true];decide));refine QB Z<|Qa<|Qs Z (u:=.bool NB.2) h8 Z Z<|xB (b:=!NB.2) (Zi Z) (λgy=>?_) (λgy=>?_)
   ·refine Qa<|Kd<|QB Z<|QB Z<|QB Z<|Qb<|⟨true,Lb,hq,Z⟩
   have pw:NB.2=true:=by simpa using gy
   have pz:=pd hP (hv hP pw);refine Qa<|Qa<|QB Z<|QB Z<|QB Z<|Qb<|⟨e2,Lb,hq,pz.2⟩
  rintro z g w23 ⟨p0,p4⟩;exact Qk ⟨[.bool z],Lb,by rw[p4];rfl,(m1.D gv).D p0⟩
 have I:i<hi.length:=by have h101:(i:Int)<(hi.length:Int):=gs;omega
 have p5:=hY (hi[i]'I) (Lm I);refine Qf<|Qd<|Qn<|Qc<|Qb<|Qd<|Qc<|Qb ?_;have gz:=ho.co.arr;refine QY (α:=Bool×Nat) [(14,15),(103,124)] (λz=>[(14,.bool z.1),(15,sS z.2)]) (λz w'=>sW m2 w'/\z.2<=c.co.length/\(z.1=true->∃x∈c.V.co,(hi[i]'I)∈x.a.al)) (λz=>c.co.length - z.2) (false,0) oy ⟨xd.C _ _,Lp _,λe=>O1 e oh⟩ ?_;rintro⟨us,k⟩ g O ⟨G,hk17,g0⟩;have g2:=h4.I G;have p6:=hL.I G;have g3:=gr.I G;refine Qd<|Ql<|Qs Z g2 Z Z<|QG (gz.I G) Z<|ZT Z Z<|xe<|Zp rfl (λg4=>?_) (λg4=>?_)
 ·refine Qt<|QX (α:=Bool) [(125,134)] (λz=>[(134,.bool z)]) (λz w'=>w'=O/\z=false) ol ?_ ?_
  ·refine Qr<|xB (b:=us) Vk (λg5=>?_) (λg5=>?_)
   ·have p7:(hi[i]'I)∈X:=p5 (g0 g5);have hhas:=y8 p6 (hi[i]'I);rw[O2 p7]at hhas;refine Qa<|Qa<|Qa<|Qa<|xii (i:=i) g3 Z Z I λa130 p8=>x (Qq p8 Z)<|Qw<|hhas.S ?_;rintro _ hM ⟨rfl,rfl⟩;refine x (Zi Z)<|QB Z<|xe ?_;exact⟨false,Lb,Z,Z⟩
   refine Qa<|Zs<|Zs<|Kd<|QB Z<|xe ?_;exact⟨false,Lb,Z,Z⟩
  rintro z g hM ⟨rfl,p9⟩;refine Q5 Z (λqf=>O1 (p9.symm.D qf) oh) (λ_=>?_);refine Qf<|Qr<|Qa<|QC Z Z<|Qb<|⟨i+1,by show hi.length - (i+1)<hi.length - i;omega,Lb,I,Y.D G⟩
 have U:k<c.co.length:=by have h108:(k:Int)<(c.co.length:Int):=g4;omega
 refine Qf ?_;have hd:sW O { O with drawn:=O.drawn+1 }:=xd.Y _ _
 refine Qd<|Qn<|ZK [] (Xj 0 16 [13])<|pB (b:=us) Qx (λg6=>?_) (λg6=>?_)
 ·refine p Qx<|ps<|ps<|ps<|ps<|ps<|ps<|ps<|ps<|ps<|ps<|ps<|ps<|p (YS Z)<|p ZH <|
   pe ?_
  refine Qr<|Qa<|QC Z Z<|Qb<|⟨(us,k+1),by show c.co.length - (k+1)<c.co.length - k;omega,⟨O0 Value.bool g6.symm,Z,La⟩,G.D hd,U,g0⟩
 have g7:=Lm U;have qj:=((ho.co.each (c.co[k]'U) g7).al.I G).I hd;refine p Qx<|p (QH Z)<|pq (λ_ hc=>Qj (g2.I hc) Z Z)<|p Qx<|Lg.pig (g:=Zm) (i:=k) Z (λ_=>Z) (gz.I G) Z Z U λa115 ql =>
  p (λ_=>ZB Z)<|p (λ_=>ZB Z)<|pq (λ_ hc=>Qq ((ql.fld 1 (c.co[k]'U).p.va Z).I hc) Z)<|p Qx<|p Qx <|
  pii (i:=i) Z g3 Z Z I λa121 q4=>pq (λ_ hc=>Qq (q4.I hc) Z)<|pk<|xg<|(y8 (w:={ O with drawn:=O.drawn+1 }) qj (hi[i]'I)).S ?_
 rintro _ hM ⟨rfl,rfl⟩;refine⟨hd,?_⟩;refine p (YS Z)<|p ZH<|pe ?_;refine Qr<|Qa<|QC Z Z<|Qb<|⟨(decide ((hi[i]'I)∈(c.co[k]'U).p.a.al),k+1),by show c.co.length - (k+1)<c.co.length - k;omega,oy,G.D hd,U,λe=>⟨(c.co[k]'U).it,LL g7,O3 e⟩⟩
open Go.RowKit
theorem Xs {a b:Bool}(h1:a=true)(h2:b=true):(a && b)=true:=by rw[h1,h2];rfl
theorem QbS {f:FuncId}{s:ChangeSpec}{c:OpenClaim}(h1:(c.wf (OpenSpec.ofChange s))=true)(h2:(laidOutB P)=true)(G:(mapsRowed P)=true)(I:(fn.params.all (P.readableRec ·))=true)(J:(namedTie P c.named s.vars)=true)(O:((c.stops == []))=true)(U:((P.stops == []))=true)(V:((c.knobs == []))=true)(Y:((P.stopKnobs == []))=true)(ha:((c.inPlace == P.inPlace f))=true)(he:((c.unfollowed == P.unfollowed f))=true)(hf:((c.recurses == P.recurses f))=true)(hg:((c.named == P.varsNamed f))=true)(hh:((c.maps == (fn.params.toList++s.plain.varTypes P).any (P.mapsRec ·)))=true)(hj:((c.ifaces == (fn.params.toList++s.plain.varTypes P).any (P.ifacesRec ·)))=true)(hk:((c.mapsOut == P.mapsAmong fn.resultTypes.toList))=true)(hm:((c.loops == (fn.params.toList++s.plain.varTypes P).any (P.loopsFrom ·)))=true)(hn:((c.wideKeys == (fn.params.toList++s.plain.varTypes P++fn.resultTypes.toList).any (P.wideKeysFrom ·)))=true)(ho:(s.vars.all (P.varReadable ·))=true)(hp:(fn.resultTypes.all (λt=>P.readableRec t && decide (t<P.types.size)))=true)(hq:((c.ifacesOut == fn.resultTypes.toList.any (P.ifacesRec ·)))=true)(hr:((c.loopsOut == fn.resultTypes.toList.any (P.loopsFrom ·)))=true)(hs:((c.plainKeys == P.plainKeys))=true)(hu:(c.shortTexts.isNone)=true)(hv:(P.stopsHeard)=true)(hw:(P.mayEnter)=true)(hy:((c.lifted == P.liftsFinal))=true)(hz:((P.make == some c.make))=true)(h0:((c.kinds == (if c.domain.isEmpty then[]else fn.params.toList.map λt=>match P.underlying t with|some (.int k)=>some k|_=>none)))=true)(hA:((c.pinned == c.pinnedBy))=true)(hB:((c.veiled == (fn.params.toList++s.plain.varTypes P++fn.resultTypes.toList).any (P.veiledRec ·)))=true)(hC:(c.veiledFits P fn.params.toList (fn.params.toList++s.plain.varTypes P++fn.resultTypes.toList))=true):joinedFacts P f fn s c=true:=by
 unfold joinedFacts;exact(Xs (Xs (Xs (Xs (Xs (Xs (Xs (Xs (Xs (Xs (Xs (Xs (Xs (Xs (Xs (Xs (Xs (Xs (Xs (Xs (Xs (Xs (Xs (Xs (Xs (Xs (Xs (Xs (Xs (Xs (Xs h1 h2) G) I) J) O) U) V) Y) ha) he) hf) hg) hh) hj) hk) hm) hn) ho) hp) hq) hr) hs) hu) hv) hw) hy) hz) h0) hA) hB) hC)
theorem yV:laidOutB sV=true:=od
theorem QkU:mapsRowed sV=true:=od
theorem QkW:sV.stopsHeard=true:=od
theorem QkX:sV.mayEnter=true:=od
theorem QkV:(false == sV.liftsFinal)=true:=od
theorem Qoh:(sV.make == some Make.cut)=true:=od
theorem Qol:(Rows.hierarchyAllRow.inPlace == sV.inPlace 5)=true:=od
theorem Qok:(Rows.hierarchyAllRow.unfollowed == sV.unfollowed 5)=true:=od
theorem Qoj:(Rows.hierarchyAllRow.recurses == sV.recurses 5)=true:=od
theorem Qoi:(Rows.hierarchyAllRow.named == sV.varsNamed 5)=true:=od
theorem QqE:Rows.hierarchyAllRow.wfByText (OpenSpec.ofChange Rows.hierarchyAllSpec)=true:=od
theorem QqH:Tryz.pinned.checked.prog.mainIs=some (true, "7e6c111e63cd6b879c1f82077465bee9620edb040a7287706e5c7dbd129b5c95".toList):=od
theorem QqG:sV.funcNamed "overseer/overseerlaw36.HierarchyAll" = some 5:=od
theorem QqI:false=sV.looks []:=od
theorem QqF:([38].all λu=>!sV.wantsStandIn u)=true:=od
theorem QqJ:false=Rows.hierarchyAllRow.goesBy Tryz.pinned.checked.prog:=od
open Go.ChangeShapes Go.WideShapes
section
variable {H:Type}{enc:TypeId×O7->H}{W:O6}{b0:Nat}{sp:Nat->Bool}{held:Bool}
theorem QiE {v:O7}{d:DataW H}{ps:List MemPlace}{t tq:TypeId}{fs hh:Array Field}{G g1:Field}(I:P.underlying t=some (.struct fs))(hj:P.underlying tq=some (.struct hh))(hc:P.cellsOf t=153)(J:P.cellsOf tq=152)
  (O:(P.cellTypes P.depth t).map oY=some 153) (U:(P.cellTypes P.depth t).map (·.take 152)=P.cellTypes P.depth tq) (f0:fs[0]?=some G) (f1:fs[1]?=some g1) (t0:G.type=tq) (o0:G.offset=0) (o1:g1.offset=152) (c1:P.cellsOf g1.type=1) (k1:kT P .u8 5 g1.type=true)
  (V:Value.okWide P W .any base t v) (h:DataW.Trod enc P W b0 sp held t v d ps):∃(l:LV) (hb:Nat),v=.agg (l++[Value.int .u8 (hb:Int)]).toArray/\hb<256/\Value.okWide P W .any base tq (sT l)/\∃d' ps',DataW.Trod enc P W b0 sp held tq (sT l) d' ps':=by
 simp only[Value.okWide,I]at V;obtain⟨cs,rfl,Y,ts,hk,hy,hm⟩:=V;rw[hc]at Y;obtain⟨l⟩:=cs;have hl:l.length=153:=Y;obtain⟨fuel,hf⟩:=h;obtain⟨xs,m,_,_,_,hn,ho⟩:=DataW.trod_struct I hf;have ha:∀(i:Nat) (f:Field),fs[i]?=some f->DataW.trod enc P W b0 sp held m f.type ((l.drop f.offset).take (P.cellsOf f.type))=xs[i]?:=ho;have h0:0<fs.size:=(LM.1 f0).1;obtain⟨z,hz⟩:∃z,xs[0]?=some z:=⟨xs[0]'oa,LE oa⟩;have e0:=ha 0 G f0;rw[t0,o0,J,NQ,hz]at e0;obtain⟨c,he⟩:∃c,l[152]?=some c:=⟨l[152]'oa,LE oa⟩;obtain⟨hb,rfl,hp⟩:=QeE (VO hn ha f1 k1 oa oa he);have hq:l=l.take 152++[Value.int .u8 (hb:Int)]:=by
  have h1:l.drop 152=[Value.int .u8 (hb:Int)]:=by
   apply Nw;intro i;rw[MT]
   match i with
   | 0=>exact he
   | i+1=>rw[Mk oa];rfl
  rw[<-h1,ML]
 refine⟨l.take 152,hb,by show Value.agg l.toArray=_;rw[<-hq],hp,?_,z.1,z.2,m,e0⟩;rw[hk]at U O;have hr:ts.length=153:=Option.some.inj O;simp only[Value.okWide,hj];refine⟨(l.take 152).toArray,Z,by rw[J];simp;omega,ts.take 152,U.symm,⟨1,by simp;omega⟩,λi v hv=>?_⟩;have hi:i<152:=by
  have:=(LM.1 hv).1;simp at this;omega
 have hs:l[i]?=some v:=by
  have h2:(l.take 152)[i]?=some v:=by simpa using hv
  rwa [L6,OZ hi]at h2
 obtain⟨u,hg,hw⟩:=hm i v (ox hs);rw[hr,NS (show i<153 by omega)]at hg;refine⟨u,?_,hw⟩;rw[show(ts.take 152).length=152 by simp;omega,NS hi,L6,OZ hi];exact hg
end
theorem QsO {H:Type}{enc:TypeId×O7->H}{W:O6}{b0:Nat}{sp:Nat->Bool}{held:Bool}{v:O7}{d:DataW H}{ps:List MemPlace}(G:Value.okWide sV W .any base 38 v)(h:DataW.Trod enc sV W b0 sp held 38 v d ps):
  ∃(l:PwV) (hb:Nat),v=.agg (Z6 l++[Value.int .u8 (hb:Int)]).toArray/\hb<256/\PwA W l:=by
 obtain⟨cs,hb,rfl,I,J,O,U,ht⟩:=QiE (tq:=36) underlying38 underlying36 od od od od Z Z Z Z Z od od G h;obtain⟨l,h1,h2⟩:=QsN J ht;refine⟨l,hb,?_,I,h2⟩;have:=O0 Array.toList (Value.agg.inj h1);rw[show cs=Z6 l from this]
end Go.Lg
