/- Merged out of 24 texts. -/
import Derived.Test.YtpfnhheoeaiomaaGreatDoorPee
import Derived.Test.YtpfnhheoeaiomaaGreatDoorRows
import Derived.JoinedOf
import Derived.Test.YtpfnhheoeaiomaaGreatDoorCards
import Derived.SevenTiedAt
set_option maxHeartbeats 40000000
set_option maxRecDepth 100000
set_option linter.all false
open Go Go.Lg
open Go.Value renaming int->oD
open Go.IntKind renaming i64->oE
open _root_.List renaming replicate->oI,length_singleton->oL,length_cons->oS,length->oY,getElem_replicate->Oy
open _root_.Decidable renaming byContradiction->oW
open _root_.Nat renaming pow_succ->ON,succ_mul->OV
open Go renaming World->O7,Value->O8,Operand->O9,Program->xd
open Go.Proofs Go.Proofs.Tryz
open Go.Proofs.Tryz renaming prog->sV
open Go.Proofs.YtpfnhheoeaiomaaGreatDoor
variable {w w':O7}{L ds ns:LN}{n i t sz base j T N G m g id B kt U:Nat}{a A:Qz}{cs us cap:LV}{α β:Type}{y:O9}{ve z vs vk vx vr vo vh:O8}{aa:List Qz}{f:Fr}{P:xd}{o ul un u r hi est q rs:LI}{s kd:Int}{fn:Func}{c:CL}{es ed:List Ed}{d:xK}{k':IntKind}{R:RpV}
namespace Go.Lg
inductive Um (ok:Ed->Bool) (a:Qz):Int->Int->Prop
 | z {x:Int}:Um ok a x x
 | st {x y z v:Int}:(x,v,y)∈a.ed->ok (x,v,y)=true->Um ok a y z->Um ok a x z
theorem Um.snoc {ok:Ed->Bool}{x y z v:Int}(h:Um ok a x y)(G:(y,v,z)∈a.ed)(I:ok (y,v,z)=true):Um ok a x z:=by
 induction h with
 | z=>exact .st G I .z
 | st h1 h2 _ ih=>exact .st h1 h2 (ih G I)
theorem Um.imp {ok G:Ed->Bool}(hi:∀e∈a.ed,ok e=true->G e=true){x y:Int}(h:Um ok a x y):Um G a x y:=by
 induction h with
 | z=>exact .z
 | st h1 h2 _ ih=>exact .st h1 (hi _ h1 h2) ih
theorem Um.to {ok:Ed->Bool}{S:Int->Prop}(hS:∀e∈a.ed,S e.1->ok e=true->S e.2.2){x y:Int}(h:Um ok a x y)(hx:S x):S y:=by
 induction h with
 | z=>exact hx
 | st h1 h2 _ ih=>exact ih (hS _ h1 hx h2)
theorem Vo {α γ κ:Type}{st:List α->γ->List α}{key:α->κ}{g:γ->κ->Prop}(I:∀l v,∃r,st l v=l++r)(J:∀l v k,g v k->k∈(st l v).map key):∀(vs:List γ) (l:List α),(∃r,vs.foldl st l=l++r)/\∀v∈vs,∀k,g v k->k∈(vs.foldl st l).map key
 | [],l=>⟨⟨[],oe⟩,λv U=>by cases U⟩
 | v::vs,l=>by
  obtain⟨V,h1⟩:=I l v;obtain⟨⟨r2,h2⟩,Y⟩:=Vo I J vs (st l v);rw[LP];refine⟨⟨V++r2,by rw[h2,h1,LB]⟩,λw G k O=>?_⟩;rcases Ll.1 G with rfl|G
  ·rw[h2,Lv];exact LH _ (J l w k O)
  exact Y w G k O
theorem Kx {α γ:Type}{st:List α->γ->List α}{Inv:List α->Prop}:∀(vs:List γ) (l:List α),(∀l v,v∈vs->Inv l->Inv (st l v))->Inv l->Inv (vs.foldl st l)
 | [],_,_,h=>h
 | v::vs,l,G,h=>Kx vs (st l v) (λl w I=>G l w (Lj _ I)) (G l v Lh h)
theorem Qmb (ok:Ed->Bool)(es:List Ed)(l:LI):(∃r,es.foldl (js ok) l=l++r)/\∀e∈es,∀k,(ok e=true/\k=e.2.2)->k∈(es.foldl (js ok) l).map _root_.id :=
 Vo (g:=λ(e:Ed) k=>ok e=true/\k=e.2.2) (key:=_root_.id) (λl e=>by
  unfold js;split
  ·exact⟨_,Z⟩
  ·exact⟨[],oe⟩) (λl e k G=>by
  rw[List.map_id,G.2];unfold js;by_cases h:e.2.2∈l
  ·rw[OZ (λh2=>h2.2 h)];exact h
  rw[O0 ⟨G.1,h⟩];simp) es l
theorem Ql9 {ok:Ed->Bool}{a:Qz}{P:Int->Prop}(G:∀e∈a.ed,P e.1->ok e=true->P e.2.2):∀(f i:Nat) (l:LI),(∀x∈l,P x)->∀x∈bfs ok a.ed f i l,P x
 | 0,_,_,h=>h
 | f+1,i,l,h=>by
  rw[bfs];split
  ·rename_i hi;refine Ql9 G f (i+1) _ ?_;have hc:P (xj l i):=h _ (by rw[<-Zn hi];exact Lm hi);refine Kx (Inv:=λl=>∀x∈l,P x) _ _ (λl e I hl x hx=>?_) h;unfold js at hx;split at hx
   ·rename_i h1;rcases Lk.1 hx with hx|hx
    ·exact hl x hx
    rw[Lc.1 hx];obtain⟨h2,J⟩:=LD.1 I;exact G e h2 (by rw[O4 J];exact hc) h1.1
   exact hl x hx
  exact h
theorem Qma {ok:Ed->Bool}{a:Qz}{n:Nat}(ht:∀e∈a.ed,0<=e.2.2/\e.2.2<(n:Int)){l0:LI}:∀(f i:Nat) (l:LI),Ur n l0 l->l0.length+n<=i+f->(∀k,k<i->∀e∈a.ed,l[k]?=some e.1->ok e=true->e.2.2∈l) ->
  Ur n l0 (bfs ok a.ed f i l)/\(∃r,bfs ok a.ed f i l=l++r)/\∀e∈a.ed,e.1∈bfs ok a.ed f i l->ok e=true->e.2.2∈bfs ok a.ed f i l
 | 0,i,l,I,hf,hc=>⟨I,⟨[],by simp[bfs]⟩,λe G V J=>by
  obtain⟨k,Y,e1⟩:=LQ (show e.1∈l from V);have:=I.len;exact hc k oa e G (by rw[LE Y,e1]) J⟩
 | f+1,i,l,I,hf,hc=>by
  rw[bfs];split
  ·rename_i hi;obtain⟨⟨r,O⟩,hh⟩:=Qmb ok (QK a.ed (xj l i)) l;have ha:=I.edges ok (QK a.ed (xj l i)) λe G=>ht e (LD.1 G).1;obtain⟨g1,⟨r2,g2⟩,g3⟩:=Qma ht f (i+1) _ ha oa λk J e G U hok=>by
    by_cases hj:k=i
    ·subst hj;rw[O,LT hi,LE hi,Zn hi]at U;have:=hh e (LD.2 ⟨G,O3 (Option.some.inj U).symm⟩) e.2.2 ⟨hok,Z⟩
     rwa [List.map_id]at this
    rw[O,LT oa]at U;rw[O];exact LH _ (hc k oa e G U hok)
   exact⟨g1,⟨r++r2,by rw[g2,O,LB]⟩,g3⟩
  rename_i hi;refine⟨I,⟨[],oe⟩,λe G V J=>?_⟩;obtain⟨k,Y,e1⟩:=LQ (show e.1∈l from V);exact hc k oa e G (by rw[LE Y,e1]) J
theorem Qb6 (ho:QO a){ok:Ed->Bool}{l:LI}(hl:∀x∈l,0<=x/\x<a.st){y:Int}:y∈cls ok a l↔∃x∈l,Um ok a x y:=by
 have Y:a.st=(a.st.toNat:Int):=by have:=ho.st0;omega
 have ht:∀e∈a.ed,0<=e.2.2/\e.2.2<(a.st.toNat:Int):=λe G=>oq (ho.ed e G).2.2.2
 unfold cls;rw[zF];obtain⟨g1,⟨r,O⟩,U⟩:=Qma (ok:=ok) ht (l.length+a.st.toNat) 0 l (Ur.zero _ _) oa λk I=>oa
 constructor
 ·rintro⟨_,h2⟩;exact Ql9 (P:=λz=>∃x∈l,Um ok a x z) (λe G ⟨x,hx,J⟩ I=>⟨x,hx,J.snoc G I⟩) _ _ _ (λx hx=>⟨x,hx,.z⟩) y h2
 rintro⟨x,hx,h2⟩;have J:y∈bfs ok a.ed (l.length+a.st.toNat) 0 l:=h2.to (S:=λz=>z∈bfs ok a.ed (l.length+a.st.toNat) 0 l) (λe G V I=>U e G V I) (by rw[O];exact LH _ hx);exact⟨g1.all (λx hx=>oq (hl x hx)) y J,J⟩
theorem Qb0 (l:LI)(x:Int):x∈ddp l↔x∈l:=by
 unfold ddp;have key:∀(l m:LI),x∈l.foldl zV m↔x∈m\/x∈l:=by
  intro l;induction l with
  | nil=>intro m;simp
  | cons y l ih =>
   intro m;rw[LP,ih];unfold zV;split
   ·rw[Lk,Lc,Ll,or_assoc]
   rename_i h;have G:y∈m:=Ly.1 h;rw[Ll];constructor
   ·rintro(h1|h1)
    ·exact .inl h1
    exact .inr (.inr h1)
   rintro(h1|h1|h1)
   ·exact .inl h1
   ·exact .inl (h1 ▸ G)
   exact .inr h1
 rw[key];simp
theorem QbK {l:LI}{v x:Int}:x∈hop ed l v↔∃s∈l,(s,v,x)∈ed:=by
 unfold hop;rw[Mg];constructor
 ·rintro⟨s,G,hx⟩;obtain⟨⟨p,q,r⟩,I,rfl⟩:=Lu.1 hx;obtain⟨h1,h2⟩:=LD.1 I;obtain⟨J,O⟩:=LD.1 h1;have e1:q=v:=O4 h2;have e2:p=s:=O4 O;subst e1 e2;exact⟨p,G,J⟩
 rintro⟨s,G,I⟩;exact⟨s,G,Lu.2 ⟨(s,v,x),LD.2 ⟨LD.2 ⟨I,O3 Z⟩,O3 Z⟩,Z⟩⟩
section
variable (ho:QO a)
include ho
theorem yQ {l:LI}{v:Int}:∀x∈hop a.ed l v,0<=x/\x<a.st:=λx hx=>by
 obtain⟨s,_,G⟩:=QbK.1 hx;exact(ho.ed _ G).2.2.2
theorem QgA:∀e∈a.ed,okR (ers a o) e=Ue o un false e:=λe G=>by
 have I:=(ho.ed e G).2.2.1;unfold okR Ue ers;by_cases h:e.2.1∈o
 ·simp[h]
 simp[h,I]
theorem Qga {l:LI}(hl:∀x∈l,0<=x/\x<a.st):rch a l (ers a o)=vcl a o un l false:=by
 unfold rch vcl;refine US (Ut _ _) (Ut _ _) λx=>?_;show x∈cls _ a _↔x∈cls _ a _;rw[Qb6 ho (λy G=>hl y ((Qb0 l y).1 G)),Qb6 ho hl];constructor
 ·rintro⟨y,G,h⟩;exact⟨y,(Qb0 l y).1 G,h.imp λe I h2=>by rw[<-QgA ho e I];exact h2⟩
 rintro⟨y,G,h⟩;exact⟨y,(Qb0 l y).2 G,h.imp λe I h2=>by rw[QgA (un:=un) ho e I];exact h2⟩
theorem Qng (est:LI)(v:Int):pnx a (ers a o) est v=vnx a o un est v:=Qga ho (yQ ho)
theorem KK {l:LI}(hl:∀x∈l,0<=x/\x<a.st){b:Bool}{y:Int}:y∈vcl a o un l b↔∃x∈l,Um (Ue o un b) a x y:=Qb6 ho hl
theorem JT {v y:Int}:y∈vnx a o un est v↔∃x∈est,∃z,(x,v,z)∈a.ed/\Um (Ue o un false) a z y:=by
 unfold vnx;rw[KK ho (yQ ho)];constructor
 ·rintro⟨z,I,h⟩;obtain⟨x,hx,G⟩:=QbK.1 I;exact⟨x,hx,z,G,h⟩
 rintro⟨x,hx,z,G,h⟩;exact⟨z,QbK.2 ⟨x,hx,G⟩,h⟩
end
theorem Qgo {e:Ed}:Ue o un false e=true↔e.2.1∉o:=by unfold Ue;simp
theorem Qj0 {e:Ed}:Ue o un true e=true↔e.2.1∉o/\e.2.1∈un:=by unfold Ue;simp
def vns (a:Qz)(o un:LI):LI->LI->LI
 | est,[]=>est
 | est,v::t=>vns a o un (vnx a o un est v) t
inductive Jl (a:Qz) (o:LI):Int->LI->Prop
 | mk {x:Int}:x∈a.mr->Jl a o x []
 | lo {x v y:Int} {t:LI}:(x,v,y)∈a.ed->v∉o->Jl a o y t->Jl a o x t
 | hi {x v y:Int} {t:LI}:(x,v,y)∈a.ed->v∈o->Jl a o y t->Jl a o x (v::t)
theorem Jl.pre {x y:Int}{t:LI}(h:Um (Ue o un false) a x y)(G:Jl a o y t):Jl a o x t:=by
 induction h with
 | z=>exact G
 | st h1 h2 _ ih=>exact .lo h1 (Qgo.1 h2) (ih G)
theorem Jl.kp (ho:QO a){x:Int}{t:LI}(h:Jl a o x t):∀v∈t,v∈kpt a o:=by
 induction h with
 | mk _=>intro v I;cases I
 | lo _ _ _ ih=>exact ih
 | hi h1 h2 _ ih =>
  intro w G;rcases Ll.1 G with rfl|G
  ·exact LD.2 ⟨(ho.ed _ h1).2.2.1,O3 h2⟩
  exact ih w G
theorem UL {l:LI}:mkd a l=true↔∃x∈l,x∈a.mr:=by
 unfold mkd;rw[MG];exact⟨λ⟨x,h1,h2⟩=>⟨x,h1,O4 h2⟩,λ⟨x,h1,h2⟩=>⟨x,h1,O3 h2⟩⟩
section
variable (ho:QO a)
include ho
theorem Qgy:∀(t F:LI),(∀v∈t,v∈kpt a o)->mkd a (vns a o un F t)=true->∃x∈F,Jl a o x t
 | [],F,_,h=>by
  obtain⟨x,h1,h2⟩:=UL.1 h;exact⟨x,h1,.mk h2⟩
 | v::t,F,G,h=>by
  obtain⟨y,I,J⟩:=Qgy t (vnx a o un F v) (λw O=>G w (Lj _ O)) h;obtain⟨x,hx,z,U,hl⟩:=(JT ho).1 I;exact⟨x,hx,.hi U (O4 (LD.1 (G v Lh)).2) (J.pre hl)⟩
def Lcl (a:Qz)(o:LI)(est:LI):Prop:=∀x v y,x∈est->(x,v,y)∈a.ed->v∉o->y∈est
theorem Qa4 {l:LI}(hl:∀x∈l,0<=x/\x<a.st):Lcl a o (vcl a o un l false):=λx v y hx G I=>by
 obtain⟨z,J,h⟩:=(KK ho hl).1 hx;exact(KK ho hl).2 ⟨z,J,h.snoc G (Qgo.2 I)⟩
theorem Qnn {x:Int}{t:LI}(h:Jl a o x t):∀E:LI,x∈E->Lcl a o E->mkd a (vns a o un E t)=true:=by
 induction h with
 | mk h=>intro E hx _;exact UL.2 ⟨_,hx,h⟩
 | lo h1 h2 _ ih=>intro E hx hE;exact ih E (hE _ _ _ hx h1 h2) hE
 | hi h1 h2 _ ih=>intro E hx hE;exact ih _ ((JT ho).2 ⟨_,hx,_,h1,.z⟩) (Qa4 ho (yQ ho))
end
inductive Pr (a:Qz) (o un:LI):Int->LI->Prop
 | z:Pr a o un 0 (vcl a o un [0] false)
 | lo {x v y:Int} {est:LI}:Pr a o un x est->(x,v,y)∈a.ed->v∉o->Pr a o un y est
 | hi {x v y:Int} {est:LI}:Pr a o un x est->(x,v,y)∈a.ed->v∈o->Pr a o un y (vnx a o un est v)
structure QtK (a:Qz)(o:LI)(x:Int)(est:LI):Prop where
 m:x∈est
 c:Lcl a o est
 s:Ss a.st.toNat est
 r:∀y∈est,Um (λ_=>true) a 0 y
theorem Pr.ok (ho:QO a)(V:0<a.st){x:Int}(h:Pr a o un x est):QtK a o x est:=by
 have G:∀x∈[(0:Int)],0<=x/\x<a.st:=λx hx=>by rw[Lc.1 hx];omega
 have tr:∀{x y:Int},Um (λ_=>true) a 0 x->Um (Ue o un false) a x y->Um (λ_=>true) a 0 y:=λ{x y} h1 h2=>by
  induction h2 with
  | z=>exact h1
  | st J _ _ ih=>exact ih (h1.snoc J Z)
 induction h with
 | z=>exact⟨(KK ho G).2 ⟨0,oe,.z⟩,Qa4 ho G,V6 _ _ _ _ _,λy I=>by
   obtain⟨z,O,h1⟩:=(KK ho G).1 I;rw[Lc.1 O]at h1;exact tr .z h1⟩
 | lo _ h1 h2 ih=>exact⟨ih.c _ _ _ ih.m h1 h2,ih.c,ih.s,ih.r⟩
 | hi _ h1 h2 ih=>exact⟨(JT ho).2 ⟨_,ih.m,_,h1,.z⟩,Qa4 ho (yQ ho),qh _ _ _ _ _,λy I=>by
   obtain⟨x,hx,z,U,hl⟩:=(JT ho).1 I;exact tr ((ih.r x hx).snoc U Z) hl⟩
theorem VC {α β:Type}{L:Nat->Nat->List α->Option β}{tst:α->Prop}{ad:α->List α->List α}{Inv:List α->Prop}{N:Nat}
  (I:∀f i l x,l[i]?=some x->L (f+1) i l=none->tst x/\L f (i+1) (ad x l)=none) (J:∀x l,∃r,ad x l=l++r) (hi:∀x l,Inv l->x∈l->Inv (ad x l)) (O:∀l,Inv l->l.length<=N):
  ∀(f i:Nat) (l:List α),Inv l->N<i+f->L f i l=none->∃l2,(∃r,l2=l++r)/\∀k x,i<=k->l2[k]?=some x->tst x/\∃l' r',l2=ad x l'++r'
 | 0,i,l,h,Y,_=>⟨l,⟨[],oe⟩,λk x U e=>by
  have:=O l h;rw[Mj oa]at e;cases e⟩
 | f+1,i,l,h,Y,hn=>by
  cases hx:l[i]? with
  | none=>exact⟨l,⟨[],oe⟩,λk x U e=>by
    have:=Nm.1 hx;rw[Mj oa]at e;cases e⟩
  | some x =>
   obtain⟨h1,h2⟩:=I f i l x hx hn;have hm:=Mr hx;obtain⟨l2,⟨r,G⟩,h3⟩:=VC I J hi O f (i+1) (ad x l) (hi x l h hm) oa h2;obtain⟨r1,V⟩:=J x l;refine⟨l2,⟨r1++r,by rw[G,V,LB]⟩,λk y U e=>?_⟩;by_cases ha:k=i
   ·subst ha;have he:=(Ml.1 hx).1;rw[G,V,LB,LT he,hx]at e;rw[<-Option.some.inj e];exact⟨h1,l,r,G⟩
   exact h3 k y oa e
theorem Qjg {l2 l:List α}{tst:α->Prop}{ad:α->List α->List α}(h:(∃r,l2=l++r)/\∀k x,0<=k->l2[k]?=some x->tst x/\∃l' r',l2=ad x l'++r'):(∀x∈l,x∈l2)/\∀x∈l2,tst x/\∃l' r',l2=ad x l'++r':=by
 obtain⟨⟨r,G⟩,h2⟩:=h;refine⟨λx hx=>by rw[G];exact LH _ hx,λx hx=>?_⟩;obtain⟨k,I,e⟩:=LQ hx;exact h2 k x (Lp _) (by rw[LE I,e])
def kD (d:Dq):LI×LI:=(d.1,d.2.1)
theorem QdG (x:Dq)(vs:LI)(l:List Dq):(∃r,vs.foldl (dfE a o un x) l=l++r)/\∀v∈vs,∀k,((vnx a o un x.1 v).length+(vnx a o un x.2.1 v).length > 0/\k=(vnx a o un x.1 v,vnx a o un x.2.1 v))->k∈(vs.foldl (dfE a o un x) l).map kD :=
 Vo (g:=λv k=>(vnx a o un x.1 v).length+(vnx a o un x.2.1 v).length > 0/\k=(vnx a o un x.1 v,vnx a o un x.2.1 v)) (λl v=>by
  unfold dfE;split
  ·exact⟨_,Z⟩
  ·exact⟨[],oe⟩) (λl v k G=>by
  rw[G.2];unfold dfE;cases I:Kk l (vnx a o un x.1 v) (vnx a o un x.2.1 v) with
  | true=>rw[OZ (λh=>by cases h.2)];exact VD.1 I
  | false=>rw[O0 ⟨G.1,rfl⟩,Lv];exact Mu _ (Lc.2 Z)) vs l
def QtO (n:Nat)(l:List Dq):Prop:=(l.map kD).Nodup/\∀p∈l.map kD,Ss n p.1/\Ss n p.2
theorem Qly {bad:LI->LI->Bool}{x y:LI}(hx:Ss a.st.toNat x)(O:Ss a.st.toNat y)(h:dff a o un x y bad=none):
  ∃D:LI->LI->Prop,D x y/\(∀E F,D E F->bad E F=false)/\∀E F v,D E F->v∈kpt a o->(vnx a o un E v).length+(vnx a o un F v).length > 0->D (vnx a o un E v) (vnx a o un F v):=by
 unfold dff at h;obtain⟨l2,h2⟩:=VC (L:=dfL a o un bad) (tst:=λx=>bad x.1 x.2.1=false) (ad:=λx l=>(kpt a o).foldl (dfE a o un x) l) (Inv:=QtO a.st.toNat) (N:=4 ^ a.st.toNat)
  (λf i l x hx I=>by
   rw[QbZ hx]at I;split at I
   ·cases I
   rename_i hb;exact⟨eq_false_of_ne_true hb,I⟩)
  (λx l=>(QdG x _ l).1)
  (λx l hl hm=>Kx _ _ (λl v _ hl=>by
   unfold dfE;split
   ·rename_i hc;refine⟨?_,λp G=>?_⟩
    ·rw[Lv];refine Y6 hl.1 λU=>?_;have:=VD.2 U;rw[hc.2]at this;cases this
    rw[Lv]at G;rcases Lk.1 G with G|G
    ·exact hl.2 p G
    rw[Lc.1 G];exact⟨qh _ _ _ _ _,qh _ _ _ _ _⟩
   exact hl) hl)
  (λl hl=>by
   have:=yq _ hl.1 hl.2;rw[Lo,<-Vn]at this;exact this) _ 0 _ ⟨oe,λp G=>by rw[List.mem_singleton.1 G];exact⟨hx,O⟩⟩ oa h
 obtain⟨V,J⟩:=Qjg h2;refine⟨λE F=>(E,F)∈l2.map kD,Lu.2 ⟨_,V _ Lh,Z⟩,λE F hD=>?_,λE F v hD Y G=>?_⟩
 ·obtain⟨d,hd,e⟩:=Lu.1 hD;cases e
  exact(J d hd).1
 obtain⟨d,hd,e⟩:=Lu.1 hD;cases e
 obtain⟨_,l',r',e2⟩:=J d hd;rw[e2,Lv];exact LH _ ((QdG d _ l').2 v Y _ ⟨G,Z⟩)
theorem QiP {t:LI}(ho:QO a):∀{E:LI},mkd a (vns a o un E t)=true->E.length≠0:=by
 induction t with
 | nil =>
  intro E h e;obtain⟨x,hx,_⟩:=UL.1 h;rw[Lt e]at hx;cases hx
 | cons v t ih =>
  intro E h e;refine ih h ?_;refine Nat.eq_zero_of_not_pos λG=>?_;obtain⟨y,I⟩:=Nr G;obtain⟨x,hx,_⟩:=(JT ho).1 I;rw[Lt e]at hx;cases hx
theorem Qna (ho:QO a)(J:Ss a.st.toNat est)(h:rft a o un est s=none):∀t:LI,(∀v∈t,v∈kpt a o)->mkd a (vns a o un est t)=true->mkd a (vns a o un (vcl a o un [s] false) t)=true:=by
 obtain⟨D,h1,h2,O⟩:=Qly J (V6 a o un [s] false) h;have key:∀(t E F:LI),D E F->(∀v∈t,v∈kpt a o)->mkd a (vns a o un E t)=true->mkd a (vns a o un F t)=true:=by
  intro t;induction t with
  | nil =>
   intro E F hD _ G;have:=h2 E F hD;unfold Qah at this;rw[show mkd a E=true from G]at this;show mkd a F=true;simpa using this
  | cons v t ih =>
   intro E F hD I G;refine ih _ _ (O E F v hD (I v Lh) ?_) (λw U=>I w (Lj _ U)) G;have:=QiP ho (t:=t) G;omega
 exact λt I G=>key t _ _ h1 I G
def kP (z:jS):LI×LI:=([z.1],z.2.1)
theorem Qag {l:List jS}{t:LI}:ye l s t=true↔([s],t)∈l.map kP:=by
 unfold ye;rw[MG,Lu];constructor
 ·rintro⟨z,G,h⟩;obtain⟨h1,h2⟩:=O4 h;exact⟨z,G,by unfold kP;rw[h1,h2]⟩
 rintro⟨z,G,h⟩;unfold kP at h;have h1:=O1 Prod.fst h;have h2:=O1 Prod.snd h;exact⟨z,G,O3 ⟨ox h1,h2⟩⟩
theorem Qc7 (x:jS)(es:List Ed)(l:List jS):(∃r,es.foldl (obE a o un x) l=l++r)/\∀e∈es,∀k,k=kP (obN a o un x e)->k∈(es.foldl (obE a o un x) l).map kP :=
 Vo (g:=λ(e:Ed) k=>k=kP (obN a o un x e)) (λl e=>by
  unfold obE;split
  ·exact⟨[],oe⟩
  ·exact⟨_,Z⟩) (λl e k G=>by
  rw[G];unfold obE;split
  ·rename_i I;exact Qag.1 I
  rw[Lv];exact Mu _ (Lc.2 Z)) es l
def QtN (n:Nat)(l:List jS):Prop:=(l.map kP).Nodup/\∀p∈l.map kP,Ss n p.1/\Ss n p.2
theorem Qj1 (ho:QO a)(h0:0<a.st)(h:obs a o un=none):∀x est,Pr a o un x est->rft a o un est x=none:=by
 unfold obs at h;rw[OZ oa]at h;obtain⟨l2,h2⟩:=VC (L:=obL a o un) (tst:=λx=>rft a o un x.2.1 x.1=none) (ad:=λx l=>(QK a.ed x.1).foldl (obE a o un x) l) (Inv:=QtN a.st.toNat) (N:=4 ^ a.st.toNat)
  (λf i l x hx I=>by
   cases Y:rft a o un x.2.1 x.1 with
   | some t=>rw[UF hx Y]at I;cases I
   | none=>rw[UG hx Y]at I;exact⟨Z,I⟩)
  (λx l=>(Qc7 x _ l).1)
  (λx l hl J=>Kx _ _ (λl e O U=>by
   unfold obE;split
   ·exact U
   rename_i hc;have ha:=(ho.ed e (LD.1 O).1).2.2.2;refine⟨?_,λp G=>?_⟩
   ·rw[Lv];exact Y6 U.1 λhk=>hc (Qag.2 hk)
   rw[Lv]at G;rcases Lk.1 G with G|G
   ·exact U.2 p G
   rw[Lc.1 G];refine⟨Ss.one ha.1 (by have:=ha.2;show e.2.2<_;omega),?_⟩;show Ss _ (if e.2.1∈o then vnx a o un x.2.1 e.2.1 else x.2.1)
   split
   ·exact qh _ _ _ _ _
   exact(hl.2 _ (Lu.2 ⟨x,J,Z⟩)).2) hl)
  (λl hl=>by
   have:=yq _ hl.1 hl.2;rw[Lo,<-Vn]at this;exact this) _ 0 _ ⟨oe,λp G=>by rw[List.mem_singleton.1 G];exact⟨Ss.one oa oa,V6 _ _ _ _ _⟩⟩ oa h
 obtain⟨h3,h4⟩:=Qjg h2;have key:∀x est,Pr a o un x est->([x],est)∈l2.map kP:=λx est G=>by
  have go:∀{x v y:Int} {est:LI},([x],est)∈l2.map kP->(x,v,y)∈a.ed->([y],if v∈o then vnx a o un est v else est)∈l2.map kP:=λ{x v y est} J O=>by
   obtain⟨z,V,e⟩:=Lu.1 J;unfold kP at e;have e1:z.1=x:=by simpa using O1 Prod.fst e
   have e2:z.2.1=est:=O1 Prod.snd e;obtain⟨_,l',r',e3⟩:=h4 z V;rw[e3,Lv];refine LH _ ((Qc7 z _ l').2 (x,v,y) (LD.2 ⟨O,O3 e1.symm⟩) _ ?_);unfold kP obN;rw[e2]
  induction G with
  | z=>exact Lu.2 ⟨_,h3 _ Lh,Z⟩
  | lo _ h1 h2 ih=>have:=go ih h1;rwa [OZ h2]at this
  | hi _ h1 h2 ih=>have:=go ih h1;rwa [O0 h2]at this
 intro x est G;obtain⟨z,V,e⟩:=Lu.1 (key x est G);unfold kP at e;have e1:z.1=x:=by simpa using O1 Prod.fst e
 have e2:z.2.1=est:=O1 Prod.snd e;have:=(h4 z V).1
 rwa [e1,e2]at this
theorem QdK (x:Cq)(es:List Ed)(l:List Cq):(∃r,es.foldl (csE x) l=l++r)/\∀e∈es,∀k,k=e.2.2->k∈(es.foldl (csE x) l).map (·.1):=
 Vo (g:=λ(e:Ed) k=>k=e.2.2) (λl e=>by
  unfold csE;split
  ·exact⟨[],oe⟩
  ·exact⟨_,Z⟩) (λl e k G=>by
  rw[G];unfold csE;split
  ·rename_i I;exact I
  rw[Lv];exact Mu _ (Lc.2 Z)) es l
def QtP (n:Nat)(l:List Cq):Prop:=(l.map (·.1)).Nodup/\∀s∈l.map (·.1),0<=s/\s<(n:Int)
theorem QlI (ho:QO a)(h0:0<a.st)(h:cns a o un=none):∀x,Um (λ_=>true) a 0 x->∀v∈a.al,ctd a o un x v=false:=by
 unfold cns at h;rw[OZ oa]at h;obtain⟨l2,h2⟩:=VC (L:=csL a o un) (tst:=λx=>a.al.find? (ctd a o un x.1)=none) (ad:=λx l=>(QK a.ed x.1).foldl (csE x) l) (Inv:=QtP a.st.toNat) (N:=a.st.toNat)
  (λf i l x hx I=>by
   cases Y:a.al.find? (ctd a o un x.1) with
   | some t=>rw[QdI hx Y]at I;cases I
   | none=>rw[QdJ hx Y]at I;exact⟨Z,I⟩)
  (λx l=>(QdK x _ l).1)
  (λx l hl J=>Kx _ _ (λl e O U=>by
   unfold csE;split
   ·exact U
   rename_i hc;have ha:=(ho.ed e (LD.1 O).1).2.2.2;refine⟨?_,λp G=>?_⟩
   ·rw[Lv];exact Y6 U.1 hc
   rw[Lv]at G;rcases Lk.1 G with G|G
   ·exact U.2 p G
   rw[Lc.1 G];have:=ha.2;exact⟨ha.1,by show e.2.2<_;omega⟩) hl)
  (λl hl=>by
   have:=xN a.st.toNat _ hl.1 hl.2
   rwa [Lo]at this) _ 0 _ ⟨oe,λp G=>by rw[List.mem_singleton.1 G];exact⟨MA _,by show(0:Int)<_;omega⟩⟩ oa h
 obtain⟨h3,h4⟩:=Qjg h2;intro x hx v hv;have J:x∈l2.map (·.1):=hx.to (S:=λx=>x∈l2.map (·.1)) (λe O J _=>by
  obtain⟨z,V,e1⟩:=Lu.1 J;obtain⟨_,l',r',e3⟩:=h4 z V;rw[e3,Lv];exact LH _ ((QdK z _ l').2 e (LD.2 ⟨O,O3 e1.symm⟩) _ Z)) (Lu.2 ⟨_,h3 _ Lh,Z⟩)
 obtain⟨z,V,e1⟩:=Lu.1 J;have h5:=(h4 z V).1;rw[List.find?_eq_none]at h5;have:=h5 v hv;rw[show z.1=x from e1]at this;exact eq_false_of_ne_true this
theorem Qge {v:Int}{l:LI}:psb a v l=true↔∃s∈l,∃y,(s,v,y)∈a.ed:=by
 unfold psb;rw[MG];constructor
 ·rintro⟨s,G,h⟩;obtain⟨⟨p,q,r⟩,I,h2⟩:=MG.1 h;obtain⟨J,O⟩:=LD.1 I;have e1:q=v:=O4 h2;have e2:p=s:=O4 O;subst e1 e2;exact⟨p,G,r,J⟩
 rintro⟨s,G,y,I⟩;exact⟨s,G,MG.2 ⟨(s,v,y),LD.2 ⟨I,O3 Z⟩,O3 Z⟩⟩
structure Qch (a:Qz)(o un:LI):Prop where
 h1:∀x est v,Pr a o un x est->v∈kpt a o->v∈un->(vnx a o un est v).length≠0->∃x1,Um (Ue o un true) a x x1/\∃y,(x1,v,y)∈a.ed
 h2:∀x est t,Pr a o un x est->(∀v∈t,v∈kpt a o)->mkd a (vns a o un est t)=true->Jl a o x t
theorem Qch.of (ho:QO a)(J:0<a.st)(h1:obs a o un=none)(h2:cns a o un=none)(hb:∀x,Um (λ_=>true) a 0 x->∃t,Jl a o x t):Qch a o un:=by
 have one:∀{x est},Pr a o un x est->∀y∈[x],0<=y/\y<a.st:=λG y U=>by
  rw[Lc.1 U];have I:=G.ok ho J;have:=I.s.2 _ I.m;omega
 have run:=λx est (G:Pr a o un x est)=>Qna ho (G.ok ho J).s (Qj1 ho J h1 x est G);refine⟨λx est v G V hu hn=>?_,λx est t G I Y=>?_⟩
 ·have I:=G.ok ho J;obtain⟨y,U⟩:=Nr (Nz hn);obtain⟨x2,ha,z,he,hl⟩:=(JT ho).1 U;have hr:Um (λ_=>true) a 0 y:=by
   have h3:=(I.r x2 ha).snoc he Z;have:∀{p q:Int},Um (Ue o un false) a p q->Um (λ_=>true) a 0 p->Um (λ_=>true) a 0 q:=λh4 O=>h4.to (S:=λq=>Um (λ_=>true) a 0 q) (λe he h6 _=>h6.snoc he Z) O;exact this hl h3
  obtain⟨t,ht⟩:=hb y hr;have Y:=Qnn (un:=un) ho ht _ U (Qa4 ho (yQ ho));have h3:=run x est G (v::t) (λw hw=>by
   rcases Ll.1 hw with rfl|hw
   ·exact V
   exact ht.kp ho w hw) Y
  have h4:=QiP ho (t:=t) (E:=vnx a o un (vcl a o un [x] false) v) h3;obtain⟨y2,hh⟩:=Nr (Nz h4);obtain⟨x3,hf,z3,hj,_⟩:=(JT ho).1 hh;have O:=QlI ho J h2 x (I.r x I.m) v (LD.1 V).1;unfold ctd at O;rw[(LD.1 V).2,O3 hu,Qge.2 ⟨x3,hf,z3,hj⟩]at O;have h6:psb a v (vcl a o un [x] true)=true:=by simpa using O
  obtain⟨x4,hq,z4,hs⟩:=Qge.1 h6;obtain⟨x5,hz,hg⟩:=(KK ho (one G)).1 hq;rw[Lc.1 hz]at hg;exact⟨x4,hg,z4,hs⟩
 obtain⟨x2,ha,h7⟩:=Qgy ho t _ I (run x est G t I Y);obtain⟨x3,hf,hl⟩:=(KK ho (one G)).1 ha;rw[Lc.1 hf]at hl;exact h7.pre hl
structure VV (c:ZS)(hi:LI):Prop where
 d:D25 c
 x:c.ex=[]
 k:c.cs=[]
 i:YD hi
 b:∀v∈hi,0<=v/\v<5
 r:∀x∈c.rq,∀e∈x.a.al,e∈hi
theorem D25.bare {c:ZS}(h:D25 c):D25 ⟨c.ev,c.co,c.rq,[],[]⟩:=⟨h.ev,h.c0,h.c3,h.r2,h.co,h.rq,h.nd,Lp _,nofun,MB,Lp _,nofun⟩
section
variable {c:ZS}(h:VV c hi)
include h
theorem VV.hck:hck c hi=0:=by
 have h1:Kd (c.ev.length:Int) none hi=0:=Qb7 (λv G=>by rw[h.d.ev.1];exact h.b v G) h.i;unfold Lg.hck;rw[OZ (not_not_intro h.d.ck),h.x,h.k,OZ oh,OZ (not_not_intro h1),O0];rw[Mn];intro x hx;refine O3 (Lt (Qbz (h.d.rq x hx).2.1.ok.ali h.i (h.r x hx)))
theorem VV.pl0:plE c=0/\∃z,xx (xo c.co)=some z:=by
 have G:=je h.d;have J:=h.d.c3;obtain⟨k1,z,e1⟩:=UW (aa:=xo c.co) (λa I=>G a (LH _ I)) (by rw[YW];omega);refine⟨?_,z,e1⟩;unfold plE KM;rw[OZ (not_not_intro h.d.ck),OZ (not_not_intro k1),e1]
theorem VV.celB:Xs c:=by
 have G:=je h.d;have O:=h.d.c3;have h2:=h.d.r2;obtain⟨_,z,e2⟩:=UW (aa:=xo c.co++xo c.rq) G (by rw[Le,YW,YW];omega);refine⟨h.x,h.k,λa I=>⟨(G a I).ok,(G a I).p⟩,λx hx=>(h.d.rq x hx).2.2,λx hx e J=>?_,h.pl0.2,z,e2⟩;rw[h.d.ev.1];exact(h.d.co x hx).2.2 e J
theorem VV.su0:suE c=0:=by
 obtain⟨_,_,_,_,_,_,G⟩:=Qox h.d;exact G
omit h in
theorem QcH:∀(l:List Jv) (n:Int),(∀x∈l,0<x.a.st)->l.foldl (λn x=>n*max 1 x.a.st) n=n*(((xo l).map (·.st.toNat)).foldr (·*·) 1:Nat)
 | [],n,_=>by simp[xo]
 | x::l,n,hx=>by
  have I:=hx x Lh;rw[LP,QcH l _ λy G=>hx y (Lj _ G)];have e:max 1 x.a.st=(x.a.st.toNat:Int):=oa
  rw[e,Int.mul_assoc];show n*((x.a.st.toNat:Int)*(((xo l).map (·.st.toNat)).foldr (·*·) 1:Nat))=n*((x.a.st.toNat*((xo l).map (·.st.toNat)).foldr (·*·) 1:Nat):Int);rw[Int.natCast_mul]
theorem VV.pst:0<(YA c).st/\(YA c).st<=Vb c.co:=by
 have G:=h.celB.sy;refine⟨G.2.2.2.1,?_⟩;have h1:=Qa3 G.2.1.nd G.2.1.v;have h2:=QcH c.co 1 λx hx=>(h.d.co x hx).2.1.p;rw[Int.one_mul]at h2;rw[G.2.1.st];unfold Vb;rw[h2]
 exact_mod_cast h1
omit h in
theorem Qk3 {α β:Type}(f:α->Option β):∀l:List α,(l.filterMap f).length<=l.length
 | []=>Lr _
 | x::l=>by
  rw[My];have:=Qk3 f l;cases f x with
  | none=>simp only[oS];omega
  | some y=>simp only[oS];omega
omit h in
theorem QgJ (g:Nat->Int->Option Ed)(vs:LI):∀n,(grid g vs n).length<=n*vs.length
 | 0=>by simp[grid]
 | n+1=>by
  rw[Kw,Le,OV];have:=QgJ g vs n;have:=Qk3 (g n) vs;omega
theorem VV.evs5:∀v∈evs (xo c.co),0<=v/\v<5:=λv G=>by
 have:=h.celB.evb G;rw[h.d.ev.1]at this;exact this
theorem VV.al:(YA c).al=evs (xo c.co):=h.celB.sy.2.1.al
theorem VV.pl9 (U:Vb c.co<=9):Pl9 (YA c):=by
 have G:=h.celB.sy;have h1:=h.pst;refine⟨h.celB.pok,oa,?_⟩;rw[G.2.1.ed];have h2:=QgJ (syF (xo c.co) (XJ c)) (evs (xo c.co)) (XJ c).length;have I:(XJ c).length<=9:=by have:=G.2.1.st;omega
 have J:(evs (xo c.co)).length<=5:=xN 5 _ (Qe3 (QbW λa O=>(h.celB.ok a (LH _ O)).1)) h.evs5;have V:(XJ c).length*(evs (xo c.co)).length<=9*5:=Nh I J;omega
theorem VV.hok (G:Vb c.co<=9):HOk c hi:=⟨h.pl0.1,h.pl9 G⟩
theorem VV.prj (G:Vb c.co<=9):Kv (ZH (YB c) hi)=true/\QO (ZH (YB c) hi)/\0<(ZH (YB c) hi).st/\(ZH (YB c) hi).st<=2 ^ (YB c).st.toNat:=by
 have h1:=h.pst;exact Qnf h.celB.pok (o:=hi) (show(YA c).st≠0 by omega) (show(YA c).st<=12 by omega)
theorem VV.rkp:∀x∈c.rq,∀e∈x.a.al,e∈kpt (YB c) hi:=λx hx e G=>by
 refine LD.2 ⟨?_,O3 (h.r x hx e G)⟩;show e∈(YA c).al;rw[h.al];obtain⟨y,I,J⟩:=h.celB.eco x hx e G;exact(XC (λa O=>(h.celB.ok a (LH _ O)).1) e).2 ⟨y.a,Lu.2 ⟨y,I,Z⟩,J⟩
theorem VV.kp5:∀e∈kpt (YB c) hi,0<=e/\e<5:=λe G=>h.b e (O4 (LD.1 G).2)
theorem VV.top (U:Vb c.co<=9):Z2 (Zr c hi)=0:=by
 obtain⟨p1,p2,p3,p4⟩:=h.prj U;have ha:c.ev.length=5:=h.d.ev.1;have hr:=h.d.r2;have hf:(ZH (YB c) hi).st<=4096:=p2.st1;generalize ZH (YB c) hi=A at p1 p2 p3 hf;obtain⟨x0,l0,I⟩:∃x l,c.co=x::l:=by
  cases e:c.co with
  | nil=>exact O2 (by rw[e];rfl) h.d.c0
  | cons x l=>exact⟨x,l,Z⟩
 have hT:Zr c hi=⟨c.ev,[⟨x0.nm,ZH (YB c) hi⟩],c.rq,[],[]⟩:=by rw[Qoe,I];rfl
 have hg:=h.d.co x0 (by rw[I];exact Lh);have V:=h.d.nd;rw[I,L2,Mo]at V;obtain⟨n1,n2⟩:=List.nodup_cons.1 V;have n3:(x0.nm::c.rq.map (·.nm)).Nodup:=List.nodup_cons.2 ⟨λhm=>n1 (Mu _ hm),(Mk.1 n2).2.1⟩;obtain⟨q1,q2,q3,q4⟩:=h.prj U;have G:∀e∈(ZH (YB c) hi).al,0<=e/\e<5:=h.kp5;have Y:∀x∈c.rq,∀e∈x.a.al,e∈(ZH (YB c) hi).al:=h.rkp;rw[hT];generalize ZH (YB c) hi=B at q1 q2 q3 G Y;have hs:B.st<=4096:=q2.st1;have hh:∀e∈B.al,e∈VW c.ev.length:=λe J=>by
  have:=G e J;rw[ha,QfQ];exact⟨this.1,this.2⟩
 have hj:Yy c.ev.length (VW c.ev.length) [] ⟨x0.nm,B⟩=0:=by
  unfold Yy;rw[OZ (by rw[hg.1];decide),OZ oe,OZ (not_not_intro ((ZA B).2 q2)),OZ (by rw[q1];decide),OZ (by show ¬B.st=0;omega),OZ,OZ (not_not_intro (Qbz q2.ali (QfR _) hh))];intro hn;obtain⟨e,h1,h2⟩:=MG.1 hn;have O:=G e h1;have:=O4 h2;omega
 have hk:YC c.ev.length (VW c.ev.length) [] [] [⟨x0.nm,B⟩]=(0,[x0.nm],mrg (· || ·) [] B.al):=by
  rw[YC,OZ (not_not_intro hj)];rfl
 have hu:∀e,e∈mrg (· || ·) [] B.al↔e∈B.al:=λe=>by
  rw[UN List.Pairwise.nil q2.ali];constructor
  ·rintro⟨h1|h1,_⟩
   ·cases h1
   exact h1
  intro h1;exact⟨.inr h1,by simp[h1]⟩
 have ho:=Qb8 (nev:=c.ev.length) (u:=mrg (· || ·) [] B.al) (Qby _ _ _ _ (Lr _) List.Pairwise.nil q2.ali) c.rq [x0.nm] (λx hx=>by
  obtain⟨h1,h2,_⟩:=h.d.rq x hx;refine⟨h1,h2,λe J=>?_⟩;have O:=Y x hx e J;have h4:=G e O;exact⟨oa,(hu e).2 O⟩) n3
 unfold Z2;rw[OZ (not_not_intro h.d.ev.2),OZ oe,OZ (by simp only[oL];omega),hk];simp only[];rw[OZ (not_not_intro rfl),OZ (not_not_intro ho)];have hp:Jk B.st=false:=by unfold Jk;rw[O5 oa,O5 oa];rfl
 have hq:¬(szs [⟨x0.nm,B⟩]).any Jk=true:=by
  show ¬(Jk B.st || false)=true;rw[hp];decide
 unfold Xa;rw[OZ (show ¬8<(szs [⟨x0.nm,B⟩]).length by simp[szs]),OZ hq,OZ oe];rfl
omit h in
theorem Qcw (G:QO a):∃z,xx [a]=some z:=by
 obtain⟨Q,I,_⟩:=yt G;exact⟨_,I⟩
omit h in
theorem QlS {l:List Qz}(G:∀a∈l,QO a)(hl:l.length<=12):K4 l=0:=by
 unfold K4;rw[OZ oa];exact(U6 _).2 G
theorem VV.okT (I:Vb c.co<=9):∀a∈xo (Zr c hi).co++xo (Zr c hi).rq,QO a/\0<a.st:=λa G=>by
 obtain⟨_,p2,p3,_⟩:=h.prj I;rcases Lk.1 G with G|G
 ·rw[Lc.1 (show a∈[ZH (YB c) hi] from G)];exact⟨p2,p3⟩
 exact h.celB.ok a (Mu _ G)
theorem VV.suT (G:Vb c.co<=9):suE (Zr c hi)=match xx (xo (Zr c hi).co++xo (Zr c hi).rq) with|none=>3|some _=>0:=by
 have J:=h.okT G;have V:=h.d.r2;obtain⟨z,O⟩:=Qcw (h.prj G).2.1;have U:xx (xo (Zr c hi).co)=some z:=O;show YX (Zr c hi)=_;unfold YX;have k1:=QlS (l:=xo (Zr c hi).co) (λa I=>(J a (LH _ I)).1) (show 1<=12 by decide);have k2:=QlS (l:=xo (Zr c hi).co++xo (Zr c hi).rq) (λa I=>(J a I).1) (by rw[Le,YW,YW];show 1+c.rq.length<=12;omega);rw[OZ (not_not_intro (h.top G)),OZ (not_not_intro k1),U];simp only[];rw[OZ (not_not_intro k2)];cases xx (xo (Zr c hi).co++xo (Zr c hi).rq) <;> rfl
theorem VV.celT (I:Vb c.co<=9)(J:suE (Zr c hi)=0):Xs (Zr c hi):=by
 refine⟨Z,Z,h.okT I,λx hx e G=>⟨_,Lc.2 Z,h.rkp x hx e G⟩,λx hx e G=>?_,Qcw (h.prj I).2.1,?_⟩
 ·rw[Lc.1 hx]at G;have:=h.kp5 e G;show e<(c.ev.length:Int);rw[h.d.ev.1];exact this.2
 rw[h.suT I]at J;cases e:xx (xo (Zr c hi).co++xo (Zr c hi).rq) with
 | none=>rw[e]at J;cases J
 | some z=>exact⟨z,Z⟩
omit h in
theorem j5 (G:∀a∈aa,QO a)(J:(aa.map (·.st.toNat)).foldr (·*·) 1<=4096):∃z,xx aa=some z :=
 QfT (P:=Vt aa) J (λl O U=>Qa3 O U) (λV=>⟨oe,λi hi I=>by
  have h1:=V _ (Lm I);have h2:=(G _ (Lm I)).st0;simp only[Oy];omega⟩) λt ht v _ u Y=>Xv G ht Y
omit h in
theorem Qne (l:List Jv)(G:∀x∈l,x.a.st<=3):((xo l).map (·.st.toNat)).foldr (·*·) 1<=3 ^ l.length:=by
 induction l with
 | nil=>exact Lr _
 | cons x l ih =>
  have h1:=G x Lh;show x.a.st.toNat*_<=_;rw[LS,ON,Nat.mul_comm];exact Nh (ih λy I=>G y (Lj _ I)) oa
theorem VV.spT (O:Vb c.co<=6):((xo (Zr c hi).co++xo (Zr c hi).rq).map (·.st.toNat)).foldr (·*·) 1<=576:=by
 have h1:=h.pst;have U:=(h.prj oa).2.2.2;have V:(2:Int) ^ (YB c).st.toNat<=2 ^ 6:=by
  have:2 ^ (YB c).st.toNat<=2 ^ 6:=Ns oh (by show(YA c).st.toNat<=6;omega)
  exact_mod_cast this
 have G:(ZH (YB c) hi).st.toNat<=64:=oa
 have I:=Qne c.rq λx hx=>(h.d.rq x hx).2.1.s;have J:3 ^ c.rq.length<=3 ^ 2:=Ns oh h.d.r2;show(ZH (YB c) hi).st.toNat*((xo c.rq).map (·.st.toNat)).foldr (·*·) 1<=576;exact LA (Nh G (LA I J)) oh
theorem VV.suX (G:Vb c.co<=9):suE (Zr c hi)=0\/suE (Zr c hi)=3/\6<Vb c.co:=by
 rw[h.suT G];cases e:xx (xo (Zr c hi).co++xo (Zr c hi).rq) with
 | some z=>exact .inl Z
 | none =>
  refine .inr ⟨Z,oW λO=>?_⟩;obtain⟨z,I⟩:=j5 (aa:=xo (Zr c hi).co++xo (Zr c hi).rq) (λa J=>(h.okT G a J).1) (LA (h.spT oa) oh);rw[I]at e;cases e
omit h in
theorem QmT {B:Qz}(G:QO B)(fb ul:LI):(V8 B fb ul).st<=B.st:=by
 have J:=G.st0;unfold V8 jK;split
 ·exact J
 rename_i hc;have O:0<B.st:=by
  have:B.st≠0:=λe=>hc (.inl e);omega
 have I:=QlK (Kl G (Xj B fb ul)) O;rw[I.2.1];show((Qfi (rstr B (Xj B fb ul))).ord.length:Int)<=B.st;have:=I.2.2;have e:(rstr B (Xj B fb ul)).st=B.st:=rfl;omega
theorem VV.htX (I:Vb c.co<=9):UU c hi=0\/UU c hi=3/\6<Vb c.co:=by
 unfold UU;rcases h.suX I with e|⟨e,e2⟩
 ·rw[OZ (not_not_intro e)];have hT:=h.celT I e;have O:=Ki e;have J:∀a∈[YB c,Xu (Zr c hi)],QO a:=λa G=>by
   rcases Ll.1 G with rfl|G
   ·exact h.celB.pok
   rw[Lc.1 G];exact O
  unfold KM;rw[OZ (not_not_intro (QlS J (by show 2<=12;decide)))];cases e3:xx [YB c,Xu (Zr c hi)]with
  | some z=>exact .inl Z
  | none =>
   refine .inr ⟨Z,oW λV=>?_⟩;have h1:=h.pst;have h2:(Xu (Zr c hi)).st<=(spc (Zr c hi)).a.st:=QmT hT.sok _ _;have Y:((Xw (Zr c hi)).length:Nat)<=576:=LA (Qa3 hT.sy.1.nd hT.sy.1.v) (h.spT oa);have h4:=hT.sy.1.st;obtain⟨z,U⟩:=j5 (aa:=[YB c,Xu (Zr c hi)]) J (by
    show(YA c).st.toNat*((Xu (Zr c hi)).st.toNat*1)<=4096;exact LA (Nh (show(YA c).st.toNat<=6 by omega) (show(Xu (Zr c hi)).st.toNat*1<=576 by omega)) oh)
   rw[U]at e3;cases e3
 rw[O0 oa];exact .inr ⟨e,e2⟩
theorem VV.hcX (_h9:Vb c.co<=9):hcX c hi=UU c hi:=by
 unfold Lg.hcX hcE;rw[OZ (not_not_intro h.hck),h.su0];by_cases e:UU c hi=0
 ·rw[OZ (not_not_intro e),e]
 rw[O0 e]
end
theorem Yc.bare {H:xH}(h:Yc L H c):Yc L H { c with vx:=ZX,vk:=ZX,ex:=[],cs:=[] }:=
 ⟨h.ev,h.co,h.rq,⟨⟨Z,Lp _,.inl ⟨Z,Z⟩⟩,(λq G=>by cases G),λq G=>by cases G⟩,⟨⟨rfl,Lp _,.inl ⟨rfl,rfl⟩⟩,(λq G=>by cases G),λq G=>by cases G⟩⟩
theorem Qce {v:O8}{es:LI}(h:Yc [] ↑w c)(hE:Qu [] ↑w v es)(hl:c.co.length<=3)(Y:∀x∈c.V.co,x.a.st<=3):
  QT sV 20 [c.val,v] w λr w'=>r=.bool (decide (3∈es) && decide (6<Vb c.V.co))/\sW w w':=by
 have hg:=hE.le;refine Zo func20 ?_;refine Qc<|Zd c.cells λb2 w1 I hh ha=>Qb ?_
 replace hE:=hE.I I;refine Qe<|Qc<|Qb<|QZ (α:=Nat) [(4,19)] (λz=>[(5,sS z)]) (λz w'=>w'=w1/\z<=es.length/\(3∈es↔3∈es.drop z)) (λz=>es.length - z) 0 Lb ⟨Z,Lp _,oe⟩ ?_;rintro k g w2 ⟨rfl,hk,J⟩;refine Qe<|Ql<|Qa<|QG hE Z<|ZY Z Z<|xe<|Zp rfl (λh9=>?_) (λh9=>?_)
 ·refine Qt ?_;rw[Lx oa]at J;refine Qc<|Qb<|Qk ⟨[.bool false],Lb,?_,I⟩;have O:¬(3:Int)∈es:=λh=>by have:=J.1 h;cases this
  rw[O5 O];rfl
 have G:k<es.length:=oa
 have hd:=QX G;refine Qf<|Qe<|Qn<|Ql<|Qa<|xii (i:=k) hE Z Z G λhj he=>x (Qq he Z)<|x (Zc Z Z)<|xe<|Zg rfl (λU=>?_) (λU=>?_)
 ·have V:es[k]'G=3:=U;refine Qc<|Q7 ha Z Z<|Qx<|(qZ (h.I I) hl Y).S ?_;rintro r3 w3 ⟨rfl,hf⟩;refine x (Ya Z Z)<|Qb<|Qk ⟨[_],Lb,?_,I.D hf⟩;have O:(3:Int)∈es:=by rw[<-V];exact Lm G
  rw[O3 O];rfl
 have V:¬es[k]'G=3:=U;refine Qf<|Qr<|Qa<|QB Z Z<|Qb<|⟨k+1,oa,Lb,Z,oa,?_⟩;rw[J,hd,Ll];exact⟨λh=>h.resolve_left λe=>V e.symm,.inr⟩
theorem PlA.I {L:LN}{w w':O7}{l:PlV}(h:PlA L ↑w l)(G:sW w w'):PlA L ↑w' l:=⟨h.n,h.b,h.x.I G,h.f0,h.f1,h.f2,h.bd⟩
theorem QhW {l:PwV}{rs:List X4V}{hb:Nat}(hE:PlA [] ↑w (l.pl rs))(hX:hb<256):
  QT sV 12 [.agg (Z6 l++[Value.int .u8 (hb:Int)]).toArray] w λr w'=>sW w w'/\∃(c:CL) (vh:O8) (hi:LI),r=.tuple #[c.val,vh]/\(∀L:LN,(∀b∈L,b<↑w)->Yc L ↑w' c)/\Qh 3 ↑w w' vh hi/\VV c.V hi:=by
 have hw:(Z6 l).length=152:=Qbm (l:=l.pl rs) hE.n;have hY:(Z6 l++[Value.int .u8 (hb:Int)])[152]?=some (.int .u8 (hb:Int)):=by rw[Mz oa,hw];rfl
 refine Zo func12 ?_;refine Qc<|Zd (Z6 l++[Value.int .u8 (hb:Int)]) λb1 w1 hF g9 hZ=>QV Vj λb2 w2 hG ka hH=>Qb ?_;have hz:=hF.D hG;have kb:=hF.size;have ga:=hz.size;have hI:=hZ.I hG;refine Qc<|Q9 Z<|x (ZV (us:=Z6 l) hI Z hw (by rw[NQ,<-hw];exact List.take_left))<|Qx<|(QhX (l:=l.pl rs) (hE.I hz)).S ?_;rintro r3 w3 ⟨ho,_,⟨c0,rfl,rfl,hJ⟩,gb⟩;have gc:=hJ [] oe;refine QV Vj λb4 w4 ge h6 gg=>Q6 c0.cells gg gc.ones λw5 gh gi=>xe ?_;refine Qc<|Q9 Z<|Qo<|Qv (j:=3) (u:=ZX) gi Z Z oe rfl λw6 gj gk=>Q9 rfl<|Qo<|Qv (j:=4) (u:=ZX) gk rfl rfl oe rfl λV gl gm=>xe ?_;obtain⟨c,hc⟩:∃c:CL,c={ c0 with vx:=ZX,vk:=ZX,ex:=[],cs:=[] }:=⟨_,Z⟩
 have hf:sW w3 V:=((ge.O gh h6).O gj h6).O gl h6;have hK:=(hz.D ho).D hf;have kc:=ho.size;have ke:=hf.size;have gn:=(hH.I ho).I hf;have gq:=(hI.I ho).I hf;have gr:=hH.lt;have hM:∀L:LN,(∀b∈L,b<↑w2)->Yc L ↑V c:=λL hL=>by rw[hc];exact((hJ L hL).I hf).bare
 have hN:c.cells=[c0.ve,c0.vc,c0.vr,ZX,ZX]:=by rw[hc]
 have gs:QL ↑V b4 46 c.cells:=by rw[hN];exact gm
 have h7:c.V=⟨c0.V.ev,c0.V.co,c0.V.rq,[],[]⟩:=by rw[hc];rfl
 have hD:D25 c.V:=by rw[h7];exact gb.bare
 have hO:c.V.ex=[]/\c.V.cs=[]:=by rw[h7];exact⟨Z,Z⟩
 clear h7 hN hc;have kf:c.ev.length=5:=hD.ev.1;have hp:=hM [] oe;have kg:c.rq.length<=2:=by have h1:=hD.r2;rw[show c.V.rq.length=c.rq.length from Lo ..]at h1;exact h1
 refine Qc<|Qb<|Qe<|Qc<|Qb<|QZ (α:=Nat×O8×LI) [(5,8),(14,54)] (λz=>[(5,z.2.1),(6,sS z.1)]) (λz w'=>z.1<=5/\sW V w'/\Qh 3 ↑V w' z.2.1 z.2.2/\YD z.2.2/\(∀v∈z.2.2,0<=v/\v<(z.1:Int))/\∀q∈c.rq,∀e∈q.p.a.al,e<(z.1:Int)->e∈z.2.2) (λz=>5 - z.1) (0,ZX,[]) oy
  ⟨Lp _,xh.C _ _,QM _ _ _ _,List.Pairwise.nil,nofun,λq O e J hr=>by
   have:=((hD.rq q.it (LL O)).2.1.ok.al e J).1;have h2:e<0:=hr;omega⟩ ?_
 rintro⟨k,vo,m⟩ g w8 ⟨hk,I,gt,hs,hg,h8⟩;have hh:Qh 3 ↑V w8 vo m:=gt;have gu:k<=5:=hk;have kh:=I.size;have ki:m.length<=5:=LA (xN k m (Qe3 hs) hg) gu;have hu:=gs.I I;refine Qe<|Ql<|Qs Z hu Z Z<|QG (hp.ev.arr.I I) Z<|ZY Z Z<|xe<|Zp rfl (λh9=>?_) (λh9=>?_)
 ·refine Qt ?_;have gv:k=5:=by have gx:¬(k:Int)<(c.ev.length:Int):=h9;omega
  subst gv;refine Qc<|Q7 hu Z Z<|Qa<|Q6 c.cells (gn.I I) hp.ones λw9 hA gy=>Qb ?_;have gz:sW w w9:=(hK.D I).O hA oa;refine Qk ⟨[sT c.cells,vo],⟨Kc gy,Z,La⟩,gz,c,vo,m,Z,λL hL=>?_,?_,hD,hO.1,hO.2,hs,hg,λx hx e J=>?_⟩
  ·have h1:=(hM (b2::L) λb hb=>by
    rcases Ll.1 hb with rfl|hb
    ·exact gr
    exact LX (hL b hb) ga).I I
   exact(h1.st (hA.S λb hb=>by rw[Lc.1 hb];exact Lh)).up λb hb=>.inl (Lj _ hb)
  ·have hP:=Qg hh hA (λb hb hm=>by have:=(Qi hh b hb).1;rw[Lc.1 hm]at this;omega);exact⟨hP.1,hP.2.imp id λ⟨g,cap,cur,e1,e2,r⟩=>⟨g,cap,cur,e1,LA hK.size e2,r⟩⟩
  obtain⟨q,O,rfl⟩:=Lu.1 hx;obtain⟨y,hy,h4⟩:=(hD.rq q.it hx).2.2 e J;exact h8 q O e J ((hD.co y hy).2.2 e h4)
 have hr:k<5:=by have gx:(k:Int)<(c.ev.length:Int):=h9;omega
 have g0:hb / 2 ^ k<256:=Nat.lt_of_le_of_lt (Nat.div_le_self _ _) hX;refine Qf<|Qe<|Qn<|QY (α:=Bool) [(7,7),(21,30)] (λz=>[(7,.bool z)]) (λz w'=>w'=w8) ol ?_ ?_
 ·refine Qr<|Qa<|xb (YF Z Z) (λhQ=>?_) (λhQ=>O2 (show(k:Int)<8 by omega) hQ);refine Qa<|Qs Z (gq.I I) Z hY<|Qa<|x (QcU (n:=k) Z Z (by show k<=8;omega))<|x (qy (a:=hb / 2 ^ k) (b:=1) (O1 (Value.int .u8) (Qbb hb k)) Z g0 oh)<|x (Zc Z Z)<|x (Ua Z) <|
   Qb<|⟨_,⟨rfl,La⟩,Z⟩
 rintro z0 g g2 rfl;refine Qe<|Qc<|Qb ?_;have hR:=hp.rq.arr.I I;refine QZ (α:=Bool×Nat) [(7,8),(31,49)] (λz=>[(7,.bool z.1),(8,sS z.2)]) (λz w'=>sW g2 w'/\z.2<=c.rq.length/\∀j (hj:j<c.rq.length),j<z.2->(k:Int)∈(c.rq[j]'hj).p.a.al->z.1=true) (λz=>c.rq.length - z.2) (z0,0) oy ⟨xh.C _ _,Lp _,λj hj h0=>O2 h0 (NF j)⟩ ?_;rintro⟨q0,j⟩ g kj ⟨G,hj,hS⟩;have hT:=I.D G;refine Qe<|Ql<|Qs Z (hu.I G) Z Z<|QG (hR.I G) Z<|ZY Z Z<|xe<|Zp rfl (λhU=>?_) (λhU=>?_)
 ·refine Qt<|Ql<|xe<|Q8 Z (λhV=>?_) (λhV=>?_)
  rotate_left
  ·refine Qf<|Qr<|Qa<|QB Z Z<|Qb<|⟨(k+1,vo,m),by show 5 - (k+1)<5 - k;omega,oy,hr,hT,Qm hh G,hs,λv U=>?_,λq O e J hB=>?_⟩
   ·have h1:=hg v U;have h2:v<(k:Int):=h1.2;exact⟨h1.1,by show v<((k+1:Nat):Int);omega⟩
   have h2:e<((k+1:Nat):Int):=hB;by_cases e1:e=(k:Int)
   ·obtain⟨i,hi,e2⟩:=LQ O;have h3:=hS i hi (by show i<j;omega) (by rw[e2,<-e1];exact J);have h4:q0=true:=h3;have h5:q0=false:=hV;rw[h4]at h5;cases h5
   exact h8 q O e J (by show e<(k:Int);omega)
  refine Qr<|Qa<|Qa<|Qo<|Q5 [[sS k]] λkk kn hC ko g3=>Qo<|Q2 (news:=[sS k]) (L:=[]) (Qm (Qm hh G) hC) Z Z Z (g3.at oe) oo oa (ou G.size hC.size) λg4 kq g5 g6 kr =>
   Qb<|Qr<|Qa<|QB Z Z<|Qb<|⟨(k+1,g4,m++[(k:Int)]),by show 5 - (k+1)<5 - k;omega,oy,hr,(hT.D hC).Z g6 λb hb=>.inr (Qi hh b hb).1,Qh.snoc g5,?_,λv U=>?_,λq O e J hB=>?_⟩
  ·refine Mt.2 ⟨hs,Na _ _,λa ha b hb=>?_⟩;rw[Lc.1 hb];exact(hg a ha).2
  ·show 0<=v/\v<((k+1:Nat):Int);rcases Lk.1 U with U|U
   ·have h1:=hg v U;have h2:v<(k:Int):=h1.2;exact⟨h1.1,oa⟩
   rw[Lc.1 U];omega
  have h2:e<((k+1:Nat):Int):=hB;by_cases e1:e=(k:Int)
  ·rw[e1];exact Mu _ (Lc.2 Z)
  exact LH _ (h8 q O e J (by show e<(k:Int);omega))
 have Y:j<c.rq.length:=by have kt:(j:Int)<(c.rq.length:Int):=hU;omega
 have g7:=Lm Y;refine Qf<|Qe<|Qn<|Qr<|xB Vg (λhn=>?_) (λhn=>?_)
 ·refine Qa<|Zz<|Zz<|Zz<|QE Z<|Qb<|Qr<|Qa<|QB Z Z<|Qb<|⟨(q0,j+1),by show c.rq.length - (j+1)<c.rq.length - j;omega,⟨O1 Value.bool hn.symm,Z,La⟩,G,Y,λi hi hW hm=>hn⟩
 refine Qa<|Qs Z (hu.I G) Z Z<|Qa<|xp (g:=Zm) (i:=j) (λ_=>Z) (hR.I G) Z Z Y λku g8=>x (ZG Z)<|x (ZG Z) <|
  x (Qq (g8.fld 1 _ Z) Z)<|Qa<|Qx<|(QkX (((hp.rq.each (c.rq[j]'Y) g7).al.I I).I G) (k:Int)).S ?_
 rintro kv kw ⟨rfl,rfl⟩;refine QE rfl<|Qb<|Qr<|Qa<|QB Z Z<|Qb<|⟨(decide ((k:Int)∈(c.rq[j]'Y).p.a.al),j+1),by show c.rq.length - (j+1)<c.rq.length - j;omega,oy,G,Y,λi hi hW hm=>?_⟩;have kx:i<j+1:=hW;by_cases e:i=j
 ·subst e;exact O3 hm
 have h4:q0=true:=hS i hi (by show i<j;omega) hm;rw[h4]at hn;cases hn
theorem QpW {l:PwV}{hb:Int}(h:l.ns.length=147):(Z6 l++[Value.int .u8 hb]).length=153:=by rw[Le,show(Z6 l).length=152 from Qbm (l:=l.pl []) h];rfl
theorem Qnl {l:PwV}{hb:Int}(h:l.ns.length=147):((Z6 l++[Value.int .u8 hb]).drop 0).take 152=Z6 l:=by rw[NQ,<-show(Z6 l).length=152 from Qbm (l:=l.pl []) h];exact List.take_left
theorem PwA.I {w w':O7}{l:PwV}(h:PwA w l)(G:sW w w'):PwA w' l:=⟨h.n,h.b,h.f0,h.f1,h.f2,h.bd,λI=>let⟨rs,h1,h2⟩:=h.r I;⟨rs,h1,h2.I G⟩⟩
theorem CL.co3 (h:VV c.V hi):c.co.length<=3/\(∀x∈c.V.co,x.a.st<=3)/\c.ev.length=5:=by
 have h1:=h.d.c3;rw[show c.V.co.length=c.co.length from Lo ..]at h1;exact⟨h1,λx hx=>(h.d.co x hx).2.1.s,h.d.ev.1⟩
theorem VV.hl {c:ZS}(h:VV c hi):hi.length<=5:=xN 5 hi (Qe3 h.i) h.b
theorem Qtu {H:xH}{b:Nat}{m:Int}(h:QL H b T [sS m]):Qu [] H (sL b 1 1) [m]:=h.arr oe (n:=1) (cap:=1) (sz:=1) rfl oa (Lr _)
theorem Qs9 {E n:Int}(h:E=0\/E=3/\6<n){l:LI}(h1:E∈l)(h2:(decide (3∈l) && decide (6<n))=false):E=0:=by
 rcases h with h|⟨h,G⟩
 ·exact h
 rw[h]at h1;rw[O3 h1,O3 G]at h2;cases h2
section
variable (k:α->Int)
end
abbrev Ky:=Int×ByteArray
structure xQ where
 ky:Ky
 vr:Int
 sp:Qz
 kp:LI
 ds:LI
 rm:List Q4
 c:ZS
def hU (F:Int)(S:Qz):Qz:=if F=0 then S else⟨[],0,[],[]⟩
theorem Qhq (hC:VV c.V hi)(O:Vb c.V.co<=9)(h:Yc [] ↑w c)(hH:Qu [] ↑w vh hi)(U:Kb w 4096):
  QT sV 15 [c.val,vh] w λr w'=>sW w w'/\∃vs vw vo vp,r=.tuple #[.agg (Zw ⟨(nbl (YB c.V)).2,vs,(obs (YB c.V) hi []).isNone,vw,vo,(cns (YB c.V) hi (unc c.V.ev)).isNone,vp,(cns (YB c.V) hi (unc c.V.ev)).elim (-1) (·.2)⟩).toArray,sS 0] /\
   ZN [vs,vw,vo,vp]/\Qu [] ↑w' vs (nbl (YB c.V)).1/\Qu [] ↑w' vw ((obs (YB c.V) hi []).elim [] (·.1))/\Qu [] ↑w' vo ((obs (YB c.V) hi []).elim [] (·.2))/\Qu [] ↑w' vp ((cns (YB c.V) hi (unc c.V.ev)).elim [] (·.1)):=by
 refine(Qcd h hH U λ_=>hC.hok O).S ?_;rintro r w' ⟨Y,R,rfl,ho,_,hV⟩;obtain⟨V,hK,hP⟩:=hV hC.hck;obtain⟨⟨e1,G⟩,⟨e2,i2,I⟩,e3,e4,J⟩:=Qju hK Z hP;refine⟨Y,R.vs,R.vw,R.vo,R.vp,?_,⟨G.one,i2.one,I.one,J.one,La⟩,G,i2,I,J⟩;rw[hC.hck,<-e1,<-e2,<-e3,<-e4]
theorem Qdi {b:Qz}{R:Int->Int->Prop}(J:R (fst a) (fst b))(O:∀x y v,R x y->(nxt a.ed x v=-1/\nxt b.ed y v=-1)\/R (nxt a.ed x v) (nxt b.ed y v))(U:∀x y,R x y->UO a kd x=UO b kd y):lgq a b kd=none:=by
 have hA:∀(al:LI) (i:Nat) (p:Vs) (V:List Vs),R p.x p.y->(∀q∈V,R q.x q.y)->∀q∈al.foldl (lgA a b i p) V,R q.x q.y:=by
  intro al;induction al with
  | nil=>intro i p V _ h;exact h
  | cons v al ih =>
   intro i p V I h;refine ih i p _ I λq G=>?_;unfold lgA at G;split at G
   ·rename_i hc;rcases Lk.1 G with G|G
    ·exact h q G
    rw[Lc.1 G];rcases O p.x p.y v I with h1|h1
    ·exact O2 (show(jI a b i p v).ky=(-1,-1) by unfold jI Vs.ky;rw[h1.1,h1.2]) hc.1
    exact h1
   exact h q G
 have Y:∀(al:LI) (f i:Nat) (V:List Vs),(∀q∈V,R q.x q.y)->lgL a b kd al f i V=none:=by
  intro al f;induction f with
  | zero=>intro i V _;rfl
  | succ f ih =>
   intro i V h;rw[lgL];split
   ·rename_i hi;have hg:gV V i∈V:=by
     unfold gV;rw[Qph hi];exact Lm hi
    have hR:=h _ hg;rw[OZ (by unfold lgC;rw[U _ _ hR];simp)];exact ih _ _ (hA al i _ V hR h)
   rfl
 exact Y _ _ _ _ λq G=>by rw[Lc.1 G];exact J
theorem QnP {b:Qz}{R:Int->Int->Prop}(I:a.st≠0)(hb:b.st≠0)(J:R 0 0)(O:∀x y,R x y->0<=x/\0<=y)(U:∀x y v u,R x y->xw a.ed x v=some u->∃G,xw b.ed y v=some G/\R u G)(V:∀x y v G,R x y->xw b.ed y v=some G->∃u,xw a.ed x v=some u/\R u G)
  (Y:∀x y,R x y->(x∈a.mr↔y∈b.mr)):lgq a b kd=none:=by
 refine Qdi (R:=R) ?_ (λx y v h=>?_) λx y h=>?_
 ·unfold fst;rw[OZ I,OZ hb];exact J
 ·rw[Kq,Kq];cases e:xw a.ed x v with
  | some u =>
   obtain⟨G,e',hR⟩:=U x y v u h e;rw[e'];exact .inr hR
  | none =>
   cases e':xw b.ed y v with
   | none=>exact .inl ⟨Z,Z⟩
   | some G =>
    obtain⟨u,e2,_⟩:=V x y v G h e';rw[e]at e2;cases e2
 have h1:=O x y h;have h2:=Y x y h;unfold UO;rw[O3 h1.1,O3 h1.2];congr 2;exact decide_eq_decide.2 h2
theorem QnO {b:Qz}(G:QO a)(I:QO b)(J:a.st=0)(hb:b.st=0):lgq a b kd=none:=by
 refine Qdi (R:=λx y=>x=-1/\y=-1) ?_ (λx y v h=>?_) λx y h=>?_
 ·unfold fst;rw[O0 J,O0 hb];exact⟨Z,Z⟩
 ·rw[h.1,h.2,Qgs G,Qgs I];exact .inl ⟨Z,Z⟩
 rw[h.1,h.2];rfl
section
variable {c:ZS}
end
structure HC (c:ZS)(hi:LI):Prop where
 b:Xs c
 t:Xs (Zr c hi)
 r:∀x∈c.rq,∀e∈x.a.al,e∈hi
structure Std (c:ZS)(hi:LI)(s:LI)(i:Nat)(est:LI):Prop where
 m:s∈XJ c
 p:Pr (YA c) hi (unc c.ev) ((XJ c).idxOf s:Int) est
 lt:i<(VQ (YA c) hi).length
 e:(VQ (YA c) hi).getD i []=est
section
variable {c:ZS}(h:HC c hi)
include h
theorem HC.pj:PjP (YA c) hi (VQ (YA c) hi):=yo (oq h.b.sy.2.2.2.1)
theorem HC.evT {v:Int}:v∈evs (xo (Zr c hi).co)↔v∈kpt (YA c) hi:=by
 rw[XC (λa I=>(h.t.ok a (LH _ I)).1)];constructor
 ·rintro⟨a,I,G⟩;rw[Lc.1 (show a∈[ZH (YB c) hi] from I)]at G;exact G
 intro G;exact⟨ZH (YB c) hi,Lc.2 Z,G⟩
theorem HC.evk {v:Int}:v∈kpt (YA c) hi↔v∈evs (xo c.co)/\v∈hi:=by
 unfold kpt;rw[LD,decide_eq_true_iff,show(YA c).al=evs (xo c.co) from h.b.sy.2.1.al]
theorem HC.rql {v:Int}(G:v∉hi)(I:r.length=(xo c.rq).length):QS v (xo c.rq) r=some r:=z9 I λa J O=>by
 obtain⟨x,hx,rfl⟩:=Lu.1 J;exact G (h.r x hx v O)
theorem HC.sl {s:LI}(G:s∈XJ c):s.length=(xo c.co).length:=(h.b.sy.2.1.v s G).1
theorem HC.plTo {s G:LI}{v:Int}(O:s∈XJ c)(I:v∈evs (xo c.co))(J:QS v (xo c.co) s=some G):G∈XJ c/\(((XJ c).idxOf s:Int),v,((XJ c).idxOf G:Int))∈(YA c).ed:=by
 have hi:=KN O;have hc:=h.b.sy.2.1.cl _ hi.1 v I G (by rw[hi.2];exact J);have h1:=h.b.sy.2.1.J hi.1 v;rw[O0 I,hi.2,J]at h1;exact⟨hc,YI h1⟩
theorem HC.plFrom {s:LI}{v u:Int}(O:s∈XJ c)(V:(((XJ c).idxOf s:Int),v,u)∈(YA c).ed):v∈evs (xo c.co)/\∃G,QS v (xo c.co) s=some G/\G∈XJ c/\u=((XJ c).idxOf G:Int):=by
 have hi:=KN O;have I:=JY h.b.pok.edi V;rw[h.b.sy.2.1.J hi.1 v]at I;split at I
 ·rename_i U;obtain⟨G,J,e⟩:=LZ.1 I;rw[hi.2]at J;exact⟨U,G,J,(h.plTo O U J).1,e.symm⟩
 cases I
theorem HC.cst {s:LI}{v:Int}(G:s∈XJ c):QS v (xo c.co++xo c.rq) (s++r)=(QS v (xo c.co) s).bind λI=>(QS v (xo c.rq) r).map (I++·):=Qaa v _ _ s r (h.sl G)
omit h in
theorem QpE {v:Int}(G:v∈kpt (YA c) hi):QS v (xo (Zr c hi).co++xo (Zr c hi).rq) ((i:Int)::r)=(xw (ZH (YA c) hi).ed i v).bind λI=>(QS v (xo c.rq) r).map (I::·):=by
 show QS v (ZH (YB c) hi::xo c.rq) ((i:Int)::r)=_;rw[Yp];unfold pst;rw[O0 (show v∈(ZH (YB c) hi).al from G)]
theorem HC.lo {s G est:LI}{i:Nat}{v:Int}(hS:Std c hi s i est)(I:v∈evs (xo c.co))(J:QS v (xo c.co) s=some G)(O:v∉hi):Std c hi G i est:=by
 obtain⟨h1,h2⟩:=h.plTo hS.m I J;exact⟨h1,hS.p.lo h2 O,hS.lt,hS.e⟩
theorem HC.pjs (hi':i<(VQ (YA c) hi).length)(O:(VQ (YA c) hi).getD i []=est){v:Int}(J:v∈kpt (YA c) hi):(∃I:Nat,xw (ZH (YA c) hi).ed i v=some (I:Int)/\I<(VQ (YA c) hi).length/\(VQ (YA c) hi).getD I []=vnx (YA c) hi (unc c.ev) est v/\(vnx (YA c) hi (unc c.ev) est v).length≠0)\/xw (ZH (YA c) hi).ed i v=none/\(vnx (YA c) hi (unc c.ev) est v).length=0:=by
 have h1:=h.pj.J hi' v;have U:=Qng (o:=hi) (un:=unc c.ev) h.b.pok est v;have h2:=h.pj.to (j:=i) hi' J;rw[O,U]at h1 h2;by_cases G:(vnx (YA c) hi (unc c.ev) est v).length=0
 ·rw[OZ (λe=>e.2 G)]at h1;exact .inr ⟨h1,G⟩
 rw[O0 ⟨J,G⟩]at h1;exact .inl ⟨_,h1,(h2 G).1,(h2 G).2,G⟩
theorem HC.hgh {s I:LI}{v:Int}(hS:Std c hi s i est)(J:v∈evs (xo c.co))(V:QS v (xo c.co) s=some I)(O:v∈hi):∃G:Nat,xw (ZH (YA c) hi).ed i v=some (G:Int)/\Std c hi I G (vnx (YA c) hi (unc c.ev) est v):=by
 obtain⟨h1,h2⟩:=h.plTo hS.m J V;have U:((XJ c).idxOf I:Int)∈vnx (YA c) hi (unc c.ev) est v:=(JT h.b.pok).2 ⟨_,(hS.p.ok h.b.pok h.b.sy.2.2.2.1).m,_,h2,.z⟩;rcases h.pjs hS.lt hS.e (h.evk.2 ⟨J,O⟩) with⟨G,e1,e2,e3,_⟩|⟨_,e2⟩
 ·exact⟨G,e1,h1,hS.p.hi h2 O,e2,e3⟩
 rw[Lt e2]at U;cases U
theorem HC.mr {s:LI}(G:s∈XJ c):((XJ c).idxOf s:Int)∈(YA c).mr↔Yg (xo c.co) s=true:=by
 have hi:=KN G;rw[j6 h.b.sy.2.1 hi.1,hi.2]
theorem HC.cmk {s:LI}(G:s∈XJ c):Yg (xo c.co++xo c.rq) (s++r)=(Yg (xo c.co) s && Yg (xo c.rq) r):=Qav _ _ s r (h.sl G)
omit h in
theorem tmk :Yg (xo (Zr c hi).co++xo (Zr c hi).rq) ((i:Int)::r)=(decide ((i:Int)∈(ZH (YA c) hi).mr) && Yg (xo c.rq) r):=rfl
theorem HC.imr (hi':i<(VQ (YA c) hi).length)(G:(VQ (YA c) hi).getD i []=est):(i:Int)∈(ZH (YA c) hi).mr↔mkd (YA c) est=true:=by
 rw[h.pj.mr hi',G]
theorem HC.td {s:LI}(G:s∈XJ c):(s++r).take c.co.length=s/\(s++r).drop c.co.length=r:=by
 have hl:=h.sl G;rw[YW]at hl;exact⟨by rw[<-hl,List.take_left],by rw[<-hl,List.drop_left]⟩
inductive PLT (c:ZS) (hi:LI):LI->LI->Prop
 | mk {q:LI}:Lq (Zr c hi) q->Yg (xo (Zr c hi).co++xo (Zr c hi).rq) q=true->PLT c hi q []
 | st {q q' t:LI} {v:Int}:Lq (Zr c hi) q->v∈kpt (YA c) hi->QS v (xo (Zr c hi).co++xo (Zr c hi).rq) q=some q'->PLT c hi q' t->PLT c hi q (v::t)
omit h in
theorem PLT.l {t:LI}(G:PLT c hi q t):Lq (Zr c hi) q:=by cases G with|mk h1 _=>exact h1|st h1 _ _ _=>exact h1
theorem HC.plt:∀q,Lq (Zr c hi) q->∃t,PLT c hi q t:=h.t.lind (T:=λq=>∃t,PLT c hi q t) (λ_ hl G=>⟨[],.mk hl G⟩) λ_ _ v hl _ I J ⟨t,ht⟩=>⟨v::t,.st hl (h.evT.1 I) J ht⟩
theorem HC.pltm {t:LI}:∀{i:Nat}{r est:LI},i<(VQ (YA c) hi).length->(VQ (YA c) hi).getD i []=est->PLT c hi ((i:Int)::r) t->(∀v∈t,v∈kpt (YA c) hi)/\mkd (YA c) (vns (YA c) hi (unc c.ev) est t)=true:=by
 induction t with
 | nil =>
  intro i r est h1 h2 I;cases I with
  | mk _ U =>
   rw[tmk,LC,decide_eq_true_iff]at U;exact⟨nofun,(h.imr h1 h2).1 U.1⟩
 | cons v t ih =>
  intro i r est h1 h2 I;cases I with
  | st _ J G V =>
   rw[QpE J]at G;rcases h.pjs h1 h2 J with⟨Y,e1,e2,e3,_⟩|⟨e1,_⟩
   ·rw[e1]at G;obtain⟨r',hr,e4⟩:=LZ.1 (show(QS v (xo c.rq) r).map ((Y:Int)::·)=some _ from G);rw[<-e4]at V;obtain⟨k1,k2⟩:=ih e2 e3 V;refine⟨λw O=>?_,k2⟩;rcases Ll.1 O with rfl|O
    ·exact J
    exact k1 w O
   rw[e1]at G;cases G
def Oc (c:ZS)(hi:LI)(q:LI):Prop:=∃(s:LI) (i:Nat) (est r:LI),q=s++r/\r.length=(xo c.rq).length/\Std c hi s i est/\q∈Xw c/\Lq (Zr c hi) ((i:Int)::r)
def Ot (c:ZS)(hi:LI)(q:LI):Prop:=∃(s:LI) (i:Nat) (est r:LI),q=(i:Int)::r/\r.length=(xo c.rq).length/\Std c hi s i est/\q∈Xw (Zr c hi)/\Lq c (s++r)
theorem HC.cto {s I:LI}{v:Int}(U:s∈XJ c)(V:r.length=(xo c.rq).length)(J:QS v (xo c.co++xo c.rq) (s++r)=some I):∃G r',I=G++r'/\QS v (xo c.co) s=some G/\QS v (xo c.rq) r=some r'/\r'.length=(xo c.rq).length:=by
 rw[h.cst U]at J;obtain⟨G,h1,h2⟩:=L7.1 J;obtain⟨r',O,Y⟩:=LZ.1 h2;exact⟨G,r',Y.symm,h1,O,qn V O⟩
theorem HC.cin {s G r':LI}{v:Int}(I:s∈XJ c)(h1:QS v (xo c.co) s=some G)(h2:QS v (xo c.rq) r=some r'):QS v (xo c.co++xo c.rq) (s++r)=some (G++r'):=by
 rw[h.cst I,h1,h2];rfl
omit h in
theorem QmS {G:Int}{r':LI}{v:Int}(I:v∈kpt (YA c) hi)(h1:xw (ZH (YA c) hi).ed i v=some G)(h2:QS v (xo c.rq) r=some r'):QS v (xo (Zr c hi).co++xo (Zr c hi).rq) ((i:Int)::r)=some (G::r'):=by
 rw[QpE I,h1,h2];rfl
theorem HC.tto {J:LI}{v:Int}(hi':i<(VQ (YA c) hi).length)(V:(VQ (YA c) hi).getD i []=est)(Y:r.length=(xo c.rq).length)(O:v∈kpt (YA c) hi)(G:QS v (xo (Zr c hi).co++xo (Zr c hi).rq) ((i:Int)::r)=some J):
  ∃(I:Nat) (r':LI),J=(I:Int)::r'/\xw (ZH (YA c) hi).ed i v=some (I:Int)/\QS v (xo c.rq) r=some r'/\r'.length=(xo c.rq).length/\(vnx (YA c) hi (unc c.ev) est v).length≠0:=by
 rw[QpE O]at G;rcases h.pjs hi' V O with⟨I,e1,e2,e3,e5⟩|⟨e1,_⟩
 ·rw[e1]at G;obtain⟨r',U,e4⟩:=LZ.1 (show(QS v (xo c.rq) r).map ((I:Int)::·)=some _ from G);exact⟨I,r',e4.symm,e1,U,qn Y U,e5⟩
 rw[e1]at G;cases G
theorem HC.oc (ob:Qch (YA c) hi (unc c.ev)):∀q,Oc c hi q->Lq c q:=by
 refine h.b.lmax (λq Y=>?_) (λq Y=>?_) (λq q' v Y G hu V=>?_) (λq Y=>?_)
 ·obtain⟨_,_,_,_,_,_,_,h1,_⟩:=Y;exact h1
 ·obtain⟨s,i,est,r,rfl,J,hS,hg,hL⟩:=Y;intro v hu G hs;rw[(h.td hS.m).1]at hs;rw[(h.td hS.m).2];by_cases I:v∈hi
  ·obtain⟨O,ha⟩:=Option.isSome_iff_exists.1 hs;obtain⟨i',e1,_⟩:=h.hgh hS G ha I;have hk:=h.evk.2 ⟨G,I⟩;refine h.t.lfr hL v hu (h.evT.2 hk) ?_;show(QS v [ZH (YB c) hi] [(i:Int)]).isSome=true;rw[Yp];unfold Lg.pst;rw[O0 (show v∈(ZH (YB c) hi).al from hk),show xw (ZH (YB c) hi).ed i v=some (i':Int) from e1];rfl
  rw[h.rql I J];rfl
 ·obtain⟨s,i,est,r,rfl,J,hS,hg,hL⟩:=Y;have U:=h.b.nxQ hg G V;obtain⟨O,r',rfl,h1,h2,hh⟩:=h.cto hS.m J V;by_cases I:v∈hi
  ·obtain⟨i',e1,hf⟩:=h.hgh hS G h1 I;have hk:=h.evk.2 ⟨G,I⟩;exact⟨O,i',_,r',Z,hh,hf,U,h.t.lunc hL (h.evT.2 hk) hu (QmS hk e1 h2)⟩
  rw[h.rql I J]at h2;have e:=Option.some.inj h2;rw[<-e]at U ⊢;exact⟨O,i,est,r,Z,J,h.lo hS G h1 I,U,hL⟩
 obtain⟨s,i,est,r,rfl,J,hS,hg,hL⟩:=Y;obtain⟨t,ht⟩:=h.plt _ hL;obtain⟨k1,k2⟩:=h.pltm hS.lt hS.e ht;have hp:=ob.h2 _ _ t hS.p k1 k2;clear hL k1 k2;generalize hx:((XJ c).idxOf s:Int)=x at hp;induction hp generalizing s i est r with
 | mk hm =>
  rw[<-hx]at hm;cases ht with
  | mk _ hj =>
   rw[tmk,LC]at hj;refine WQ.mk ?_;rw[h.cmk hS.m,(h.mr hS.m).1 hm,hj.2];rfl
 | lo he I _ ih =>
  rw[<-hx]at he;obtain⟨G,O,ha,hw,e⟩:=h.plFrom hS.m he;have V:=h.cin hS.m ha (h.rql I J);have hf:=h.lo hS G ha I;have U:=h.b.nxQ hg G V;exact WQ.st G V ⟨O,i,est,r,Z,J,hf,U,ht.l⟩ (ih O i est r J hf U ht e.symm)
 | hi he I _ ih =>
  rw[<-hx]at he;obtain⟨G,O,ha,hw,e⟩:=h.plFrom hS.m he;cases ht with
  | st hl hk hy ho =>
   obtain⟨i',r',rfl,e1,e2,hh,_⟩:=h.tto hS.lt hS.e J hk hy;have V:=h.cin hS.m ha e2;obtain⟨i2,e3,hf⟩:=h.hgh hS G ha I;have ei:i2=i':=by
    rw[e1]at e3;have:=Option.some.inj e3;omega
   subst ei;have U:=h.b.nxQ hg G V;exact WQ.st G V ⟨O,i2,_,r',Z,hh,hf,U,ho.l⟩ (ih O i2 _ r' hh hf U ho e.symm)
theorem HC.walkU {x y:Int}(hl:Um (Ue hi (unc c.ev) true) (YA c) x y):∀{s est r:LI}{i:Nat},((XJ c).idxOf s:Int)=x->r.length=(xo c.rq).length->Std c hi s i est->Lq c (s++r)->∃s1,y=((XJ c).idxOf s1:Int)/\Std c hi s1 i est/\Lq c (s1++r):=by
 induction hl with
 | z=>intro s est r i hx _ hS G;exact⟨s,hx.symm,hS,G⟩
 | st I Y _ ih =>
  intro s est r i hx J hS G;rw[<-hx]at I;obtain⟨O,hu⟩:=Qj0.1 Y;obtain⟨U,s',V,_,e⟩:=h.plFrom hS.m I;exact ih e.symm J (h.lo hS U V O) (h.b.lunc G U hu (h.cin hS.m V (h.rql O J)))
theorem HC.ot (ob:Qch (YA c) hi (unc c.ev)):∀q,Ot c hi q->Lq (Zr c hi) q:=by
 have hy:∀{s est r:LI} {i:Nat} {v:Int},r.length=(xo c.rq).length->Std c hi s i est->Lq c (s++r)->v∈kpt (YA c) hi->v∈unc c.ev->(vnx (YA c) hi (unc c.ev) est v).length≠0->∃V s2,Std c hi V i est/\Lq c (V++r)/\v∈evs (xo c.co)/\QS v (xo c.co) V=some s2:=λ{s est r i v} G hS Y I hu hz=>by
  obtain⟨x1,hl,y,he⟩:=ob.h1 _ _ v hS.p I hu hz;obtain⟨V,e1,O,hg⟩:=h.walkU hl Z G hS Y;rw[e1]at he;obtain⟨J,s2,ha,_⟩:=h.plFrom O.m he;exact⟨V,s2,O,hg,J,ha⟩
 refine h.t.lmax (λq hq=>?_) (λq hq=>?_) (λq q' v hq J hu hj=>?_) (λq hq=>?_)
 ·obtain⟨_,_,_,_,_,_,_,h1,_⟩:=hq;exact h1
 ·obtain⟨s,i,est,r,rfl,G,hS,U,Y⟩:=hq;intro v hu J hs;have I:=h.evT.1 J;show(QS v (xo c.rq) r).isSome=true;have hh:(QS v [ZH (YB c) hi] [(i:Int)]).isSome=true:=hs;rw[Yp]at hh;unfold Lg.pst at hh;rw[O0 (show v∈(ZH (YB c) hi).al from I)]at hh;rcases h.pjs hS.lt hS.e I with⟨i',e1,_,_,e5⟩|⟨e1,_⟩
  ·obtain⟨V,s2,O,hg,ho,ha⟩:=hy G hS Y I hu e5;have hf:=h.b.lfr hg v hu ho;rw[(h.td O.m).1,(h.td O.m).2,ha]at hf;exact hf Z
  rw[show xw (ZH (YB c) hi).ed i v=none from e1]at hh;cases hh
 ·obtain⟨s,i,est,r,rfl,G,hS,U,Y⟩:=hq;have I:=h.evT.1 J;have hp:=h.t.nxQ U J hj;obtain⟨i',r',rfl,e1,e2,hw,e5⟩:=h.tto hS.lt hS.e G I hj;obtain⟨V,s2,O,hg,ho,ha⟩:=hy G hS Y I hu e5;obtain⟨i2,e3,h4⟩:=h.hgh O ho ha (h.evk.1 I).2;have ei:i2=i':=by
   rw[e1]at e3;have:=Option.some.inj e3;omega
  subst ei;exact⟨s2,i2,_,r',Z,hw,h4,hp,h.b.lunc hg ho hu (h.cin O.m ha e2)⟩
 obtain⟨s,i,est,r,rfl,G,hS,U,Y⟩:=hq;have key:=h.b.lind (T:=λq=>∀s i est r,q=s++r->r.length=(xo c.rq).length->Std c hi s i est->(i:Int)::r∈Xw (Zr c hi)->WQ (Zr c hi) (Ot c hi) ((i:Int)::r)) (λq hl hm s i est r e G hS U=>by
  subst e;rw[h.cmk hS.m,LC]at hm;refine WQ.mk ?_;rw[tmk,hm.2,O3 ((h.imr hS.lt hS.e).2 (UL.2 ⟨_,(hS.p.ok h.b.pok h.b.sy.2.2.2.1).m,(h.mr hS.m).2 hm.1⟩))];rfl) (λq q' v hl h5 J hj ih s i est r e G hS U=>by
  subst e;obtain⟨s',r',rfl,h1,h2,hw⟩:=h.cto hS.m G hj;by_cases hn:v∈hi
  ·obtain⟨i',e1,h0⟩:=h.hgh hS J h1 hn;have I:=h.evk.2 ⟨J,hn⟩;have h3:=QmS I e1 h2;have hp:=h.t.nxQ U (h.evT.2 I) h3;exact WQ.st (h.evT.2 I) h3 ⟨s',i',_,r',Z,hw,h0,hp,h5⟩ (ih s' i' _ r' Z hw h0 hp)
  rw[h.rql hn G]at h2;have e:=Option.some.inj h2;subst e;exact ih s' i est r Z G (h.lo hS J h1 hn) U)
 exact key _ Y s i est r Z G hS U
theorem HC.std0:Std c hi (oI (xo c.co).length 0) 0 (vcl (YA c) hi (unc c.ev) [0] false):=by
 have I:=h.b.sy.2.1;have G:0<(XJ c).length:=by have:=I.st;have:=h.b.sy.2.2.2.1;omega
 have h1:=I.hd G;have O:oI (xo c.co).length (0:Int)∈XJ c:=by rw[<-h1];exact(ZR G).2
 have J:=KN O;have e:(XJ c).idxOf (oI (xo c.co).length (0:Int))=0:=by
  refine Qar I.nd J.1 G ?_;rw[<-(ZR J.1).1,<-(ZR G).1,J.2];exact h1.symm
 refine⟨O,by rw[e];exact Pr.z,h.pj.hd.2,?_⟩;rw[h.pj.hd.1];exact Qga h.b.pok λx hx=>by rw[Lc.1 hx];exact⟨MA _,h.b.sy.2.2.2.1⟩
omit h in
theorem QcS (c:ZS)(hi:LI):oI (xo c.co++xo c.rq).length (0:Int)=oI (xo c.co).length 0++oI (xo c.rq).length 0/\oI (xo (Zr c hi).co++xo (Zr c hi).rq).length (0:Int)=((0:Nat):Int)::oI (xo c.rq).length 0:=by
 refine⟨by rw[Le,List.replicate_append_replicate],?_⟩;show oI (ZH (YB c) hi::xo c.rq).length (0:Int)=_;rw[LS,List.replicate_succ];rfl
theorem HC.l0 (ob:Qch (YA c) hi (unc c.ev)):Lq (Zr c hi) (((0:Nat):Int)::oI (xo c.rq).length 0)↔Lq c (oI (xo c.co).length 0++oI (xo c.rq).length 0):=by
 have h1:=h.b.q0.1;have h2:=h.t.q0.1;rw[(QcS c hi).1]at h1;rw[(QcS c hi).2]at h2;exact⟨λhl=>h.oc ob _ ⟨_,0,_,_,Z,Nn,h.std0,h1,hl⟩,λhl=>h.ot ob _ ⟨_,0,_,_,Z,Nn,h.std0,h2,hl⟩⟩
end
abbrev htQ (c:ZS)(hi:LI):List (LI):=syQ [YB c,Xu (Zr c hi)]
structure HtS (c:ZS)(hi:LI)(k:Nat)(s:LI)(i:Nat)(est r:LI)(y:Int):Prop where
 lt:k<(htQ c hi).length
 q:(htQ c hi).getD k []=[((XJ c).idxOf s:Int),y]
 st:Std c hi s i est
 rl:r.length=(xo c.rq).length
 v:Vq (Zr c hi) ((i:Int)::r) y
section
variable {c:ZS}(h:HC c hi)(hE:UU c hi=0)
include h hE
theorem HC.ht:SyP [YB c,Xu (Zr c hi)] (q8 c hi) (htQ c hi)/\((htQ c hi).length=0↔(Xu (Zr c hi)).st=0)/\QO (q8 c hi)/\QO (Xu (Zr c hi)):=by
 unfold UU at hE;by_cases h1:suE (Zr c hi)≠0
 ·rw[O0 h1]at hE;exact O2 hE h1
 rw[OZ h1]at hE;have I:=Ki (Ly.1 h1);have J:∀a∈[YB c,Xu (Zr c hi)],QO a:=λa G=>by
  rcases Ll.1 G with rfl|G
  ·exact h.b.pok
  rw[Lc.1 G];exact I
 obtain⟨U,_⟩:=QmU hE;obtain⟨O,V⟩:=Yv J U;refine⟨O,?_,O.okay J,I⟩;rw[V];have Y:0<(YA c).st:=h.b.sy.2.2.2.1;constructor
 ·rintro⟨a,G,e⟩;rcases Ll.1 G with rfl|G
  ·exact O2 e (by show(YA c).st≠0;omega)
  rw[Lc.1 G]at e;exact e
 intro e;exact⟨_,oe,e⟩
theorem HC.hev (O:(Xu (Zr c hi)).st≠0){v:Int}:v∈evs [YB c,Xu (Zr c hi)]↔v∈evs (xo c.co):=by
 rw[XC (λa G=>by
  rcases Ll.1 G with rfl|G
  ·exact h.b.pok
  rw[Lc.1 G];exact(h.ht hE).2.2.2)]
 have J:(YB c).al=evs (xo c.co):=h.b.sy.2.1.al;constructor
 ·rintro⟨a,G,I⟩;rcases Ll.1 G with rfl|G
  ·rwa [J]at I
  rw[Lc.1 G]at I;exact(h.evk.1 (h.evT.1 (((h.t.suE O).2.2 v).1 I))).1
 intro I;exact⟨YB c,oe,by rw[J];exact I⟩
omit h hE in
theorem z8 (v:Int)(a b:Qz)(x y:Int):QS v [a,b] [x,y]=(pst v a x).bind λG=>(pst v b y).map λI=>[G,I]:=by
 rw[Yp,Yp];cases pst v a x with
 | none=>rfl
 | some G=>cases pst v b y <;> rfl
theorem HC.hto {k i:Nat}{s est r:LI}{y v u:Int}(hS:HtS c hi k s i est r y)(he:xw (q8 c hi).ed k v=some u):
  v∈evs (xo c.co)/\∃(k':Nat) (I:LI) (i':Nat) (est' r':LI) (J:Int),u=(k':Int)/\QS v (xo c.co++xo c.rq) (s++r)=some (I++r')/\HtS c hi k' I i' est' r' J:=by
 obtain⟨h1,h2,h3,h4⟩:=h.ht hE;have V:(Xu (Zr c hi)).st≠0:=λe=>ou (h2.2 e) hS.lt
 have Y:=h1.J hS.lt v;rw[he]at Y;split at Y
 ·rename_i hv;have O:=(h.hev hE V).1 hv;obtain⟨t,ht,e⟩:=LZ.1 Y.symm;have hto:=h1.to hS.lt hv ht;rw[hS.q,z8]at ht;obtain⟨x',hx,hf⟩:=L7.1 ht;obtain⟨J,G,hg⟩:=LZ.1 hf;subst hg;have hh:(YB c).al=evs (xo c.co):=h.b.sy.2.1.al;unfold pst at hx;rw[O0 (by rw[hh];exact O)]at hx;obtain⟨_,I,ha,_,e2⟩:=h.plFrom hS.st.m (YI (show xw (YA c).ed _ v=some x' from hx));subst e2;refine⟨O,?_⟩;by_cases U:v∈hi
  ·have hk:=h.evk.2 ⟨O,U⟩;unfold pst at G;rw[O0 (((h.t.suE V).2.2 v).2 (h.evT.2 hk))]at G;obtain⟨_,q',hj,ho⟩:=h.t.vst V hS.v G;obtain⟨i',r',rfl,e1,e2,hq,_⟩:=h.tto hS.st.lt hS.st.e hS.rl hk hj;obtain⟨i2,e3,hr⟩:=h.hgh hS.st O ha U;have ei:i2=i':=by
    rw[e1]at e3;have:=Option.some.inj e3;omega
   subst ei;exact⟨_,I,i2,_,r',J,e.symm,h.cin hS.st.m ha e2,hto.1,hto.2,hr,hq,ho⟩
  have hs:J=y:=by
   unfold pst at G;rw[OZ (λhm=>U (h.evk.1 (h.evT.1 (((h.t.suE V).2.2 v).1 hm))).2)]at G;exact(Option.some.inj G).symm
  subst hs;exact⟨_,I,i,est,r,J,e.symm,h.cin hS.st.m ha (h.rql U hS.rl),hto.1,hto.2,h.lo hS.st O ha U,hS.rl,hS.v⟩
 cases Y
theorem HC.hgo {k:Nat}{s J r':LI}{y v:Int}(hS:HtS c hi k s i est r y)(O:v∈evs (xo c.co))(he:QS v (xo c.co) s=some J)(V:QS v (xo c.rq) r=some r')(hl:∀G:Nat,v∈hi->xw (ZH (YA c) hi).ed i v=some (G:Int)->Std c hi J G (vnx (YA c) hi (unc c.ev) est v)->Lq (Zr c hi) ((G:Int)::r')):
  ∃(k' G:Nat) (est':LI) (I:Int),xw (q8 c hi).ed k v=some (k':Int)/\HtS c hi k' J G est' r' I:=by
 obtain⟨h1,h2,h3,h4⟩:=h.ht hE;have Y:(Xu (Zr c hi)).st≠0:=λe=>ou (h2.2 e) hS.lt
 have hg:=(h.hev hE Y).2 O;have h5:=h1.J hS.lt v;rw[O0 hg,hS.q,z8]at h5;have hh:(YB c).al=evs (xo c.co):=h.b.sy.2.1.al;have hx:pst v (YB c) ((XJ c).idxOf s:Int)=some ((XJ c).idxOf J:Int):=by
  unfold pst;rw[O0 (by rw[hh];exact O)];exact JY h.b.pok.edi (h.plTo hS.st.m O he).2
 have fin:∀(G:Nat) (est':LI) (I:Int),pst v (Xu (Zr c hi)) y=some I->Std c hi J G est'->r'.length=(xo c.rq).length->Vq (Zr c hi) ((G:Int)::r') I->∃(k' G:Nat) (est':LI) (I:Int),xw (q8 c hi).ed k v=some (k':Int)/\HtS c hi k' J G est' r' I:=λG est' I hy ha hj hf=>by
  rw[hx,hy]at h5;have hto:=h1.to hS.lt hg (u:=[((XJ c).idxOf J:Int),I]) (by rw[hS.q,z8,hx,hy];rfl);exact⟨_,G,est',I,h5,hto.1,hto.2,ha,hj,hf⟩
 by_cases U:v∈hi
 ·obtain⟨G,e1,ha⟩:=h.hgh hS.st O he U;have hk:=h.evk.2 ⟨O,U⟩;obtain⟨I,hy,hf⟩:=h.t.vgo Y hS.v (h.evT.2 hk) (QmS hk e1 V) (hl G U e1 ha);exact fin G _ I (by unfold pst;rw[O0 (((h.t.suE Y).2.2 v).2 (h.evT.2 hk))];exact hy) ha (qn hS.rl V) hf
 have e2:r'=r:=by rw[h.rql U hS.rl]at V;exact(Option.some.inj V).symm
 subst e2;exact fin i est y (by unfold pst;rw[OZ (λhm=>U (h.evk.1 (h.evT.1 (((h.t.suE Y).2.2 v).1 hm))).2)]) (h.lo hS.st O he U) hS.rl hS.v
theorem HC.hs0 (O:(Xu (Zr c hi)).st≠0):HtS c hi 0 (oI (xo c.co).length 0) 0 (vcl (YA c) hi (unc c.ev) [0] false) (oI (xo c.rq).length 0) 0:=by
 obtain⟨h1,h2,h3,h4⟩:=h.ht hE;have U:0<(htQ c hi).length:=Nz λe=>O (h2.1 e);have V:=h.t.v0 O;rw[(QcS c hi).2]at V;refine⟨U,?_,h.std0,Nn,V⟩;rw[h1.hd U];have G:=h.std0.m;have e:(XJ c).idxOf (oI (xo c.co).length (0:Int))=0:=by
  have I:=h.b.sy.2.1;have J:0<(XJ c).length:=by have:=I.st;have:=h.b.sy.2.2.2.1;omega
  have Y:=I.hd J;have G:=KN G;refine Qar I.nd G.1 J ?_;rw[<-(ZR G.1).1,<-(ZR J).1,G.2];exact Y.symm
 rw[e];rfl
theorem HC.same (ob:Qch (YA c) hi (unc c.ev))(hh:QO (Xu c))(kd:Int):lgq (q8 c hi) (Xu c) kd=none:=by
 obtain⟨h1,h2,h3,h4⟩:=h.ht hE;by_cases I:(Xu (Zr c hi)).st=0
 ·have e1:(q8 c hi).st=0:=by rw[h1.st,h2.2 I];rfl
  have e2:(Xu c).st=0:=oW λhn=>by
   have hl:=h.b.vl (h.b.v0 hn);rw[(QcS c hi).1]at hl;have U:=(h.l0 ob).2 hl;rw[<-(QcS c hi).2]at U;exact h.t.pos U I
  exact QnO h3 hh e1 e2
 have hc:(Xu c).st≠0:=by
  have hl:=h.t.vl (h.t.v0 I);rw[(QcS c hi).2]at hl;have U:=(h.l0 ob).1 hl;rw[<-(QcS c hi).1]at U;exact h.b.pos U
 have ht:(q8 c hi).st≠0:=by
  rw[h1.st];intro e;exact I (h2.1 oa)
 have hf:=h.b.v0 hc;rw[(QcS c hi).1]at hf;refine QnP (R:=λa b=>∃(k i:Nat) (s est r:LI) (y:Int),a=(k:Int)/\HtS c hi k s i est r y/\Vq c (s++r) b) ht hc ⟨0,0,_,_,_,0,Z,h.hs0 hE I,hf⟩ ?_ ?_ ?_ ?_
 ·rintro a b ⟨k,i,s,est,r,y,rfl,_,j,_,rfl,_⟩;exact⟨oa,oa⟩
 ·rintro a b v u ⟨k,i,s,est,r,y,rfl,hS,J⟩ he;obtain⟨V,k',Y,O,est',r',y',rfl,hg,G⟩:=h.hto hE hS he;have hL:=h.oc ob _ ⟨Y,O,est',r',Z,G.rl,G.st,h.b.nxQ (h.b.vl J).1 V hg,h.t.vl G.v⟩;obtain⟨b',hb,ha⟩:=h.b.vgo hc J V hg hL;exact⟨b',hb,k',O,Y,est',r',y',Z,G,ha⟩
 ·rintro a b v u' ⟨k,i,s,est,r,y,rfl,hS,J⟩ he;obtain⟨V,q',hq,ha⟩:=h.b.vst hc J he;obtain⟨Y,r',rfl,g1,g2,hj⟩:=h.cto hS.st.m hS.rl hq;obtain⟨k',O,est',y',ho,G⟩:=h.hgo hE hS V g1 g2 λO hn e1 G=>by
   have hk:=h.evk.2 ⟨V,hn⟩;exact h.ot ob _ ⟨Y,O,_,r',Z,hj,G,h.t.nxQ (h.t.vl hS.v).1 (h.evT.2 hk) (QmS hk e1 g2),h.b.vl ha⟩
  exact⟨k',ho,k',O,Y,est',r',y',Z,G,ha⟩
 rintro a b ⟨k,i,s,est,r,y,rfl,hS,J⟩;rw[j6 h1 hS.lt,hS.q,h.b.vmr hc J,h.cmk hS.st.m];have hy:=h.t.vmr I hS.v;rw[tmk]at hy;show(decide (((XJ c).idxOf s:Int)∈(YB c).mr) && (decide (y∈(Xu (Zr c hi)).mr) && true))=true↔_;have hm:=h.mr hS.st.m;rw[Bool.and_true,LC,LC,decide_eq_true_iff,decide_eq_true_iff,hy,LC,decide_eq_true_iff];constructor
 ·rintro⟨g1,g2,g3⟩;exact⟨hm.1 g1,g3⟩
 rintro⟨g1,g2⟩;have g3:=hm.2 g1;exact⟨g3,(h.imr hS.st.lt hS.st.e).2 (UL.2 ⟨_,(hS.st.p.ok h.b.pok h.b.sy.2.2.2.1).m,g3⟩),g2⟩
end
theorem Qpm {a:Qz}{P:Int->Prop}(G:∀e∈a.ed,P e.2.2->P e.1):∀(f i:Nat) (l:LI),(∀x∈l,P x/\0<=x)->(∀e∈a.ed,0<=e.1)->∀x∈bq a.ed f i l,P x/\0<=x
 | 0,_,_,h,_=>h
 | f+1,i,l,h,I=>by
  rw[bq];split
  ·rename_i hi;refine Qpm G f (i+1) _ ?_ I;have hc:=h (xj l i) (by rw[<-Zn hi];exact Lm hi);refine Kx (Inv:=λl=>∀x∈l,P x/\0<=x) _ _ (λm v J hl x hx=>?_) h;unfold zV at hx;split at hx
   ·rcases Lk.1 hx with hx|hx
    ·exact hl x hx
    rw[Lc.1 hx];unfold pre at J;obtain⟨e,O,rfl⟩:=Lu.1 J;obtain⟨h2,U⟩:=LD.1 O;have V:=O4 U;have Y:(((xj l i).toNat:Nat):Int)=xj l i:=by have:=hc.2;omega
    exact⟨G e h2 (by rw[V,Y];exact hc.1),I e h2⟩
   exact hl x hx
  exact h
theorem QnF {P:Qz}(V:QO P)(h0:0<P.st)(h:(nbl P).2=true):∀x,Um (λ_=>true) P 0 x->∃t,Jl P o x t:=by
 obtain⟨Q,hz,O⟩:=yt V;have hh:∀a∈[P],QO a:=λa U=>by rw[Lc.1 U];exact V
 obtain⟨hS,hj⟩:=Yv hh hz;have hw:=hS.st;have hq:0<Q.length:=Nz λe=>by
  obtain⟨a,U,e0⟩:=hj.1 e;rw[Lc.1 U]at e0;omega
 have h3:=QiZ hz;have hb:∀k,k<Q.length->(k:Int)∈crq (Jc [P]) (Jc [P]).mr:=λk I=>oW λhn=>by
  have Y:(k:Int)∈blkd (Jc [P]) (Jc [P]).mr:=Lu.2 ⟨k,LD.2 ⟨ME.2 oa,O3 hn⟩,Z⟩;have hf:(bpt (Jc [P]) (blkd (Jc [P]) (Jc [P]).mr)).2=true:=by
   unfold bpt;rw[OZ oa];refine QhG (n:=(Jc [P]).st.toNat) (s:=k) (by rw[hw,MD];exact h3) (λe G=>?_) (λe G=>?_) oa (O3 Y)
   ·have:=O.ed e G;exact⟨this.1,this.2.2.2.1,oa⟩
   have:=O.ed e G;refine O3 (Lu.2 ⟨e.2.2.toNat,ME.2 oa,oa⟩)
  unfold nbl at h;rw[hf]at h;cases h
 have hc:∀k,k<Q.length->Rch (Jc [P]) (k:Int):=λk I=>(Qpm (P:=Rch (Jc [P])) (λe G hr=>Rch.step (v:=e.2.1) G hr) _ _ _ (λx hx=>⟨.mk hx,(O.mr x hx).1⟩) (λe G=>(O.ed e G).1) _ (hb k I)).1;have hev:∀{v},v∈P.al->v∈evs [P]:=λJ=>(XC hh _).2 ⟨P,oe,J⟩;have hx:∀x,Um (λ_=>true) P 0 x->∃k,k<Q.length/\Q.getD k []=[x]:=λx hl=>hl.to (S:=λx=>∃k,k<Q.length/\Q.getD k []=[x]) (λe G ⟨k,I,e1⟩ _=>by
  have J:=(V.ed e G).2.2.1;have hs:QS e.2.1 [P] (Q.getD k [])=some [e.2.2]:=by
   rw[e1,Yp];unfold pst;rw[O0 J,JY V.edi G];rfl
  have:=hS.to I (hev J) hs;exact⟨_,this.1,this.2⟩) ⟨0,hq,hS.hd hq⟩
 have hr:∀y,Rch (Jc [P]) y->∀(k:Nat) (x:Int),y=(k:Int)->k<Q.length->Q.getD k []=[x]->∃t,Jl P o x t:=by
  intro y hy;induction hy with
  | mk Y =>
   intro k x e I e1;rw[e,j6 hS I,e1]at Y;have:decide (x∈P.mr)=true:=by
    have h5:(decide (x∈P.mr) && true)=true:=Y
    rwa [Bool.and_true]at h5
   exact⟨[],.mk (O4 this)⟩
  | @step y z v G _ ih =>
   intro k x e I e1;rw[e]at G;have hg:=JY O.edi G;rw[hS.J I v,e1]at hg;split at hg
   ·rename_i J;obtain⟨t',ht,e2⟩:=LZ.1 hg;have hto:=hS.to I J (u:=t') (by rw[e1];exact ht);have h4:v∈P.al:=by
     obtain⟨a,U,h6⟩:=(XC hh v).1 J
     rwa [Lc.1 U]at h6
    rw[Yp]at ht;unfold pst at ht;rw[O0 h4]at ht;obtain⟨u,hu,h7⟩:=L7.1 ht;have e3:[u]=t':=Option.some.inj h7;rw[<-e3]at e2 hto;obtain⟨t,hp⟩:=ih _ u e2.symm hto.1 hto.2;by_cases hvo:v∈o
    ·exact⟨v::t,.hi (YI hu) hvo hp⟩
    exact⟨t,.lo (YI hu) hvo hp⟩
   cases hg
 intro x hl;obtain⟨k,I,e1⟩:=hx x hl;exact hr _ (hc k I) k x Z I e1
section
variable {un':LI}
theorem QlA {bad:LI->LI->Bool}:∀(f i:Nat) (l:List Dq),dfL a o un bad f i l=dfL a o un' bad f i l
 | 0,_,_=>rfl
 | f+1,i,l=>by
  cases hx:l[i]? with
  | none=>rw[jd (Nm.1 hx),jd (Nm.1 hx)]
  | some x =>
   rw[QbZ hx,QbZ hx];split
   ·rfl
   exact QlA f (i+1) _
theorem Qjt (est:LI)(s:Int):rft a o un est s=rft a o un' est s:=QlA _ _ _
theorem Qj3:∀(f i:Nat) (l:List jS),obL a o un f i l=obL a o un' f i l
 | 0,_,_=>rfl
 | f+1,i,l=>by
  cases hx:l[i]? with
  | none=>rw[yv (Nm.1 hx),yv (Nm.1 hx)]
  | some x =>
   cases G:rft a o un x.2.1 x.1 with
   | some t=>rw[UF hx G,UF hx ((Qjt _ _).symm.D G)]
   | none =>
    rw[UG hx G,UG hx ((Qjt _ _).symm.D G)];exact Qj3 f (i+1) _
theorem QpZ:obs a o un=obs a o un':=by
 unfold obs;split
 ·rfl
 exact Qj3 _ _ _
end
theorem VV.hc {c:ZS}(h:VV c hi)(G:Vb c.co<=9)(hE:UU c hi=0):HC c hi:=by
 have e:suE (Zr c hi)=0:=by
  unfold UU at hE;by_cases e:suE (Zr c hi)=0
  ·exact e
  rw[O0 e]at hE;exact O2 hE e
 exact⟨h.celB,h.celT G e,h.r⟩
theorem VV.ob {c:ZS}(h:VV c hi)(h1:(nbl (YB c)).2=true)(h2:obs (YB c) hi []=none)(G:cns (YB c) hi (unc c.ev)=none):Qch (YA c) hi (unc c.ev):=
 Qch.of h.celB.pok h.celB.sy.2.2.2.1 (QpZ.D h2) G (QnF h.celB.pok h.celB.sy.2.2.2.1 h1)
theorem VV.same {c:ZS}{hi:LI}(h:VV c hi)(J:Vb c.co<=9)(hE:UU c hi=0)(ob:Qch (YA c) hi (unc c.ev)):hcR c hi=none:=by
 have G:=h.hc J hE;have I:QO (Xu c):=Ki h.su0;unfold hcR;rw[G.same hE ob I 1];exact G.same hE ob I 2
theorem QlN (hC:VV c.V hi)(J:Vb c.V.co<=9)(h:Yc [] ↑w c)(hH:Qu [] ↑w vh hi)(O:Kb w 4096):
  QT sV 25 [c.val,vh] w λr w'=>sW w w'/\∃v e,r=.tuple #[v,.bool e,sS (UU c.V hi)]/\v.oneCell'=true/\(UU c.V hi=0->hcR c.V hi=none->v=ZX/\e=true):=by
 have hX:=hC.hcX J;refine(QgI h hH O λ_=>hC.hok J).S ?_;rintro r w' ⟨U,v,e,rfl,hb,I⟩;rw[hX]at hb I ⊢;refine⟨U,v,e,Z,?_,λG V=>?_⟩
 ·by_cases G:UU c.V hi=0
  ·have:=I G;cases hR:hcR c.V hi with
   | none=>rw[hR]at this;rw[this.1];rfl
   | some u=>rw[hR]at this;exact QA this.2
  rw[(hb G).1];rfl
 have:=I G;rw[V]at this;exact this
theorem Qdj {l:PwV}{hb:Nat}(hl:PwA w l)(hG:hb<256)(hm:Kb w 4096):
  QT sV 4 [.agg (Z6 l++[Value.int .u8 (hb:Int)]).toArray] w λr w'=>r=.bool true/\sW w w':=by
 refine Zo func4 ?_;refine Qc<|Zd (Z6 l++[Value.int .u8 (hb:Int)]) λb1 w1 hn gs hu=>Qb<|Qe<|QY (α:=Bool) [(10,17)] (λz=>[(17,.bool z)]) (λz w'=>sW w1 w'/\(z=false->l.n<=4)) ol ?_ ?_
 ·refine Qr<|Qx<|(jD (hm.I hn)).S ?_;rintro r2 w2 ⟨rfl,I⟩;refine x (Zl Z)<|Qa<|Q9 Z<|x (ZV (us:=Z6 l) (hu.I I) Z (Qbm (l:=l.pl []) hl.n) (Qnl hl.n))<|Qx<|(Qmi (l:=l) ((hl.I hn).I I)).S ?_;rintro r3 V ⟨rfl,O⟩;refine x (Zl Z)<|QE Z<|xe ?_;exact⟨!decide (l.n<=4),Lb,I.D O,λe=>ox e⟩
 rintro z g w2 ⟨I,hz⟩;have Y:=hn.D I;refine Q8 rfl (λhw=>?_) (λhw=>?_)
 ·refine Qc<|Qx<|(jD (hm.I Y)).S ?_;rintro r3 V ⟨rfl,O⟩;refine Qb<|Qk ⟨[.bool true],Lb,Z,Y.D O⟩
 refine Qf<|Exists.elim (hl.pl Y (hz hw)) λrs hH=>?_;refine Qc<|Q7 (hu.I I) Z (QpW hl.n)<|Qx<|(QhW hH.1 hG).S ?_;rintro _ V ⟨O,c,vh,hi,rfl,hI,hJ,hC⟩;have hy:=hI [] oe;have hK:Qu [] ↑V vh hi:=Qh.ints hJ (oq hC.hl) oe;obtain⟨h0,h4,gt⟩:=CL.co3 hC;refine Qa<|QU Z Z<|QU Z Z<|QV Vj λb3 w4 hL hM hN=>Q6 c.cells hN hy.ones λw5 hO h5 =>
  Qb ?_
 have ho:sW V w5:=hL.O hO hM;have ha:=(Y.D O).D ho;have h6:=hy.I ho;have hP:=hK.I ho;refine Qe<|Qc<|Q7 h5 Z Z<|Qx<|(Qmt h6 h0 h4).S ?_;rintro _ w6 ⟨rfl,G⟩;refine x (Zl Z)<|xe<|Q8 rfl (λh7=>?_) (λh7=>?_)
 ·refine Qc<|Qb<|Qk ⟨[.bool true],Lb,Z,ha.D G⟩
 have h9:Vb c.V.co<=9:=by simpa using h7
 have hX:=hC.htX h9;have U:=λ(e:UU c.V hi=0) (h1:(nbl (YB c.V)).2=true) (h2:obs (YB c.V) hi []=none) (h3:cns (YB c.V) hi (unc c.V.ev)=none)=>hC.same h9 e (hC.ob h1 h2 h3);have cT:=λ{w:O7} (a:Yc [] ↑w c) (b:Qu [] ↑w vh hi) (k:Kb w 4096)=>Qhq hC h9 a b k;have cM:=λ{w:O7} (a:Yc [] ↑w c) (b:Qu [] ↑w vh hi) (k:Kb w 4096)=>QlN hC h9 a b k;refine Zh (UU c.V hi) λE hE=>?_;rw[hE]at hX U cM;refine Zh (nbl (YB c.V)) λNB hQ=>?_;rw[hQ]at cT U;refine Zh (obs (YB c.V) hi []) λOB hR=>?_;rw[hR]at cT U;refine Zh (cns (YB c.V) hi (unc c.V.ev)) λCN hS=>?_;rw[hS]at cT U;have h8:=hm.I (ha.D G);have hp:=h6.I G;have hA:=hP.I G;have hq:=h5.I G;refine Qf<|Qc<|Q7 hq Z Z<|Qa<|Qx<|(cT hp hA h8).S ?_;rintro _ w7 ⟨hT,rs,rw,ro,rp,rfl,he,_,_,_,_⟩;refine Qa<|QU Z Z<|QU Z Z<|QV (Zw rp8) λb5 w8 hU hV hW=>Q6 (Zw ⟨NB.2,rs,OB.isNone,rw,ro,CN.isNone,rp,CN.elim (-1) (·.2)⟩) hW ⟨rfl,he.1,rfl,he.2.1,he.2.2.1,rfl,he.2.2.2.1,rfl,La⟩ λw9 hY hZ =>
  Qb ?_
 have ga:sW w7 w9:=hU.O hY hV;have gb:=hT.D ga;refine Qe<|Ql<|ZO Z Z<|xe<|Zg rfl (λgc=>O2 Z gc) (λ_=>?_);refine Qf<|Qe<|Qc<|Q7 hZ Z Z<|Qx<|(Qec (R:=⟨NB.2,rs,OB.isNone,rw,ro,CN.isNone,rp,CN.elim (-1) (·.2)⟩)).S ?_;rintro _ gu ⟨rfl,ge⟩;have J:=gb.D ge;refine x (Zl Z)<|xe<|Q8 rfl (λhB=>?_) (λhB=>?_)
 ·refine Qc<|Qb<|Qk ⟨[.bool true],Lb,Z,(ha.D G).D J⟩
 have hh:NB.2=true/\OB=none/\CN=none:=by
  have hf:(NB.2 && OB.isNone && CN.isNone)=true:=by simpa using hB
  rw[LC,LC]at hf;exact⟨hf.1.1,NE.1 hf.1.2,NE.1 hf.2⟩
 refine Qf<|Qc<|Q7 (hq.I J) Z Z<|Qa<|Qx<|(cM (hp.I J) (hA.I J) (h8.I J)).S ?_;rintro _ gg ⟨gh,v,e,rfl,_,hg⟩;have hr:=J.D gh;refine Qa<|QU Z Z<|QU Z Z<|QU Z Z<|x Qd<|x Qd<|Qb<|QY (α:=Bool) [(2,2),(49,64)] (λz=>[(2,.bool z)]) (λz w'=>sW gg w'/\z=true) ol ?_ ?_
 ·refine Qr<|Q7 (hq.I hr) Z Z<|Qa<|Qo<|Q5 [[sS E]] λgv gx hD gy gi=>Qx<|(Qce (es:=[E]) ((hp.I hr).I hD) (Qtu gi) h0 h4).S ?_;rintro gz gj ⟨hj,gk⟩;have hF:=hD.D gk;refine QbT (decide (3∈[E]) && decide (6<Vb c.V.co)) (λhk=>?_) (λhk=>?_)
  ·rw[hk]at hj;subst hj;refine Qa<|Zz<|Zz<|Zz<|Kg<|QE Z<|x Qd <|
    xe ?_
   exact⟨true,Lb,hF,Z⟩
  rw[hk]at hj;subst hj;have hs:E=0:=Qs9 hX oe hk;have hv:=hg hs (U hs hh.1 hh.2.1 hh.2.2);have gl:Qu [] ↑gj v []:=by rw[hv.1];exact Qpe
  refine Qa<|Qa<|xb (Zc Z Z) (λ_=>?_) (λgm=>O2 hs gm);refine Qa<|xB (b:=e) Vg (λ_=>?_) (λgn=>O2 (hv.2.symm.D gn) oh);refine QE Z<|Qa<|Qa<|QG gl Z<|x (Zc Z Z)<|QE Z<|QE Z<|x Qd <|
   xe ?_
  exact⟨true,Lb,hF,Z⟩
 rintro z g g0 ⟨gq,gr⟩;exact Qk ⟨[.bool z],Lb,by rw[gr];rfl,((ha.D G).D hr).D gq⟩
open Go.RowKit
theorem Xr {a b:Bool}(h1:a=true)(h2:b=true):(a && b)=true:=by rw[h1,h2];rfl
theorem QbE {f:FuncId}{s:ChangeSpec}{c:OpenClaim}(h1:(c.wf (OpenSpec.ofChange s))=true)(h2:(laidOutB P)=true)(G:(mapsRowed P)=true)(I:(fn.params.all (P.readableRec ·))=true)(J:(namedTie P c.named s.vars)=true)(O:((c.stops == []))=true)(U:((P.stops == []))=true)(V:((c.knobs == []))=true)(Y:((P.stopKnobs == []))=true)(ha:((c.inPlace == P.inPlace f))=true)(he:((c.unfollowed == P.unfollowed f))=true)(hf:((c.recurses == P.recurses f))=true)(hg:((c.named == P.varsNamed f))=true)(hh:((c.maps == (fn.params.toList++s.plain.varTypes P).any (P.mapsRec ·)))=true)(hj:((c.ifaces == (fn.params.toList++s.plain.varTypes P).any (P.ifacesRec ·)))=true)(hk:((c.mapsOut == P.mapsAmong fn.resultTypes.toList))=true)(hm:((c.loops == (fn.params.toList++s.plain.varTypes P).any (P.loopsFrom ·)))=true)(hn:((c.wideKeys == (fn.params.toList++s.plain.varTypes P++fn.resultTypes.toList).any (P.wideKeysFrom ·)))=true)(ho:(s.vars.all (P.varReadable ·))=true)(hp:(fn.resultTypes.all (λt=>P.readableRec t && decide (t<P.types.size)))=true)(hq:((c.ifacesOut == fn.resultTypes.toList.any (P.ifacesRec ·)))=true)(hr:((c.loopsOut == fn.resultTypes.toList.any (P.loopsFrom ·)))=true)(hs:((c.plainKeys == P.plainKeys))=true)(hu:(c.shortTexts.isNone)=true)(hv:(P.stopsHeard)=true)(hw:(P.mayEnter)=true)(hy:((c.lifted == P.liftsFinal))=true)(hz:((P.make == some c.make))=true)(h0:((c.kinds == (if c.domain.isEmpty then[]else fn.params.toList.map λt=>match P.underlying t with|some (.int k)=>some k|_=>none)))=true)(hA:((c.pinned == c.pinnedBy))=true)(hB:((c.veiled == (fn.params.toList++s.plain.varTypes P++fn.resultTypes.toList).any (P.veiledRec ·)))=true)(hC:(c.veiledFits P fn.params.toList (fn.params.toList++s.plain.varTypes P++fn.resultTypes.toList))=true):joinedFacts P f fn s c=true:=by
 unfold joinedFacts;exact(Xr (Xr (Xr (Xr (Xr (Xr (Xr (Xr (Xr (Xr (Xr (Xr (Xr (Xr (Xr (Xr (Xr (Xr (Xr (Xr (Xr (Xr (Xr (Xr (Xr (Xr (Xr (Xr (Xr (Xr (Xr h1 h2) G) I) J) O) U) V) Y) ha) he) hf) hg) hh) hj) hk) hm) hn) ho) hp) hq) hr) hs) hu) hv) hw) hy) hz) h0) hA) hB) hC)
theorem yL:laidOutB sV=true:=od
theorem QkG:mapsRowed sV=true:=od
theorem QkI:sV.stopsHeard=true:=od
theorem QkJ:sV.mayEnter=true:=od
theorem QkH:(false == sV.liftsFinal)=true:=od
theorem Qn2:(sV.make == some Make.cut)=true:=od
theorem Qn6:(Rows.hierarchySameRow.inPlace == sV.inPlace 4)=true:=od
theorem Qn5:(Rows.hierarchySameRow.unfollowed == sV.unfollowed 4)=true:=od
theorem Qn4:(Rows.hierarchySameRow.recurses == sV.recurses 4)=true:=od
theorem Qn3:(Rows.hierarchySameRow.named == sV.varsNamed 4)=true:=od
theorem Qqq:Rows.hierarchySameRow.wfByText (OpenSpec.ofChange Rows.hierarchySameSpec)=true:=od
theorem Qqt:Tryz.pinned.checked.prog.mainIs=some (true, "7e6c111e63cd6b879c1f82077465bee9620edb040a7287706e5c7dbd129b5c95".toList):=od
theorem Qqs:sV.funcNamed "overseer/overseerlaw36.HierarchySame" = some 4:=od
theorem Qqu:false=sV.looks []:=od
theorem Qqr:([38].all λu=>!sV.wantsStandIn u)=true:=od
theorem Qqv:false=Rows.hierarchySameRow.goesBy Tryz.pinned.checked.prog:=od
open Go.ChangeShapes Go.WideShapes
section
variable {H:Type}{enc:TypeId×O8->H}{W:O7}{b0:Nat}{sp:Nat->Bool}{held:Bool}
theorem Qip {v:O8}{d:DataW H}{ps:List MemPlace}{t tq:TypeId}{fs hh:Array Field}{G g1:Field}(I:P.underlying t=some (.struct fs))(hj:P.underlying tq=some (.struct hh))(hc:P.cellsOf t=153)(J:P.cellsOf tq=152)
  (O:(P.cellTypes P.depth t).map oY=some 153) (U:(P.cellTypes P.depth t).map (·.take 152)=P.cellTypes P.depth tq) (f0:fs[0]?=some G) (f1:fs[1]?=some g1) (t0:G.type=tq) (o0:G.offset=0) (o1:g1.offset=152) (c1:P.cellsOf g1.type=1) (k1:kT P .u8 5 g1.type=true)
  (V:Value.okWide P W .any base t v) (h:DataW.Trod enc P W b0 sp held t v d ps):∃(l:LV) (hb:Nat),v=.agg (l++[Value.int .u8 (hb:Int)]).toArray/\hb<256/\Value.okWide P W .any base tq (sT l)/\∃d' ps',DataW.Trod enc P W b0 sp held tq (sT l) d' ps':=by
 simp only[Value.okWide,I]at V;obtain⟨cs,rfl,Y,ts,hk,hy,hm⟩:=V;rw[hc]at Y;obtain⟨l⟩:=cs;have hl:l.length=153:=Y;obtain⟨fuel,hf⟩:=h;obtain⟨xs,m,_,_,_,hn,ho⟩:=DataW.trod_struct I hf;have ha:∀(i:Nat) (f:Field),fs[i]?=some f->DataW.trod enc P W b0 sp held m f.type ((l.drop f.offset).take (P.cellsOf f.type))=xs[i]?:=ho;have h0:0<fs.size:=(LM.1 f0).1;obtain⟨z,hz⟩:∃z,xs[0]?=some z:=⟨xs[0]'oa,LE oa⟩;have e0:=ha 0 G f0;rw[t0,o0,J,NQ,hz]at e0;obtain⟨c,he⟩:∃c,l[152]?=some c:=⟨l[152]'oa,LE oa⟩;obtain⟨hb,rfl,hp⟩:=Qet (VJ hn ha f1 k1 oa oa he);have hq:l=l.take 152++[Value.int .u8 (hb:Int)]:=by
  have h1:l.drop 152=[Value.int .u8 (hb:Int)]:=by
   apply Nv;intro i;rw[MR]
   match i with
   | 0=>exact he
   | i+1=>rw[Mj oa];rfl
  rw[<-h1,MK]
 refine⟨l.take 152,hb,by show Value.agg l.toArray=_;rw[<-hq],hp,?_,z.1,z.2,m,e0⟩;rw[hk]at U O;have hr:ts.length=153:=Option.some.inj O;simp only[Value.okWide,hj];refine⟨(l.take 152).toArray,Z,by rw[J];simp;omega,ts.take 152,U.symm,⟨1,by simp;omega⟩,λi v hv=>?_⟩;have hi:i<152:=by
  have:=(LM.1 hv).1;simp at this;omega
 have hs:l[i]?=some v:=by
  have h2:(l.take 152)[i]?=some v:=by simpa using hv
  rwa [L6,O0 hi]at h2
 obtain⟨u,hg,hw⟩:=hm i v (ox hs);rw[hr,NS (show i<153 by omega)]at hg;refine⟨u,?_,hw⟩;rw[show(ts.take 152).length=152 by simp;omega,NS hi,L6,O0 hi];exact hg
end
theorem Qsy {H:Type}{enc:TypeId×O8->H}{W:O7}{b0:Nat}{sp:Nat->Bool}{held:Bool}{v:O8}{d:DataW H}{ps:List MemPlace}(G:Value.okWide sV W .any base 38 v)(h:DataW.Trod enc sV W b0 sp held 38 v d ps):
  ∃(l:PwV) (hb:Nat),v=.agg (Z6 l++[Value.int .u8 (hb:Int)]).toArray/\hb<256/\PwA W l:=by
 obtain⟨cs,hb,rfl,I,J,O,U,ht⟩:=Qip (tq:=36) underlying38 underlying36 od od od od Z Z Z Z Z od od G h;obtain⟨l,h1,h2⟩:=Qsx J ht;refine⟨l,hb,?_,I,h2⟩;have:=O1 Array.toList (Value.agg.inj h1);rw[show cs=Z6 l from this]
end Go.Lg
