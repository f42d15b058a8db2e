/- Merged out of 31 texts. -/
import Derived.Test.YtdffckgdcegpaaaGreatDoorKnb
namespace Go.Proofs.YtdffckgdcegpaaaGreatDoor
open Go.Proofs.Tryz
open Go.Lg
def IxQ {α:Type}(q:α→Bool) (es:List α) (r:Value):Prop:=(r=.int .i64 (-1)∧∀m (hm:m<es.length),q (es[m]'hm)=false)∨∃(i:Nat) (hi:i<es.length),r=.int .i64 i∧q (es[i]'hi)=true∧∀m (hm:m<i),q (es[m]'(by omega))=false
theorem QeK {g:Nat}{fn:Func}[Fu prog g fn] {cap:LV}{q:Ed→Bool}{L:LN}{w:World}{v:Value}{es:List Ed}(h:qc L w.heap v es)
  (hk:∀(e:Ed) (E:World),Step [] w E→QM prog g ([.agg (Qz e).toArray]++cap) E λr w'=>r=.bool (q e)∧Step [] E w') :
  QM prog 157 [v,.func (.func g) #[] cap.toArray] w λr w'=>Step [] w w'∧IxQ q es r:=by
 have Z:=h.le;refine QM.of_W func157 O ntmps157 results157 (by simp) ?_;refine Qd<|Qf<|Qg<|Qd<|Qb<|x (Qw h O)<|Qb<|xe<|Qh<|QC (α:=Nat) [(4,5),(8,18)] (λz=>[(8,.int .i64 z)]) (λz w'=>z≤es.length∧Step [] w w'∧∀m (hm:m<es.length),m<z→q (es[m]'hm)=false) (λz=>es.length - z) (by rfl) 0 Lb ⟨Lm _,Step.refl _ _,λm _ U=>absurd U (Nat.not_lt_zero m)⟩ ?_;rintro k g1 E ⟨hk1,G,hq⟩
 refine Qd<|x (QD O O)<|xe<|Qg<|QI O (λV=>?_) (λV=>?_)
 ·refine Qy<|Qd<|Qf ?_;exact Qs ⟨[.int .i64 (-1)],Lb,G,.inl ⟨O,λm hm=>hq m hm (by omega)⟩⟩
 have H:k<es.length:=by omega
 refine Qj<|Qg<|Qh<|Qd<|Qb<|Qf<|Qd<|Qb<|Qb<|Qb<|xie (h.ext G) O O H λha Y=>x (QQ Y O O)<|xl O<|xc (first:=[]) (capt:=cap) O<|(hk (es[k]'H) E G).mono ?_;rintro r2 w2 ⟨rfl,S⟩;refine xe<|Q8 rfl (λJ=>?_) (λJ=>?_)
 ·refine Qd<|Qb<|Qf ?_;exact Qs ⟨[.int .i64 k],Lb,G.trans S,.inr ⟨k,H,O,J,λm hm=>hq m (by omega) hm⟩⟩
 refine Qj<|Qx<|QN O O<|Qb<|xe<|⟨k+1,by omega,Lb,H,G.trans S,λm hm hb=>?_⟩;by_cases e:m=k
 ·subst e;exact J
 exact hq m hm (by omega)
theorem QjN (es:List Ed) (s v:Int):nxt es s v=nxt (Zv es s) s v:=by
 induction es with
 | nil=>rfl
 | cons e es ih =>
  unfold Zv at *;rw[Mw];by_cases h:e.1=s
  ·rw[if_pos (by simpa using h),nxt,nxt,ih]
  rw[if_neg (by simpa using h),nxt,if_neg (λc=>h c.1),ih]
theorem Qhk:∀(l:List Ed) (s v:Int) (i:Nat) (hi:i<l.length),(∀e∈l,e.1=s)→(l[i]'hi).2.1=v→(∀m (hm:m<i),(l[m]'(by omega)).2.1≠v)→nxt l s v=(l[i]'hi).2.2
 | e::l,s,v,0,_,hs,E,_=>by rw[nxt,if_pos ⟨hs e Lh,E⟩];rfl
 | e::l,s,v,i+1,hi,hs,E,hm=>by
  rw[nxt,if_neg (λc=>hm 0 (by omega) c.2)];exact Qhk l s v i (by simpa using hi) (λe he=>hs e (Le _ he)) E (λm G=>hm (m+1) (by omega))
theorem Qhi:∀(l:List Ed) (s v:Int),(∀e∈l,e.2.1≠v)→nxt l s v=-1
 | [],_,_,_=>rfl
 | e::l,s,v,h=>by rw[nxt,if_neg (λc=>h e Lh c.2)];exact Qhi l s v (λe he=>h e (Le _ he))
theorem Qhr {b T:Nat}{n:Int}(e:Ed) (w:World) (G:QX w.heap b T [.int .i64 n]) :
  QM prog 158 ([.agg (Qz e).toArray]++[.pointer (some ⟨b,0,none⟩)]) w λr w'=>r=.bool (decide (e.2.1=n))∧Step [] w w':=by
 refine QM.of_W func158 O ntmps158 results158 (by simp) ?_;refine Qd<|xl O<|QS (us:=Qz e) O λb2 J E S H=>Qf<|Qd<|x (Qa O)<|x (Qc H O O)<|x (Qc (G.ext E) O O)<|x (Zf O O)<|Qf ?_;exact Qs ⟨[_],Lb,O,E⟩
theorem QiW {L:LN}{w:World}{va vm ve:Value}{st:Int}{a:QE}(h:qc L w.heap ve a.ed) (G:QK a) (s v:Int) (ha:0≤s) (J:s<a.st) :
  QM prog 78 [.agg #[va,.int .i64 st,vm,ve],.int .i64 s,.int .i64 v] w λr w'=>r=.int .i64 (nxt a.ed s v)∧Step [] w w':=by
 have hh:=G.st1;refine QM.of_W func78 O ntmps78 results78 (by simp) ?_;refine Qd<|xl O<|QS (us:=[va,.int .i64 st,vm,ve]) O λb3 w1 J hj hb=>xl O<|QS (us:=[.int .i64 v]) O λb5 w2 S hk hc=>Qf<|Qd<|x (Qo (hb.ext S) O O)<|Qb<|xl O<|xf<|(Qdd ((h.ext J).ext S) G.eds (λe he=>⟨(G.ed e he).1,by have:=(G.ed e he).2.1;omega⟩) s ha (by omega)).mono ?_;rintro vo w3 ⟨U,hE⟩;refine Qf ?_
 have hf:∀e∈Zv a.ed s,e.1=s:=λe he=>(Ya he).2;rw[QjN];refine Qd<|Qb<|x (ZF (l:=[]) (l':=[.tmp 5]))<|xl O<|xf<|(QeK (q:=λe=>decide (e.2.1=v)) (cap:=[.pointer (some ⟨b5,0,none⟩)]) hE (λe V H=>Qhr e V ((hc.ext U).ext H))).mono ?_;rintro r4 V ⟨H,E⟩;have Y:=((J.trans S).trans U).trans H;refine Or.elim E (λE=>?_) (λE=>?_)
 ·obtain ⟨rfl,hq⟩:=E;have e1:nxt (Zv a.ed s) s v=-1:=Qhi _ _ _ λe he=>by
   obtain ⟨i,hi,rfl⟩:=LO he;simpa using hq i hi
  rw[e1];refine Qf<|Qg<|Qd<|Qb<|x (QD O O)<|xe<|JU O ?_;refine Qd<|Qf ?_;exact Qs ⟨[.int .i64 (-1)],Lb,O,Y⟩
 obtain ⟨i,hi,rfl,h1,h2⟩:=E;have e1:nxt (Zv a.ed s) s v=((Zv a.ed s)[i]'hi).2.2:=Qhk _ s v i hi hf (by simpa using h1) (λm hm=>by simpa using h2 m hm);rw[e1];refine Qf<|Qg<|Qd<|Qb<|x (QD O O)<|xe<|Zc O (λZ=>absurd Z (by omega)) (λZ=>?_);refine Qj<|Qd<|Qb<|Qb<|xie (hE.ext H) O O hi λhl hg=>x (Zn O)<|x (Qv (hg.fld 2 _ O) O)<|Qf ?_;exact Qs ⟨[_],Lb,O,Y⟩
theorem QlU {a:QE}(E:QK a) {s v:Int}(h:¬nxt a.ed s v<0):nxt a.ed s v<a.st:=(E.ed _ (qU (by omega))).2.2.2.2
def cks (a:QE) (s:Int):Int:=if XW a≠0 then XW a else if s<0∨a.st≤s then 2 else 0
theorem VG {L:LN}{w:World}{va vm ve:Value}{a:QE}(h:Zi L w.heap va vm ve a) (s:Int) :
  QM prog 76 [.agg #[va,.int .i64 a.st,vm,ve],.int .i64 s] w λr w'=>r=.int .i64 (cks a s)∧Step [] w w':=by
 refine QM.of_W func76 O ntmps76 results76 (by simp) ?_;refine Qd<|xl O<|QS (us:=[va,.int .i64 a.st,vm,ve]) O λb2 Z S ha U=>Qf<|Qg<|Qd<|x (Qo U O O)<|xl O<|xf<|(Xk (h.ext S)).mono ?_;rintro r2 Y ⟨rfl,V⟩;refine Qf ?_;unfold cks;have E:=S.trans V;refine Qd<|Qb<|x (Zj O O)<|xe<|Zc rfl (λG=>?_) (λG=>?_)
 ·refine Qd<|Qb<|Qf ?_;exact Qs ⟨[_],Lb,by rw[if_pos G];rfl,E⟩
 rw[if_neg G];refine Qj<|Qg<|Q0 (α:=Unit) [(11,18)] (λz=>[(18,.bool (decide (s<0∨a.st≤s)))]) (λz w'=>w'=Y) (by rfl) ?_ ?_
 ·refine Qx<|Qb<|xb (QD O O) (λH=>?_) (λH=>?_)
  ·refine Qb<|xs O<|xs O<|xs O<|xs O<|x (Qp O)<|xe ?_;exact ⟨(),⟨by rw[decide_eq_true (Or.inl H)];rfl,La⟩,O⟩
  refine Qb<|Qb<|x (Qa O)<|x (Qc (U.ext V) O O)<|x (Yg O O)<|x (Qp O)<|xe ?_;exact ⟨(),⟨by show Value.bool (decide (a.st≤s))=_;simp[H],La⟩,rfl⟩
 rintro z g w3 rfl;refine Zc rfl (λJ=>?_) (λJ=>?_)
 ·refine Qd<|Qf ?_;exact Qs ⟨[_],Lb,by rw[if_pos J];rfl,E⟩
 refine Qj<|Qd<|Qf ?_;exact Qs ⟨[_],Lb,by rw[if_neg J];rfl,E⟩
theorem QiB {a:QE}{s:Int}(h:cks a s=0):QK a∧0≤s∧s<a.st:=by
 unfold cks at h;split at h
 ·rename_i h1;exact absurd h h1
 rename_i h1;split at h
 ·cases h
 rename_i h2;exact ⟨(Zp a).1 (Lt.1 h1),by omega,by omega⟩
def enb (a:QE) (s:Int):LI:=(Zv a.ed s).map (·.2.1)
theorem Qij {l:List Ed}{k:Nat}(h:k<l.length):(l.take (k+1)).map (·.2.1)=(l.take k).map (·.2.1)++[(l[k]'h).2.1]:=by
 rw[List.take_add_one,LK h,LA];rfl
theorem QdV {L:LN}{w:World}{va vm ve:Value}{a:QE}(h:Zi L w.heap va vm ve a) (s:Int) :
  QM prog 29 [.agg #[va,.int .i64 a.st,vm,ve],.int .i64 s] w λr w'=>Step [] w w'∧∃v,r=.tuple #[v,.int .i64 (cks a s)]∧(cks a s≠0→v=Zr)∧(cks a s=0→Qn 3 w.heap.size w' v (enb a s)):=by
 refine QM.of_W func29 O ntmps29 results29 (by simp) ?_;refine Qd<|xl O<|QS (us:=[va,.int .i64 a.st,vm,ve]) O λb2 w1 hf h3 hg=>x Qe<|Qf<|Qg<|Qd<|x (Qo hg O O)<|Qb<|xl O<|xf<|(VG (h.ext hf) s).mono ?_;rintro r2 w2 ⟨rfl,hh⟩;refine Qf ?_;have U:=hf.trans hh;refine Qd<|Qb<|x (Zj O O)<|xe<|Zc rfl (λV=>?_) (λV=>?_)
 ·refine Qd<|Qb<|x Qe<|Qf ?_;exact Qs ⟨[Zr,_],⟨O,O,La⟩,U,Zr,O,λ_=>O,λe=>absurd e V⟩
 have hc:cks a s=0:=Lt.1 V;obtain ⟨G,h0,h1⟩:=QiB hc;have h4:=G.st1;rw[hc];refine Qj<|Qd<|Qf<|Qg<|Qd<|x (Qo (hg.ext hh) O O)<|Qb<|xl O<|xf<|(Qdd (h.ed.ext U) G.eds (λe he=>⟨(G.ed e he).1,by have:=(G.ed e he).2.1;omega⟩) s h0 (by omega)).mono ?_;rintro vo w3 ⟨hl,hE⟩;refine x (Qw hE O)<|Qb<|xe ?_;have hj:=U.trans hl;have hm:=hj.size;have hn:=JX a.ed s
 have h5:=G.ed_le;refine Zs (Zv a.ed s) λos H=>?_;rw[H] at hE hn;refine Qh<|QC (α:=Nat×Value) [(7,7),(9,9),(20,29)] (λz=>[(7,z.2),(20,.int .i64 z.1)]) (λz w'=>z.1≤os.length∧Step [] w3 w'∧Qn 3 w3.heap.size w' z.2 ((os.take z.1).map (·.2.1))) (λz=>os.length - z.1) (by rfl) (0,nS) ⟨O,by rw[H];rfl,La⟩ ⟨Lm _,Step.refl _ _,QR _ _ _ _⟩ ?_;rintro ⟨k,v⟩ g w4 ⟨hk,S,J⟩
 simp only[] at hk J;have h6:=S.size;refine Qd<|x (QD O O)<|xe<|Qg<|QI O (λY=>?_) (λY=>?_)
 ·refine Qy<|Qd<|Qb<|x Qe<|Qf ?_;rw[Lq (by rw[H] at Y;omega)] at J;refine Qs ⟨[v,_],⟨O,O,La⟩,hj.trans S,v,O,λe=>absurd O e,λ_=>?_⟩;unfold enb;rw[H];exact QT J hm
 have E:k<os.length:=by rw[H] at Y;omega
 refine Qj<|Qg<|Qh<|Qd<|xie (hE.ext S) O O E λh7 hp=>x (QQ hp O O)<|xl O<|Qu (us:=[.int .i64 0,.int .i64 0,.int .i64 0]) O λb9 w5 hq hr hs=>xl O<|Qq (us:=Qz (os[k]'E)) hs O O O O ⟨O,O,O,La⟩ λw6 ht hu =>
  xe ?_
 have Z:Step [] w4 w6:=hq.then1 ht hr;have hv:=Qt J Z;refine Qx<|Qb<|x (Qa O)<|x (Qc hu O O)<|xl O<|QL (us:=[[.int .i64 (os[k]'E).2.1]]) O O (by decide) (by simp) ⟨rfl,rfl,La⟩ λh8 w7 ha h9 hw=>?_;have hy:=Qt hv ha;have hA:=(Z.trans ha).size;have hB:((os.take k).map (·.2.1)).length≤131072:=by simp;omega
 refine xl rfl<|QZ (news:=[.int .i64 (os[k]'E).2.1]) (L:=[]) hy O O O (hw.at (by simp)) (by simp[Value.oneCell']) (by omega) (by omega) λv8 w8 hz h2 hC=>Qf ?_;have hge:=Qm J;refine Qx<|QN O O<|Qb<|xe<|⟨(k+1,v8),by simp only[];omega,⟨O,O,La⟩,E,((S.trans Z).trans ha).then h2 (λb hb=>.inr (hge b hb).1),?_⟩;simp only[];rw[Qij E];exact Qn.snoc hz
theorem Qkz {a:QE}(G:QK a) (x v:Int):v∈enb a x↔0≤nxt a.ed x v:=by
 unfold enb;rw[Yr G];constructor
 ·intro h;obtain ⟨e,he,rfl⟩:=Lz.1 h;obtain ⟨h1,h2⟩:=Ya he;cases E:eget a.ed x e.2.1 with
  | some _=>rfl
  | none =>
   exfalso;have key:∀(l:List Ed),e∈l→eget l x e.2.1=none→False:=by
    intro l;induction l with
    | nil=>intro h;cases h
    | cons d l ih =>
     intro hm E;rw[eget] at E;split at E
     ·cases E
     rename_i H;rcases Li.1 hm with rfl | hm
     ·exact H ⟨h2,O⟩
     exact ih hm E
   exact key a.ed h1 E
 intro h;obtain ⟨u,hu⟩:=MD.1 h;have:=ZR hu;refine Lz.2 ⟨(x,v,u),?_,O⟩;unfold Zv;exact LH.2 ⟨this,by simp⟩
theorem Vm {p s:QE}(hp:QK p) (hs:QK s) (G:∀x∈s.al,x∈p.al):evs [p,s]=p.al:=by
 have E:∀a∈[p,s],QK a:=λa ha=>by
  simp only[List.mem_cons,List.not_mem_nil,or_false] at ha;rcases ha with rfl | rfl
  ·exact hp
  exact hs
 refine ZT.ext (QaQ E) hp.ali λx=>?_;rw[Xj E];simp only[List.mem_cons,List.not_mem_nil,or_false,exists_eq_or_imp,exists_eq_left];exact ⟨λh=>h.elim id (G x),.inl⟩
theorem Yq {p s:QE}(h:Xf p s=0):SyP [p,s] (Xa p s) (Zu p s)∧QK (Xa p s)∧((Zu p s).length=0↔p.st=0∨s.st=0):=by
 obtain ⟨h1,h2,h3,_⟩:=Yw h;have E:∀a∈[p,s],QK a:=λa ha=>by
  simp only[List.mem_cons,List.not_mem_nil,or_false] at ha;rcases ha with rfl | rfl
  ·exact h1
  exact h2
 obtain ⟨k1,k2⟩:=Xs E h3;exact ⟨k1,k1.okay E,by rw[k2];simp⟩
structure En where
 x:Int
 y:Int
 u:LI
def En.ky (e:En):Int×Int:=(e.x,e.y)
def dfr (a b:QE) (x y:Int):Bool:=!(decide (x=-1) == decide (y=-1)) || !(decide (x∈a.mr) == decide (y∈b.mr))
def enN (a b:QE) (e:En) (v:Int):En:=⟨nxt a.ed e.x v,nxt b.ed e.y v,e.u++[v]⟩
def eqS (a b:QE) (e:En) (L:List En) (v:Int):List En:=if (enN a b e v).ky≠(-1,-1)∧(enN a b e v).ky∉(L.drop 1).map En.ky then L++[enN a b e v] else L
def en0:En:=⟨-1,-1,[]⟩
def eqL (a b:QE) (al:LI):Nat→Nat→List En→Option (LI)
 | 0,_,_=>none
 | f+1,i,L=>if i<L.length then (if dfr a b (L.getD i en0).x (L.getD i en0).y=true then some (L.getD i en0).u else eqL a b al f (i+1) (al.foldl (eqS a b (L.getD i en0)) L)) else none
def eqI (a b:QE):List En:=[⟨if 0<a.st then 0 else -1,if 0<b.st then 0 else -1,[]⟩]
def eqv (a b:QE) (al:LI):Option (LI):=eqL a b al ((a.st.toNat+1)*(b.st.toNat+1)+1) 0 (eqI a b)
def St1 (a:QE) (x:Int):Prop:=-1≤x∧x<a.st
theorem Qew {a:QE}(E:QK a) (x v:Int):St1 a (nxt a.ed x v):=by
 have H:=E.st0;unfold St1;by_cases h:nxt a.ed x v<0
 ·have:nxt a.ed x v=-1:=by
   rw[Yh] at h ⊢;cases G:eget a.ed x v with
   | none=>rfl
   | some u =>
    rw[G] at h;have:=(E.ed _ (ZR G)).2.2.2.1;simp only[] at h this;omega
  omega
 have:=QlU E h;omega
structure EnI (a b:QE) (L:List En):Prop where
 ne:0<L.length
 st:∀e∈L,St1 a e.x∧St1 b e.y
 nd:((L.drop 1).map En.ky).Nodup
 wd:∀i (h:i<L.length),(L[i]'h).u.length≤i
theorem Qnv {a b:QE}(ha:QK a) (hb:QK b) {L:List En}(h:EnI a b L) {i:Nat}(hi:i<L.length) {e:En}(he:L[i]'hi=e) (v:Int):EnI a b (eqS a b e L v)∧∃r,eqS a b e L v=L++r:=by
 unfold eqS;split
 ·rename_i hc;refine ⟨⟨by simp,λd hd=>?_,?_,λk hk=>?_⟩,_,rfl⟩
  ·rcases Lp.1 hd with hd | hd
   ·exact h.st d hd
   simp only[List.mem_singleton] at hd;subst hd;exact ⟨Qew ha _ _,Qew hb _ _⟩
  ·rw[Nj (by have:=h.ne;omega),LA];exact Jn h.nd hc.2
  rcases Nz k L.length with E | hge
  ·rw[LT E];exact h.wd k E
  rw[Mr hge];have G:k=L.length:=by simp at hk;omega
  subst G;have:=h.wd i hi;rw[he] at this;simp[enN];omega
 exact ⟨h,[],by simp⟩
theorem EnI.le {a b:QE}(ha:QK a) (hb:QK b) {L:List En}(h:EnI a b L):L.length≤(a.st.toNat+1)*(b.st.toNat+1)+1:=by
 have U:=ha.st0;have h1:=hb.st0;have key:((L.drop 1).map λe:En=>((e.x+1)*((b.st.toNat+1:Nat):Int)+(e.y+1):Int)).Nodup:=by
  have G:=h.nd;unfold List.Nodup at G ⊢;rw[Mm] at G ⊢;refine List.Pairwise.imp_of_mem (λ{p q} hp hq H e=>H ?_) G;have sp:=h.st p (Mt hp);have sq:=h.st q (Mt hq);unfold St1 at sp sq;have hy:p.y=q.y∧p.x=q.x:=by
   have e2:((b.st.toNat+1:Nat):Int)=b.st+1:=by omega
   rw[e2] at e;have E:0≤p.y+1∧p.y+1<b.st+1:=by omega
   have l2:0≤q.y+1∧q.y+1<b.st+1:=by omega
   have m1:((p.x+1)*(b.st+1)+(p.y+1)) % (b.st+1)=p.y+1:=by rw[Int.mul_comm,Int.mul_add_emod_self_left];exact Int.emod_eq_of_lt E.1 E.2
   have V:((q.x+1)*(b.st+1)+(q.y+1)) % (b.st+1)=q.y+1:=by rw[Int.mul_comm,Int.mul_add_emod_self_left];exact Int.emod_eq_of_lt l2.1 l2.2
   have d1:((p.x+1)*(b.st+1)+(p.y+1)) / (b.st+1)=p.x+1:=by rw[Int.mul_comm,Int.mul_add_ediv_left _ _ (by omega),Int.ediv_eq_zero_of_lt E.1 E.2];omega
   have d2:((q.x+1)*(b.st+1)+(q.y+1)) / (b.st+1)=q.x+1:=by rw[Int.mul_comm,Int.mul_add_ediv_left _ _ (by omega),Int.ediv_eq_zero_of_lt l2.1 l2.2];omega
   rw[e] at m1 d1;constructor
   ·omega
   omega
  unfold En.ky;rw[hy.1,hy.2]
 have:=pig ((a.st.toNat+1)*(b.st.toNat+1)) _ key (λz J=>by
  obtain ⟨e,he,rfl⟩:=Lz.1 J;have se:=h.st e (Mt he);unfold St1 at se;have e1:0≤e.x+1∧e.x+1≤a.st.toNat:=by omega
  have e2:0≤e.y+1∧e.y+1≤b.st.toNat:=by omega
  obtain ⟨p,hp⟩:=Int.eq_ofNat_of_zero_le e1.1;obtain ⟨q,hq⟩:=Int.eq_ofNat_of_zero_le e2.1;rw[hp,hq];have S:p≤a.st.toNat:=by omega
  have Y:q≤b.st.toNat:=by omega
  have:p*(b.st.toNat+1)+q<(a.st.toNat+1)*(b.st.toNat+1):=by
   have:=MB (b.st.toNat+1) S;rw[Ms];omega
  refine ⟨Int.add_nonneg (Int.mul_nonneg (by omega) (by omega)) (by omega),?_⟩
  exact_mod_cast this)
 simp at this;omega
theorem Qnw (a b:QE) (E:0≤a.st) (h1:0≤b.st):EnI a b (eqI a b):=by
 refine ⟨by simp[eqI],λe he=>?_,by simp[eqI],λi hi=>?_⟩
 ·simp only[eqI,List.mem_singleton] at he;subst he;unfold St1;simp only[];constructor
  ·split <;> omega
  split <;> omega
 simp[eqI]
theorem QeV {a b:QE}{Rl:Int→Int→Prop}{al:LI}(hs:∀x y v,v∈al→Rl x y→Rl (nxt a.ed x v) (nxt b.ed y v)) {e:En}(he:Rl e.x e.y):∀(vs:LI) (L:List En),(∀v∈vs,v∈al)→(∀d∈L,Rl d.x d.y)→∀d∈vs.foldl (eqS a b e) L,Rl d.x d.y
 | [],L,_,h=>h
 | v::vs,L,E,h=>by
  refine QeV hs he vs (eqS a b e L v) (λu hu=>E u (Le _ hu)) λd hd=>?_;unfold eqS at hd;split at hd
  ·rcases Lp.1 hd with hd | hd
   ·exact h d hd
   simp only[List.mem_singleton] at hd;subst hd;exact hs e.x e.y v (E v Lh) he
  exact h d hd
theorem Qb9 {a b:QE}{Rl:Int→Int→Prop}{al:LI}(hs:∀x y v,v∈al→Rl x y→Rl (nxt a.ed x v) (nxt b.ed y v)) (hd:∀x y,Rl x y→dfr a b x y=false):∀(f i:Nat) (L:List En),(∀d∈L,Rl d.x d.y)→eqL a b al f i L=none
 | 0,_,_,_=>rfl
 | f+1,i,L,h=>by
  rw[eqL];split
  ·rename_i hi;have hm:L.getD i en0∈L:=by simp[List.getD,hi]
   rw[if_neg (by rw[hd _ _ (h _ hm)];simp)];exact Qb9 hs hd f (i+1) _ (QeV hs (h _ hm) al L (λ_ h=>h) h)
  rfl
theorem Qb8 {a b:QE}{Rl:Int→Int→Prop}{al:LI}(E:Rl (if 0<a.st then 0 else -1) (if 0<b.st then 0 else -1)) (hs:∀x y v,v∈al→Rl x y→Rl (nxt a.ed x v) (nxt b.ed y v)) (hd:∀x y,Rl x y→dfr a b x y=false):eqv a b al=none :=
 Qb9 hs hd _ _ _ (λd hd=>by simp only[eqI,List.mem_singleton] at hd;subst hd;exact E)
structure Bis (p s t:QE) (R:Int→Int→Int→Prop):Prop where
 init:R 0 0 0
 step:∀pn xn yn,R pn xn yn→∀v∈p.al,(Q7 v [p,s] [pn,xn]=none∧Q7 v [p,t] [pn,yn]=none)∨∃p' x' y',Q7 v [p,s] [pn,xn]=some [p',x']∧Q7 v [p,t] [pn,yn]=some [p',y']∧R p' x' y'
 mark:∀pn xn yn,R pn xn yn→Yd [p,s] [pn,xn]=Yd [p,t] [pn,yn]
theorem Bis.comp {p s r t:QE}{R1 R2:Int→Int→Int→Prop}(h:Bis p s r R1) (k:Bis p r t R2):Bis p s t (λpn xn yn=>∃c,R1 pn xn c∧R2 pn c yn):=by
 refine ⟨⟨0,h.init,k.init⟩,?_,?_⟩
 ·rintro pn xn yn ⟨c,h1,h2⟩ v E;rcases h.step pn xn c h1 v E with ⟨a1,a2⟩ | ⟨p',x',c',a1,a2,a3⟩
  ·rcases k.step pn c yn h2 v E with ⟨b1,b2⟩ | ⟨p',c',y',b1,b2,b3⟩
   ·exact .inl ⟨a1,b2⟩
   rw[a2] at b1;cases b1
  rcases k.step pn c yn h2 v E with ⟨b1,b2⟩ | ⟨p'',c'',y',b1,b2,b3⟩
  ·rw[a2] at b1;cases b1
  rw[a2] at b1;simp only[Option.some.injEq,List.cons.injEq,and_true] at b1;obtain ⟨rfl,rfl⟩:=b1;exact .inr ⟨p',x',y',a1,b2,c',a3,b3⟩
 rintro pn xn yn ⟨c,h1,h2⟩;exact (h.mark pn xn c h1).trans (k.mark pn c yn h2)
theorem SyP.mem_mr {aa:List QE}{A:QE}{Q:List (LI)}(h:SyP aa A Q) {j:Nat}(hj:j<Q.length):decide ((j:Int)∈A.mr)=Yd aa (Q.getD j []):=by
 rw[h.mk2];rw[Bool.eq_iff_iff];simp only[decide_eq_true_eq,List.mem_map,List.mem_filter,List.mem_range'_1];constructor
 ·rintro ⟨i,⟨_,h2⟩,h3⟩;have:i=j:=by omega
  subst this;exact h2
 intro h2;exact ⟨j,⟨by omega,h2⟩,O⟩
theorem QiV {p s t A B:QE}{QA QB:List (LI)}(E:SyP [p,s] A QA) (G:SyP [p,t] B QB) (ea:evs [p,s]=p.al) (eb:evs [p,t]=p.al) (J:QK A) (S:QK B) {R:Int→Int→Int→Prop}(h:Bis p s t R) (U:QA.length=0↔QB.length=0):eqv A B p.al=none:=by
 have ha:=E.st;have hb:=G.st;refine Qb8 (Rl:=λx y=>(x=-1∧y=-1)∨∃i j:Nat,x=i∧y=j∧i<QA.length∧j<QB.length∧∃pn xn yn,QA.getD i []=[pn,xn]∧QB.getD j []=[pn,yn]∧R pn xn yn) ?_ ?_ ?_
 ·by_cases V:QA.length=0
  ·left;have:=U.1 V;rw[if_neg (by omega),if_neg (by omega)];exact ⟨O,O⟩
  have h1:¬QB.length=0:=λe=>V (U.2 e);right;rw[if_pos (by omega),if_pos (by omega)];exact ⟨0,0,O,O,by omega,by omega,0,0,0,E.hd (by omega),G.hd (by omega),h.init⟩
 ·rintro x y v H (⟨rfl,rfl⟩ | ⟨i,j,rfl,rfl,hi,hj,pn,xn,yn,h1,h2,h3⟩)
  ·left;have key:∀{a:QE},QK a→nxt a.ed (-1) v=-1:=λ{a} Y=>by
    rw[Yh];cases Z:eget a.ed (-1) v with
    | none=>rfl
    | some u=>have:=(Y.ed _ (ZR Z)).1;simp only[] at this;omega
   exact ⟨key J,key S⟩
  have sA:=E.step hi v;have sB:=G.step hj v;rw[if_pos (by rw[ea];exact H),h1] at sA;rw[if_pos (by rw[eb];exact H),h2] at sB;rcases h.step pn xn yn h3 v H with ⟨a1,a2⟩ | ⟨p',x',y',a1,a2,a3⟩
  ·left;rw[a1] at sA;rw[a2] at sB;rw[Yh,Yh,sA,sB];exact ⟨O,O⟩
  right;have tA:=E.to hi (by rw[ea];exact H) (by rw[h1];exact a1);have tB:=G.to hj (by rw[eb];exact H) (by rw[h2];exact a2);rw[a1] at sA;rw[a2] at sB;refine ⟨QA.idxOf [p',x'],QB.idxOf [p',y'],?_,?_,tA.1,tB.1,p',x',y',tA.2,tB.2,a3⟩
  ·rw[Yh,sA];rfl
  rw[Yh,sB];rfl
 rintro x y (⟨rfl,rfl⟩ | ⟨i,j,rfl,rfl,hi,hj,pn,xn,yn,h1,h2,h3⟩)
 ·unfold dfr;have ma:decide ((-1:Int)∈A.mr)=false:=decide_eq_false λhm=>by have:=(J.mr _ hm).1;omega
  have mb:decide ((-1:Int)∈B.mr)=false:=decide_eq_false λhm=>by have:=(S.mr _ hm).1;omega
  rw[ma,mb];rfl
 unfold dfr;rw[E.mem_mr hi,G.mem_mr hj,h1,h2,h.mark pn xn yn h3,decide_eq_false (show ¬(i:Int)=-1 by omega),decide_eq_false (show ¬(j:Int)=-1 by omega)];simp
theorem Qaq {L:LN}{w:World}{v:Value}{l:LI}(h:QO L w.heap v l) (n:Int) :
  QM prog 241 [v,.int .i64 n] w λr w'=>r=.int .i64 (Kt n none l)∧w'=w:=by
 have hc:=h.le;refine QM.of_W func241 O ntmps241 results241 (by simp) ?_;refine Qd<|Qf<|Qg<|Qd<|Qb<|x (Qw h O)<|Qb<|xe<|Qh<|QC (α:=Nat) [(4,6),(9,34)] (λk=>[(9,.int .i64 k)]) (λk w'=>w'=w∧k≤l.length∧Kt n (pv l k) (l.drop k)=Kt n none l) (λk=>l.length - k) (by rfl) 0 Lb ⟨O,Lm _,O⟩ ?_;rintro k g U ⟨rfl,hk,hm⟩;refine Qd<|x (QD O O)<|xe<|Qg<|QI O (λV=>?_) (λV=>?_)
 ·refine Qy<|Qd<|Qf<|Qs ⟨[.int .i64 0],Lb,?_,O⟩;rw[←hm,Lr (by omega)];rfl
 have E:k<l.length:=by omega
 have hd:=Q9 E;rw[hd,Kt] at hm;refine Qj<|Qg<|Qh<|Qd<|Qb<|xii h O O E λhe Y=>x (Qv Y O)<|x Qe<|Qf<|Qh<|Q0 (α:=Bool) [(14,21)] (λz=>[(14,.bool z)]) (λz w'=>w'=U∧z=decide (l[k]<0∨n≤l[k])) (by rfl) ?_ ?_
 ·refine Qx<|Qb<|xb (QD O O) (λG=>?_) (λG=>?_)
  ·refine Qb<|xs O<|xs O<|xs O<|x (Qp O)<|Qf ?_;exact ⟨true,Lb,O,by simp[G]⟩
  refine Qb<|Qb<|Qb<|x (Yg O O)<|x (Qp O)<|Qf ?_;exact ⟨_,Lb,O,by simp[G]⟩
 rintro z g Z ⟨rfl,rfl⟩;refine Zc rfl (λH=>?_) (λH=>?_)
 ·refine Qd<|Qf<|Qs ⟨[.int .i64 2],Lb,?_,O⟩;rw[←hm,if_pos H];rfl
 rw[if_neg H] at hm;refine Q0 (α:=Bool) [(22,33)] (λz=>[(22,.bool z)]) (λz w'=>w'=Z∧z=zP (pv l k) l[k]) (by rfl) ?_ ?_
 ·refine Qx<|Qb<|xb (ZL O O) (λha=>?_) (λha=>?_)
  ·have hk1:((k:Int) - 1)=((k - 1:Nat):Int):=by omega
   refine Qb<|Qb<|Qb<|Qb<|x (JF O O ⟨by omega,by omega⟩)<|xii (i:=k - 1) h O (by show Value.int _ ((k:Int) - 1)=_;rw[hk1]) (by omega) λhf hb=>x (Qv hb rfl)<|x (JH rfl rfl)<|x (Qp rfl)<|Qf<|⟨_,⟨rfl,La⟩,rfl,?_⟩;have:pv l k=some l[k - 1]:=by
    have J:k≠0:=by omega
    simp[pv,J,show k - 1<l.length by omega]
   rw[this];rfl
  refine Qb<|xs O<|xs O<|xs O<|xs O<|xs O<|xs O<|xs O<|x (Qp O)<|Qf ?_;have J:k=0:=by omega
  exact ⟨false,Lb,O,by simp[pv,J,zP]⟩
 rintro z g w3 ⟨rfl,rfl⟩;refine Q8 rfl (λS=>?_) (λS=>?_)
 ·refine Qd<|Qf<|Qs ⟨[.int .i64 5],Lb,?_,O⟩;rw[←hm,if_pos S];rfl
 rw[if_neg (by simp[S])] at hm;refine Qj<|Qx<|QN O O<|Qb<|xe ?_;exact ⟨k+1,by omega,Lb,O,by omega,by rw[Kn E];exact hm⟩
theorem qy {L:LN}{w:World}{v:Value}{l:LI}(h:QO L w.heap v l) (n:Int) :
  QM prog 80 [v,.int .i64 n] w λr w'=>r=.int .i64 (Kt n none l)∧w'=w:=by
 have hc:=h.le;refine QM.of_W func80 O ntmps80 results80 (by simp) ?_;refine Qd<|Qf<|Qg<|Qd<|Qb<|x (Qw h O)<|Qb<|xe<|Qh<|QC (α:=Nat) [(4,6),(9,32)] (λk=>[(9,.int .i64 k)]) (λk w'=>w'=w∧k≤l.length∧Kt n (pv l k) (l.drop k)=Kt n none l) (λk=>l.length - k) (by rfl) 0 Lb ⟨O,Lm _,O⟩ ?_;rintro k g U ⟨rfl,hk,hm⟩;refine Qd<|x (QD O O)<|xe<|Qg<|QI O (λV=>?_) (λV=>?_)
 ·refine Qy<|Qd<|Qf<|Qs ⟨[.int .i64 0],Lb,?_,O⟩;rw[←hm,Lr (by omega)];rfl
 have E:k<l.length:=by omega
 have hd:=Q9 E;rw[hd,Kt] at hm;refine Qj<|Qg<|Qh<|Qd<|Qb<|xii h O O E λhe Y=>x (Qv Y O)<|x Qe<|Qf<|Qg<|Q0 (α:=Bool) [(14,20)] (λz=>[(20,.bool z)]) (λz w'=>w'=U∧z=decide (l[k]<0∨n≤l[k])) (by rfl) ?_ ?_
 ·refine Qx<|Qb<|xb (QD O O) (λG=>?_) (λG=>?_)
  ·refine Qb<|xs O<|xs O<|xs O<|x (Qp O)<|xe ?_;exact ⟨true,Lb,O,by simp[G]⟩
  refine Qb<|Qb<|Qb<|x (Yg O O)<|x (Qp O)<|xe ?_;exact ⟨_,Lb,O,by simp[G]⟩
 rintro z g Z ⟨rfl,rfl⟩;refine Zc rfl (λH=>?_) (λH=>?_)
 ·refine Qd<|Qf<|Qs ⟨[.int .i64 2],Lb,?_,O⟩;rw[←hm,if_pos H];rfl
 rw[if_neg H] at hm;refine Qj<|Q0 (α:=Bool) [(21,31)] (λz=>[(31,.bool z)]) (λz w'=>w'=Z∧z=zP (pv l k) l[k]) (by rfl) ?_ ?_
 ·refine Qx<|Qb<|xb (ZL O O) (λha=>?_) (λha=>?_)
  ·have hk1:((k:Int) - 1)=((k - 1:Nat):Int):=by omega
   refine Qb<|Qb<|Qb<|Qb<|x (JF O O ⟨by omega,by omega⟩)<|xii (i:=k - 1) h O (by show Value.int _ ((k:Int) - 1)=_;rw[hk1]) (by omega) λhf hb=>x (Qv hb rfl)<|x (JH rfl rfl)<|x (Qp rfl)<|xe<|⟨_,Lb,O,?_⟩;have:pv l k=some l[k - 1]:=by
    have J:k≠0:=by omega
    simp[pv,J,show k - 1<l.length by omega]
   rw[this];rfl
  refine Qb<|xs O<|xs O<|xs O<|xs O<|xs O<|xs O<|xs O<|x (Qp O)<|xe ?_;have J:k=0:=by omega
  exact ⟨false,Lb,O,by simp[pv,J,zP]⟩
 rintro z g w3 ⟨rfl,rfl⟩;refine Q8 rfl (λS=>?_) (λS=>?_)
 ·refine Qd<|Qf<|Qs ⟨[.int .i64 5],Lb,?_,O⟩;rw[←hm,if_pos S];rfl
 rw[if_neg (by simp[S])] at hm;refine Qj<|Qx<|QN O O<|Qb<|xe ?_;exact ⟨k+1,by omega,Lb,O,by omega,by rw[Kn E];exact hm⟩
theorem yC {L:LN}{w:World}{va vm ve v:Value}{a:QE}{l:LI}(h:QO L w.heap v l) :
  QM prog 186 [.agg #[va,.int .i64 a.st,vm,ve],v] w λr w'=>r=.int .i64 (Kt a.st none l)∧Step [] w w':=by
 refine QM.of_W func186 O ntmps186 results186 (by simp) ?_;refine Qd<|xl O<|QS (us:=[va,.int .i64 a.st,vm,ve]) O λb2 H E J G=>Qf<|Qd<|Qb<|x (Qa O)<|x (Qc G O O)<|xl O<|xf<|(Qaq (h.ext E) a.st).mono ?_;rintro r2 S ⟨rfl,rfl⟩;refine Qf ?_;exact Qs ⟨[.int .i64 (Kt a.st none l)],Lb,O,E⟩
theorem jT {L:LN}{w:World}{va vm ve:Value}{st:Int}{es:List Ed}(h:qc L w.heap ve es) :
  QM prog 239 [.agg #[va,.int .i64 st,vm,ve]] w λr w'=>Step [] w w'∧∃b,r=.map (some b)∧w.heap.size≤b∧ZE Zy w'.heap b (YW [] es):=by
 have hm:=h.le;refine QM.of_W func239 O ntmps239 results239 (by simp) ?_;refine Qd<|xl O<|QS (us:=[va,.int .i64 st,vm,ve]) O λb1 w1 U hn hc=>Qf<|Qd<|xl O<|ZM Zy λE Z H ho J=>Qf<|Qg<|Qd<|x (Qa O)<|x (Qc (hc.ext H) O O)<|x (Qw h O)<|Qb<|xe ?_;have hp:=U.size;have hq:=H.size;have hr:=J.lt
 have hE:qc [E] Z.heap ve es:=(h.up (L':=[E]) (λb hb=>.inr (by simp at hb;omega))).ext (U.trans H);refine Qh<|QC (α:=Nat) [(5,5),(10,22)] (λz=>[(10,.int .i64 z)]) (λz w'=>z≤es.length∧Step [E] Z w'∧ZE Zy w'.heap E (YW [] (es.take z))) (λz=>es.length - z) (by rfl) 0 Lb
  ⟨Lm _,Step.refl _ _,J⟩ ?_
 rintro k g w3 ⟨hk,S,V⟩;have hs:=S.size;refine Qd<|x (QD O O)<|xe<|Qg<|QI O (λhe=>?_) (λhe=>?_)
 ·refine Qy<|Qd<|Qb<|Qf ?_;rw[Lq (by omega)] at V;refine Qs ⟨[.map (some E)],Lb,(U.trans H).then1 S (by omega),E,O,by omega,V⟩
 have Y:k<es.length:=by omega
 refine Qj<|Qg<|Qh<|Qd<|xie (hE.st S) O O Y λht hf=>x (QQ hf O O)<|xl O<|Qu (us:=[.int .i64 0,.int .i64 0,.int .i64 0]) O λb5 w4 hg hh G=>xl O<|Qq (us:=Qz es[k]) G O O O O ⟨O,O,O,La⟩ λw5 hj G =>
  xe ?_
 have ha:Step [] w3 w5:=hg.then1 hj hh;refine Qx<|Qb<|x (Qa O)<|x (Qc G O O)<|x (Qa O)<|x (Qc G O O)<|x (QG ⟨O,O,La⟩)<|x (Qa O) <|
  x (Qc G O O)<|xl O<|Yx (k:=(es[k].1,es[k].2.1)) (V.ext ha) O O λw6 hl J=>xe ?_
 refine Qx<|QN O O<|Qb<|xe<|⟨k+1,by omega,Lb,Y,(S.trans ha).trans' hl,?_⟩;rw[yq Y];exact J
def flg (n:Nat) (l:LI):List Bool:=(List.range n).map λi:Nat=>decide ((i:Int)∈l)
theorem qX (n:Nat) (l:LI):(flg n l).length=n:=by simp[flg]
theorem QaI {n:Nat}{l:LI}{i:Nat}(h:i<(flg n l).length):(flg n l)[i]'h=decide ((i:Int)∈l):=by simp[flg]
theorem QaH {n:Nat}{l:LI}{x:Int}(E:0≤x):(flg n l).set x.toNat true=flg n (l++[x]):=by
 apply L9
 ·simp[flg]
 intro i h2 h3;rw[M0,QaI h3];by_cases e:x.toNat=i
 ·have:(i:Int)=x:=by omega
  rw[if_pos e,this];simp
 have:(i:Int)≠x:=by omega
 rw[if_neg e,QaI];simp[this]
theorem Qb4 {L:LN}{w:World}{va vm ve v:Value}{a:QE}{l:LI}{n:Nat}(h:QO L w.heap v l) (Y:a.st=(n:Int)) (hr:a.st≤4096) (hl:∀s∈l,0≤s∧s<a.st) :
  QM prog 187 [.agg #[va,.int .i64 a.st,vm,ve],v] w λr w'=>Step [] w w'∧∃b,r=.slice (some ⟨b,0,none⟩) n n∧w.heap.size≤b∧QX w'.heap b 4 ((flg n l).map Value.bool):=by
 have ht:=h.le;refine QM.of_W func187 O ntmps187 results187 (by simp) ?_;refine Qd<|xl O<|QS (us:=[va,.int .i64 a.st,vm,ve]) O λb2 w1 H hu hb=>Qf<|Qd<|x (Qa O)<|x (Qc hb O O)<|xl O<|YG (n:=n) (congrArg (Value.int .i64) Y) (congrArg (Value.int .i64) Y) (by omega) λG w2 Z hc he=>Qf ?_;have hf:=H.trans Z;have hg:QX w2.heap G 4 ((flg n (l.take 0)).map Value.bool):=by
  have e:(List.replicate n (Value.bool false).cells.toList).flatten=(flg n (l.take 0)).map Value.bool:=by
   simp only[flg,List.take_zero,List.not_mem_nil,decide_false,List.map_map];apply L9
   ·simp[Value.cells]
   intro i h1 h2;simp[Value.cells]
  rw[←e];exact he
 refine Qg<|Qd<|Qb<|x (Qw (h.ext hf) O)<|Qb<|xe<|Qh<|QC (α:=Nat) [(7,7),(13,20)] (λz=>[(13,.int .i64 z)]) (λz w'=>z≤l.length∧Step [] w1 w'∧QX w'.heap G 4 ((flg n (l.take z)).map Value.bool)) (λz=>l.length - z) (by rfl) 0 Lb ⟨Lm _,Z,hg⟩ ?_;rintro k g w3 ⟨hk,S,U⟩;refine Qd<|x (QD O O)<|xe<|Qg<|QI O (λV=>?_) (λV=>?_)
 ·refine Qy ?_;have hh:l.length≤k:=by have J:¬(k:Int)<(l.length:Int):=V;omega
  rw[Lq hh] at U;refine Qd<|Qb<|Qf ?_;have hv:=H.size;exact Qs ⟨[.slice (some ⟨G,0,none⟩) n n],Lb,H.trans S,G,O,by omega,U⟩
 have E:k<l.length:=by have J:(k:Int)<(l.length:Int):=V;omega
 have hx:=hl _ (Lj E);have ha:l.take (k+1)=l.take k++[l[k]'E]:=Ll E;refine Zs (l[k]'E) λs hs=>?_;rw[hs] at hx ha;have hj:s=(s.toNat:Int):=by omega
 have hm:=QaH (n:=n) (l:=l.take k) hx.1;refine Qj<|Qg<|Qh<|Qd<|xii (i:=k) ((h.ext H).ext S) O O E λhw J=>?_;rw[hs] at J;refine x (Qv J O)<|Qf<|Qx<|Qb<|Qb<|x (QP (i:=s.toNat) O (congrArg (Value.int .i64) hj) (by omega))<|xl O<|QH (j:=0+s.toNat*1) (u:=.bool true) U O O (by rw[Lo,qX];omega) O λw4 ho hp=>xe ?_
 have hq:QX w4.heap G 4 ((flg n (l.take (k+1))).map Value.bool):=by
  rw[ha,←hm,Np];simpa using hp
 refine Qx<|QN O O<|Qb<|xe ?_;exact ⟨k+1,by omega,Lb,E,S.then1 ho hc,hq⟩
def Rv (l:LI) (i:Nat) (li:LI):Prop:=∃h:li.length=l.length,∀k (hk:k<l.length),li[k]'(by omega)=if k<i∨l.length≤k+i then l[l.length - 1 - k]'(by omega) else l[k]'hk
theorem Rv.start (l:LI):Rv l 0 l:=⟨O,λk hk=>by rw[if_neg (by omega)]⟩
theorem Rv.next {l li:LI}{i:Nat}(h:Rv l i li) (hi:i<l.length - 1 - i):Rv l (i+1) ((li.set i (l[l.length - 1 - i]'(by omega))).set (l.length - 1 - i) (l[i]'(by omega))):=by
 obtain ⟨h1,h2⟩:=h;refine ⟨by simp[h1],λk hk=>?_⟩;rw[M0,M0];by_cases e1:l.length - 1 - i=k
 ·rw[if_pos e1,if_pos (by omega)];congr 1;omega
 rw[if_neg e1];by_cases e2:i=k
 ·rw[if_pos e2,if_pos (by omega)];subst e2;rfl
 rw[if_neg e2,h2 k hk];by_cases e3:k<i∨l.length≤k+i
 ·rw[if_pos e3,if_pos (by omega)]
 rw[if_neg e3,if_neg (by omega)]
theorem Rv.fin {l li:LI}{i:Nat}(h:Rv l i li) (hi:l.length - 1 - i≤i) (G:2*i≤l.length):li=l.reverse:=by
 obtain ⟨h1,h2⟩:=h;apply L9
 ·simp[h1]
 intro k hk H;have E:k<l.length:=by omega
 rw[h2 k E,List.getElem_reverse];by_cases e:k<i∨l.length≤k+i
 ·rw[if_pos e]
 rw[if_neg e];congr 1;omega
theorem Rv.at_i {l li:LI}{i:Nat}(h:Rv l i li) (hi:i<l.length - 1 - i):∃(E:i<li.length) (h3:l.length - 1 - i<li.length),li[i]'E=l[i]'(by omega)∧li[l.length - 1 - i]'h3=l[l.length - 1 - i]'(by omega):=by
 obtain ⟨h1,h2⟩:=h;refine ⟨by omega,by omega,?_,?_⟩
 ·rw[h2 i (by omega),if_neg (by omega)]
 rw[h2 _ (by omega),if_neg (by omega)]
theorem yJ {w:World}{base:Nat}{v:Value}{l:LI}(h:Qn 3 base w v l) (hf:l.length≤1099511627776) :
  QM prog 182 [v] w λ_ w'=>Qn 3 base w' v l.reverse∧Step (ob v) w w':=by
 refine QM.of_W func182 O ntmps182 results182 (by simp) ?_;refine Qd<|Qb<|x (Qw (QW (L:=[]) h hf (by simp)) rfl)<|x (JF rfl rfl ⟨by omega,by omega⟩)<|x Qe<|Qf<|Qh<|QC (α:=Nat×LI) [(2,3),(7,27)] (λz=>[(2,.int .i64 z.1),(3,.int .i64 ((l.length:Int) - 1 - z.1))])
  (λz w'=>Rv l z.1 z.2∧2*z.1≤l.length∧Step (ob v) w w'∧Qn 3 base w' v z.2) (λz=>l.length - z.1) (by rfl) (0,l) ⟨O,congrArg (Value.int .i64) (by simp),La⟩ ⟨Rv.start l,by simp,Step.refl _ _,h⟩ ?_
 rintro ⟨i,li⟩ g H ⟨G,V,Y,E⟩;simp only[] at G V E;refine Qg<|Qd<|Qb<|Qb<|x (QD O O)<|xe<|QI rfl (λU=>?_) (λU=>?_)
 ·refine Qy ?_;have hh:¬(i:Int)<(l.length:Int) - 1 - (i:Int):=U;rw[G.fin (by omega) V] at E;exact ⟨[],La,E,Y⟩
 have hh:(i:Int)<(l.length:Int) - 1 - (i:Int):=U;have Z:i<l.length - 1 - i:=by omega
 have hj:(l.length:Int) - 1 - (i:Int)=((l.length - 1 - i:Nat):Int):=by omega
 have hq:li.length=l.length:=G.1;have hk:=G.next Z;refine Exists.elim (G.at_i Z) λh0 J=>Exists.elim J λh3 J=>?_;refine Exists.elim (UM E (by omega)) λgg hg=>Exists.elim hg λcap S=>?_;have ha:QO [] H.heap v li:=QW E (by omega) (by simp)
 refine Qj<|Qg<|Qh<|QV (Step [] H) [(0,true),(1,true),(2,true),(3,true),(4,true),(5,true),(6,true),(7,true),(8,true),(9,true),(10,true),(11,true),(12,true),(13,false),(14,true),(15,false)] mixed (by rfl) (by kernel_rfl) (Step.drew _ _) ?_;refine p (λ_=>Ql)<|p (λ_=>Ql)<|p (λ_=>Ql)<|p (λ_=>Ql)<|p (λ_=>Ql)<|p (λ_=>Ql)<|pii (i:=l.length - 1 - i) O ha O (congrArg (Value.int .i64) hj) h3 λhs hb=>?_
 rw[J.2] at hb;refine pq (λ_ hc=>Qv (hb.ext hc) O)<|p (λ_=>Ql)<|p (λ_=>Ql)<|pii (i:=i) O ha O O h0 λht he=>?_;rw[J.1] at he;refine pq (λ_ hc=>Qv (he.ext hc) O)<|p (λ_=>QP (i:=i) (show ev _ _=_ from S) O (by omega)) <|
  pkl (hl:=by kernel_rfl)<|UO (Qt E (Step.drew [] H)) S O O h0 λw2 hm hn=>p (λ_=>QP (i:=l.length - 1 - i) (show ev _ _=_ from S) (congrArg (Value.int .i64) hj) (by omega)) <|
  pkl (hl:=by kernel_rfl)<|UO hn (by rw[MV];exact S) O O (by rw[MV];exact h3) λw3 ho hp=>pe ?_
 refine Qx<|Qb<|QN O O<|Qb<|x (JF O O ⟨by omega,by omega⟩)<|x Qe<|Qf ?_;exact ⟨(i+1,_),by simp only[];omega,⟨O,congrArg (Value.int .i64) (by omega),La⟩,hk,by simp only[];omega,((Y.trans (Step.drew [] H)).trans' hm).trans' ho,hp⟩
end Go.Proofs.YtdffckgdcegpaaaGreatDoor
namespace Go.Lg
open Go.RowKit
def upY (P:Program) (m:Nat) (dst:Option Nat) (f:Fr) (K:Fr→World→Prop):Result Next→Prop
 | .ok (.value v) w'=>K (Q4 f dst v) w'
 | .ok .skip w'=>K (Q4 f dst undef) w'
 | .ok (.enter g args) w'=>Calls P g args w' λe E=>match e with | .returned v=>K (Q4 f dst v) E | _=>False
 | .ok (.round l fn tmps assign body) w'=>RoundIn (fen none) (m - 1) P l fn tmps assign body w' λe E=>match e with | .returned v=>K (Q4 f dst v) E | _=>False
 | _=>False
def XOY (P:Program) (m:Nat) (o:Oper) (f:Fr) (w:World) (K:Fr→World→Prop):Prop:=upY P m o.dst f K ((execOp (ev f) o).run P w)
def Jy (P:Program) (m:Nat) (ops:List Oper) (K:Fr→World→Prop):List Oper→Fr→World→Prop
 | [],f,w=>K f w
 | o::l,f,w=>bif YD ops f o then XOY P m o f w (Jy P m ops K l) else Jy P m ops K l (Q4 f o.dst undef) w
section
variable {m:Nat} {P:Program} {n:Nat} {ds:LN}
theorem XOY.of_XO {o:Oper}{f:Fr}{w:World}{K K':Fr→World→Prop}(E:∀f w,K f w→K' f w) (h:XO P o f w K):XOY P m o f w K':=by
 unfold XO at h;unfold XOY;generalize (execOp (ev f) o).run P w=r at h;cases r with
 | ok nx w' =>
  cases nx <;> simp only[upF] at h <;> simp only[upY]
  case value v=>exact E _ _ h
  case skip=>exact E _ _ h
  case enter g args =>
   refine Calls.mono h λe G he=>?_;cases e with
   | returned v=>exact E _ _ he
   | panicked c=>exact he.elim
   | outgrown=>exact he.elim
 | halt x w'=>exact h.elim
theorem Jy.pre {ops:List Oper}{K:Fr→World→Prop}{l2:List Oper}:∀(E:List Oper) (f:Fr) (w:World),XL P ops (λf w=>Jy P m ops K l2 f w) E f w→Jy P m ops K (E++l2) f w
 | [],f,w,h=>by unfold XL at h;exact h
 | o::E,f,w,h=>by
  unfold XL at h;show (bif YD ops f o then XOY P m o f w (Jy P m ops K (E++l2)) else Jy P m ops K (E++l2) (Q4 f o.dst undef) w);cases G:YD ops f o with
  | false=>rw[G] at h;exact Jy.pre E _ _ h
  | true=>rw[G] at h;exact XOY.of_XO (λf w h=>Jy.pre E f w h) h
theorem Jy.pre2 {ops:List Oper}{K:Fr→World→Prop}{o1 o2:Oper}{l2:List Oper}{f:Fr}{w:World}(h:XL P ops (λf w=>Jy P m ops K l2 f w) [o1,o2] f w):Jy P m ops K (o1::o2::l2) f w:=Jy.pre [o1,o2] f w h
theorem Jy.of_XL {ops:List Oper}{K:Fr→World→Prop}{l:List Oper}{f:Fr}{w:World}(h:XL P ops K l f w):Jy P m ops K l f w:=by
 have:=Jy.pre (m:=m) (l2:=[]) l f w h
 rwa [LU] at this
theorem QiY {o:Oper}{a:Act}{f:Fr}{w:World}{K:Fr→World→Prop}{K':Act→World→Prop}{Q:Exit→Act→World→Prop}(h:YP n ds a f)
  (E:∀v w',K (Q4 f o.dst v) w'→K' (a.put o.dst v) w') (hx:XOY P m o f w K):o.wpIn (fen none) m P a w K' Q:=by
 unfold XOY at hx;refine ⟨λ_ _=>trivial,?_⟩;have e:Oper.semAt (fen none).round a.eval o=execOp (ev f) o:=by rw[h.eval];rfl
 rw[e];generalize (execOp (ev f) o).run P w=r at hx;cases r with
 | ok nx w' =>
  cases nx <;> simp only[upY] at hx <;> simp only[Oper.uponIn]
  case value v=>exact E v w' hx
  case skip=>exact E _ w' hx
  case enter g args =>
   refine ⟨λh=>by simp[Fence.wide] at h,?_⟩;refine (callsIn_wide (n:=m - 1)).2 (Calls.mono hx λe G he=>?_);cases e with
   | returned v=>exact E v G he
   | panicked c=>exact he.elim
   | outgrown=>exact he.elim
  case round l fn tmps assign body =>
   refine ⟨λh=>by simp[Fence.wide] at h,?_⟩;refine RoundIn.mono hx λe G he=>?_;cases e with
   | returned v=>exact E v G he
   | panicked c=>exact he.elim
   | outgrown=>exact he.elim
 | halt x w'=>exact hx.elim
theorem QcH {Q:Exit→LN→Fr→World→Prop}{all:List Oper}(G:∀o∈all,∀d,o.dst=some d→d<n) (f0:Fr) :
  ∀(l:List Oper) (k:Nat) (a:Act) (f:Fr) (w:World),(∀j,l[j]?=all[k+j]?)→YP n ds a f→(∀t,ZU all t=false→f t=f0 t) →
   Jy P m all (λf w=>Q .normal ds f w) l f w →
   wpOpsIn (fen none) m P all.toArray (λe U w'=>∃ds' f',YP n ds' U f'∧(∀t,ZU all t=false→f' t=f0 t)∧Q e ds' f' w') (List.range' k l.length) a w
 | [],_,a,f,w,_,E,hk,h=>⟨ds,f,E,hk,by unfold Jy at h;exact h⟩
 | o::l,k,a,f,w,hl,E,hk,h=>by
  have J:all[k]?=some o:=by simpa using (hl 0).symm
  have H:o∈all:=Ml J;have ih:=λa f w=>QcH (Q:=Q) G f0 l (k+1) a f w (λj=>by have:=hl (j+1);simpa[Nat.add_assoc,Nat.add_comm 1 j] using this);have next:∀v,(∀t,ZU all t=false→Q4 f o.dst v t=f0 t):=λv t ht=>(YL (Jl H ht) v).trans (hk t ht);simp only[List.length_cons,List.range'_succ,wpOpsIn,List.getElem?_toArray,J];rw[VI E G o];unfold Jy at h;cases S:YD all f o with
  | false =>
   rw[S] at h;exact ⟨λ_ _=>trivial,ih _ _ _ (E.put (G o H) _) (next _) h⟩
  | true =>
   rw[S] at h;exact QiY E (λv w' hx=>ih _ _ _ (E.put (G o H) v) (next v) hx) h
theorem Vu {Q:Exit→LN→Fr→World→Prop}{f:Fr}{w:World}{id:Nat}{l:List Oper}(E:JL n l=true) (h:Jy P m l (λf w=>Q .normal ds f w) l f w):WG none m P n (.region id l.toArray false) Q ds f w:=by
 unfold WG;intro a ha;refine wpIn_region ?_;have:=QcH (m:=m) (Y4 E) f l 0 a f w (by simp) ha (λ_ _=>rfl) h;simpa[List.range_eq_range',XY] using this
theorem xy {ops:List Oper}{rest:List Oper}{f:Fr}{w:World}{K:Fr→World→Prop}{d:Option Nat}{ty:Nat}{ps:String}{af:Array Edge}{gd:Option (Nat×Bool)}{x y:Operand}{at_:Array Nat}{l:Nat}{R:Ending→World→Prop}
  (hx:ev f x=.func (.yield l) #[] #[]) (hy:YieldAt (fen none) (m - 1) P l #[ev f y] w R) (E:∀e w',R e w'→∃v,e=.returned v∧Jy P m ops K rest (Q4 f d v) w')
  (G:YD ops f ⟨d,.call ⟨.value x,[y].toArray,at_⟩,ty,ps,af,gd⟩=true:=by rfl) :
  Jy P m ops K (⟨d,.call ⟨.value x,[y].toArray,at_⟩,ty,ps,af,gd⟩::rest) f w:=by
 obtain ⟨fn,tmps,assign,body,h1,h2⟩:=hy;have H:(execOp (ev f) ⟨d,.call ⟨.value x,[y].toArray,at_⟩,ty,ps,af,gd⟩).run P w=.ok (.round l fn tmps assign body) w:=by
  simp[execOp,resolve,hx,Deferred.ofValue,invoke,h1]
 unfold Jy;rw[G];simp only[XOY,H,upY,cond_true];exact h2.mono λe w' h=>by obtain ⟨v,rfl,hk⟩:=E e w' h;exact hk
end
attribute [irreducible] Jy
structure Lw (B:Nat) (L:LN) (w w':World):Prop where
 os:w'.os=w.os
 tape:w'.tape=w.tape
 output:w'.output=w.output
 size:w.heap.size≤w'.heap.size
 low:∀k,k<B→k∉L→w'.heap[k]?=w.heap[k]?
theorem Lw.refl (B:Nat) (L:LN) (w:World):Lw B L w w:=⟨O,O,O,Lv _,λ_ _ _=>O⟩
theorem Lw.trans {B:Nat}{L:LN}{E w w':World}(h:Lw B L E w) (k:Lw B L w w'):Lw B L E w' :=
 ⟨k.os.trans h.os,k.tape.trans h.tape,k.output.trans h.output,L5 h.size k.size,λi hi G=>(k.low i hi G).trans (h.low i hi G)⟩
theorem Step.lw {L:LN}{w w' E:World}(h:Step L w w') (k:Lw w.heap.size L w' E):Step L w E :=
 ⟨k.os.trans h.os,k.tape.trans h.tape,k.output.trans h.output,L5 h.size k.size,λi hi G=>(k.low i hi G).trans (h.block i hi G)⟩
structure Jj (B:Nat) (L:LN) (W W':World):Prop where
 lw:Lw B L W W'
 other:∀(k:Nat) (o:Obj),W.heap[k]?=some o→o.isCells=false→W'.heap[k]?=some o
theorem Jj.refl (B:Nat) (L:LN) (w:World):Jj B L w w:=⟨Lw.refl _ _ _,λ_ _ h _=>h⟩
theorem Jj.trans {B:Nat}{L:LN}{E w w':World}(h:Jj B L E w) (k:Jj B L w w'):Jj B L E w':=⟨h.lw.trans k.lw,λi o hi G=>k.other i o (h.other i o hi G) G⟩
theorem Jj.step {B:Nat}{L X:LN}{W W':World}(h:Step X W W') (J:B≤W.heap.size) (E:∀b∈X,(b∈L∨B≤b)∧∃o:Obj,W.heap[b]?=some o∧o.isCells=true):Jj B L W W':=by
 refine ⟨⟨h.os,h.tape,h.output,h.size,λk hk G=>h.block k (by omega) (λhx=>?_)⟩,λk o hk H=>?_⟩
 ·rcases (E k hx).1 with h1 | h1
  ·exact G h1
  omega
 refine (h.block k (LG.1 hk).1 (λhx=>?_)).trans hk;obtain ⟨S,h1,h2⟩:=(E k hx).2;rw[hk] at h1;cases h1;rw[H] at h2;cases h2
theorem Jj.ext {B:Nat}{L:LN}{W W':World}(h:Step [] W W') (E:B≤W.heap.size):Jj B L W W':=Jj.step h E (λ_ hb=>by cases hb)
theorem QX.cells {H:Array Obj}{b T:Nat}{cs:LV}(h:QX H b T cs):∃o:Obj,H[b]?=some o∧o.isCells=true:=⟨_,h,O⟩
theorem Jj.blk {B:Nat}{L:LN}{W W':World}{b T:Nat}{cs:LV}(h:Step [b] W W') (E:B≤W.heap.size) (hb:QX W.heap b T cs) (G:b∈L∨B≤b):Jj B L W W' :=
 Jj.step h E (λc hc=>by
  have e:c=b:=by simpa using hc
  subst e;exact ⟨G,hb.cells⟩)
def Yf (B:Nat) (I:World→Prop):Prop:=∀W W' X,I W→Step X W W'→(∀r∈X,B≤r∧∃o:Obj,W.heap[r]?=some o∧o.isCells=false)→I W'
theorem Yf.own {β:Type}{B:Nat}{I:β→World→Prop}(h:∀s,Yf B (I s)):OwnFrom B I:=λs W W' row hs G H =>
 h s W W' _ hs (Step.of_grown G) (λr E=>H r (by cases row <;> simp at E ⊢;exact E.symm))
theorem Yf.blk {B:Nat}{b T:Nat}{cs:LV}:Yf B (λW=>QX W.heap b T cs):=λW W' X h hs E=>h.step hs (λhb=>by
 obtain ⟨_,o,h1,h2⟩:=E b hb;unfold QX at h;rw[h] at h1;cases h1;cases h2)
theorem Yf.and {B:Nat}{I J:World→Prop}(h:Yf B I) (k:Yf B J):Yf B (λW=>I W∧J W):=λW W' X hi hs E=>⟨h W W' X hi.1 hs E,k W W' X hi.2 hs E⟩
theorem Yf.ex {B:Nat}{β:Type}{I:β→World→Prop}(h:∀z,Yf B (I z)):Yf B (λW=>∃z,I z W):=λW W' X ⟨z,hi⟩ hs E=>⟨z,h z W W' X hi hs E⟩
theorem Yf.pure {B:Nat}(p:Prop):Yf B (λ_=>p):=λ_ _ _ h _ _=>h
theorem Yf.step {B:Nat}{L:LN}{w:World}(G:w.heap.size≤B):Yf B (λW=>Step L w W):=λW W' X h hs E=>h.then hs (λb hb=>.inr (by have:=(E b hb).1;omega))
theorem ZI {w:World}{base e sz n:Nat}{v:Value}{cs:LV}(h:w.ownsRow base e sz v n cs):∀b∈ob v,∃o:Obj,w.heap[b]?=some o∧o.isCells=true:=by
 intro b hb;rcases h.2 with ⟨h1,_⟩ | ⟨g,cap,cur,h1,h2,h3,_⟩
 ·subst h1;simp[ob] at hb
 subst h1;simp[ob] at hb;subst hb;exact ⟨_,h3,O⟩
theorem Yf.row {B base e sz n:Nat}{v:Value}{cs:LV}:Yf B (λW=>W.ownsRow base e sz v n cs):=λW W' X h hs E=>Qi h hs (λb hb hx=>by
 obtain ⟨_,o,h1,h2⟩:=E b hx;obtain ⟨G,h3,h4⟩:=ZI h b hb;rw[h1] at h3;cases h3;rw[h2] at h4;cases h4)
theorem Qk1 {α:Type}{m:Nat}{P:Program}{n:Nat}{Q:Exit→LN→Fr→World→Prop}{ds:LN}{f:Fr}{w:World}{g:Operand}{p:Nat}{assign body:Code}(L:LN) (h1:1≤m)
  {gf:Nat} {fn:Func} [hF:Fu P gf fn] {capt:LV} (Y:ev f g=.func (.func gf) #[] capt.toArray) {enc:α→Value} {S:List α→Prop} {N:Nat} (hp:p<n)
  (Z:SeqStopsK (fen none) (m - 1) P gf capt.toArray (λx=>#[enc x]) (Lw w.heap.size L) S (λ_=>True) N w)
  (I:List α→World→Prop) (hI:∀s,Yf w.heap.size (I s)) (h0:I [] w) (A:Fr→α→Fr→World→Prop) (hA:∀x E,Yf w.heap.size (A f x E))
  (J:∀l pre x W,I pre W→WG (some l) (m - 1 - 1) P n assign (QcX (λH E W'=>H=[]∧Jj w.heap.size L W W'∧I pre W'∧A f x E W') (λ_ _ _ _=>False)) [] (upd f p (enc x)) W)
  (U:∀l pre x E W,I pre W→A f x E W→pre.length<N→WG (some l) (m - 1 - 1) P n body (QcX (λ_ _ W'=>Jj w.heap.size L W W'∧I (pre++[x]) W') (λ_ _ _ _=>False)) [] E W)
  (hb:∀D xs W,w.heap.size≤D→S xs→I xs W→W.heap[D]?=some (.deferred (some []))→Q .normal (D::ds) f W) :
  WG none m P n (.rangeFunc g #[p] assign body) Q ds f w:=by
 unfold WG at J U ⊢;intro a ha;have eg:∀args w,(callFunc gf args).run P w=.ok (.enter gf args) w:=by
  intro args w;have h1:¬fn.name = "runtime.NumGoroutine" := by simpa using hF.nm
  have h2:¬fn.body=none:=by have:=hF.b;intro e;rw[e] at this;cases this
  simp[callFunc,hF.f,h1,h2]
 have keep:∀{W W':World},Jj w.heap.size L W W'→KeepsFrom w.heap.size W W':=λh=>⟨h.lw.size,λk o _ hk V=>h.other k o hk V⟩;refine wpIn_rangeFunc_ownH (F:=fen none) O h1 (gf:=gf) (lb:=capt.toArray) (by rw[ha.eval];exact Y) La eg Z (λh k=>h.trans k)
  (λW l o o' hl V _ _=>⟨O,O,O,by simp,λk hk _=>World.putObj_heap_other (by omega)⟩) (Below.refl _ _) (λ_=>rfl) I (λ_ _ _=>False) (Yf.own hI) (λ_ _ _ _ _ hs _ _=>hs) h0
  (λx G W=>∃E,YP n [] G E∧A f x E W) (λx G=>Yf.own λ_=>Yf.ex λE=>Yf.and (Yf.pure _) (hA x E)) ?_ ?_ ?_ ?_
 ·intro l pre x W K hi hK;have hr:YP n [] { tmps:=((#[p]:Array Nat).zip #[enc x]).foldl (λt (p,v)=>t.setIfInBounds p v) a.tmps,defers:=[] } (upd f p (enc x)):=by
   have h2:YP n [] { a with defers:=[] } f:=⟨ha.size,O,ha.get⟩
   have h3:=h2.put (dst:=some p) (λd e=>by cases e;exact hp) (enc x);have e:((#[p]:Array Nat).zip #[enc x]).foldl (λt (p,v)=>t.setIfInBounds p v) a.tmps=a.tmps.setIfInBounds p (enc x):=by simp
   rw[e];exact h3
  refine wpIn_mono (J l pre x W hi _ hr) ?_;rintro e G W' ⟨H,E,h2,_,h3⟩;cases e with
  | normal=>obtain ⟨rfl,h4,h5,h6⟩:=h3;exact hK G W' (keep h4) h4.lw h5 ⟨E,h2,h6⟩
  | exit id=>exact h3.elim
  | goto l=>exact h3.elim
  | ret=>exact h3.elim
  | panic ch=>exact h3.elim
  | outgrown=>exact h3.elim
 ·rintro l pre x G W _ _ hi ⟨E,h2,h3⟩ hc;refine wpIn_mono (U l pre x E W hi h3 hc G h2) ?_;rintro e he W' ⟨H,hf,h4,_,h5⟩;cases e with
  | normal=>exact ⟨keep h5.1,h5.1.lw,h5.2⟩
  | exit id=>exact h5.elim
  | goto l=>exact h5.elim
  | ret=>exact h5.elim
  | panic ch=>exact h5.elim
  | outgrown=>exact h5.elim
 ·intro D xs W hD hS hi hd;exact ⟨D::ds,f,⟨ha.size,by rw[show coll (D::ds)={ target:=.collected D,args:=#[] }::coll ds from rfl,ha.defers],ha.get⟩,λ_ _=>rfl,hb D xs W hD hS hi hd⟩
 intro D c pre W _ _ h _;exact h.elim
def QmB (P:Program) (t:Nat):Option (LV×List (Nat×Nat)):=match P.info? t,P.underlying t with
 | some it,some (.struct fs)=>match it.zero,fs.toList.mapM (λf=>(P.info? f.type).map λi=>(f.offset,i.size)) with
  | some (.agg zs),some pl=>some (zs.toList,pl)
  | _,_=>none
 | _,_=>none
class Bw (P:Program) (t:Nat) (zs:outParam (LV)) (pl:outParam (List (Nat×Nat))):Prop where
 h:QmB P t=some (zs,pl)
 b:pl.all (λx=>x.1+x.2≤zs.length)=true
def Qbr:LV→Nat→LV→LV
 | zs,_,[]=>zs
 | zs,o,u::us=>Qbr (zs.set o u) (o+1) us
def QiU (pl:List (Nat×Nat)) (zs:LV):List (Nat×LV)→LV
 | []=>zs
 | (j,us)::ps=>QiU pl (Qbr zs (pl.getD j (0,0)).1 us) ps
def Qk5:List (Nat×Value)→List (Nat×LV)→Prop
 | [],[]=>True
 | (j,v)::vs,(j',us)::uss=>v.cells=us.toArray∧j=j'∧Qk5 vs uss
 | _,_=>False
theorem Qbq:∀(us zs:LV) (o:Nat),(Qbr zs o us).length=zs.length
 | [],_,_=>rfl
 | u::us,zs,o=>by rw[Qbr,Qbq us,MV]
theorem jq (o:Nat):∀(us:LV) (k:Nat) (zs:LV),(us.zipIdx k).foldl (λ(cs:Array Value) (x:Value×Nat)=>cs.setIfInBounds (o+x.2) x.1) zs.toArray=(Qbr zs (o+k) us).toArray
 | [],_,_=>rfl
 | u::us,k,zs=>by
  rw[List.zipIdx_cons,Ls,Qbr];have:=jq o us (k+1) (zs.set (o+k) u);rw[←List.setIfInBounds_toArray] at this;exact this
theorem Qh2 {pl:List (Nat×Nat)}:∀(vs:List (Nat×Value)) (uss:List (Nat×LV)) (zs:LV),Qk5 vs uss→uss.all (λp=>p.1<pl.length && (p.2.length == (pl.getD p.1 (0,0)).2))=true →
  (∀x∈pl,x.1+x.2≤zs.length)→Instr.fill (pl.toArray[·]?) zs.toArray vs=some (QiU pl zs uss).toArray
 | [],[],zs,_,_,_=>rfl
 | [],_::_,_,h,_,_=>h.elim
 | _::_,[],_,h,_,_=>h.elim
 | (j,v)::vs,(j',us)::uss,zs,h1,h2,h3=>by
  obtain ⟨hc,rfl,h1⟩:=h1;simp only[List.all_cons,Bool.and_eq_true,decide_eq_true_eq,beq_iff_eq] at h2;obtain ⟨⟨hj,hl⟩,h2⟩:=h2;have E:pl.getD j (0,0)=pl[j]'hj:=by simp[List.getD,hj]
  have hm:=h3 _ (Lj hj);unfold Instr.fill;simp only[List.getElem?_toArray,List.getElem?_eq_getElem hj,hc];rw[E] at hl;rw[if_neg (by simp only[List.size_toArray,hl,ne_eq,not_true,decide_false,Bool.false_or,decide_eq_true_eq];omega)];have e:=jq (pl[j]'hj).1 us 0 zs;rw[M5] at e
  have e2:(us.toArray.zipIdx).foldl (λ(cs:Array Value) (x:Value×Nat)=>cs.setIfInBounds ((pl[j]'hj).1+x.2) x.1) zs.toArray=(Qbr zs (pl[j]'hj).1 us).toArray:=by
   rw[←e];simp
  rw[e2,QiU,E];have G:=Qh2 vs uss (Qbr zs (pl[j]'hj).1 us) h1 h2 (λx hx=>by rw[Qbq];exact h3 x hx);simpa only[List.getElem?_toArray] using G
theorem QdI {P:Program}{t:Nat}{zs:LV}{pl:List (Nat×Nat)}(h:QmB P t=some (zs,pl)) (hb:pl.all (λx=>x.1+x.2≤zs.length)=true) (vs:List (Nat×Value)) (uss:List (Nat×LV)) (h1:Qk5 vs uss)
  (h2:uss.all (λp=>p.1<pl.length && (p.2.length == (pl.getD p.1 (0,0)).2))=true):P.built t vs=some (QiU pl zs uss).toArray:=by
 have h3:∀x∈pl,x.1+x.2≤zs.length:=λo G=>by simpa using L6.1 hb o G
 unfold QmB at h;unfold Program.built;cases hi:P.info? t with
 | none=>simp[hi] at h
 | some it =>
  cases hu:P.underlying t with
  | none=>simp[hi,hu] at h
  | some dd =>
   simp only[hi,hu] at h;cases dd <;> simp only[] at h <;> try (cases h)
   case struct fs =>
    cases E:it.zero with
    | none=>simp[E] at h
    | some z =>
     cases z <;> simp only[E] at h <;> try (cases h)
     rename_i za;cases hm:fs.toList.mapM (λf=>(P.info? f.type).map λi=>(f.offset,i.size)) with
     | none=>simp[hm] at h
     | some pl' =>
      simp only[hm,Option.some.injEq,Prod.mk.injEq] at h;obtain ⟨rfl,rfl⟩:=h;simp only[E,hm,Value.cells];exact Qh2 vs uss za.toList h1 h2 h3
theorem Yv {P:Program}{f:Fr}{w:World}{d:Option Nat}{ty:Nat}{ps:String}{af:Array Edge}{gd:Option (Nat×Bool)}{t:Nat}{zs:LV}{pl:List (Nat×Nat)}[h:Bw P t zs pl] {parts:List (Nat×Operand)}(uss:List (Nat×LV))
  (h1:Qk5 (parts.map λx=>(x.1,ev f x.2)) uss) (h2:uss.all (λp=>p.1<pl.length && (p.2.length == (pl.getD p.1 (0,0)).2))=true:=by rfl) :
  (execOp (ev f) ⟨d,.build t parts.toArray,ty,ps,af,gd⟩).run P w=.ok (.value (.agg (QiU pl zs uss).toArray)) w:=by
 have hb:=QdI h.h h.b _ uss h1 h2;have E:=run_build (P:=P) w t (parts.toArray.map λ(i,x)=>(i,ev f x)) _ (by simpa using hb);simp only[execOp,Sem.run_bind,E,Result.andThen_ok,Sem.run_pure]
end Go.Lg
namespace Go.Proofs.YtdffckgdcegpaaaGreatDoor
open Go.Proofs.Tryz
open Go.Lg
def cnE (p:Ed→Bool) (es:List Ed):Int:=((es.filter p).length:Int)
theorem Qck (p:Ed→Bool) (es:List Ed) (e:Ed):cnE p (es++[e])=cnE p es+if p e=true then 1 else 0:=by
 unfold cnE;rw[Me,Lk];by_cases h:p e=true
 ·simp[h]
 simp[h]
theorem VM (p:Ed→Bool) (es:List Ed):0≤cnE p es∧cnE p es≤es.length:=by
 unfold cnE;have:=Mj p es;omega
def gA (n:Nat) (f:Nat→Int):LI:=(List.range n).map f
theorem Qmi (n:Nat) (f:Nat→Int):(gA n f).length=n:=by simp[gA]
theorem QhW {n:Nat}{f:Nat→Int}{i:Nat}(h:i<(gA n f).length):(gA n f)[i]'h=f i:=by simp[gA]
theorem yb {n:Nat}{f g:Nat→Int}{i:Nat}{u:Int}(hu:u=g i) (h:∀j,j<n→j≠i→g j=f j):(gA n f).set i u=gA n g:=by
 apply L9
 ·simp[gA]
 intro k h1 h2;rw[M0,QhW h2];by_cases e:i=k
 ·rw[if_pos e,hu,e]
 rw[if_neg e,QhW];exact (h k (by simpa[gA] using h2) (Ne.symm e)).symm
theorem yc {n:Nat}{f g:Nat→Int}(h:∀j,j<n→f j=g j):gA n f=gA n g:=List.map_congr_left (λj hj=>h j (MU.1 hj))
def cN (es:List Ed) (s:Nat):Int:=cnE (λe=>decide (e.1+1=(s:Int))) es
def fS (es:List Ed) (s:Nat):Int:=cnE (λe=>decide (e.1<(s:Int))) es
theorem QeS (es:List Ed) (s:Nat):fS es (s+1)=cN es (s+1)+fS es s:=by
 unfold fS cN cnE;induction es with
 | nil=>rfl
 | cons e es ih =>
  simp only[List.filter_cons];by_cases h1:e.1<(s:Int)
  ·have h2:e.1<((s+1:Nat):Int):=by omega
   have h3:¬e.1+1=((s+1:Nat):Int):=by omega
   simp only[h1,h2,h3,decide_true,decide_false,if_true,List.length_cons] at ih ⊢;simp only[Bool.false_eq_true,if_false] at ih ⊢;omega
  by_cases h2:e.1+1=((s+1:Nat):Int)
  ·have h3:e.1<((s+1:Nat):Int):=by omega
   simp only[h1,h2,h3,decide_true,decide_false,if_true,List.length_cons] at ih ⊢;simp only[Bool.false_eq_true,if_false] at ih ⊢;omega
  have h3:¬e.1<((s+1:Nat):Int):=by omega
  simp only[h1,h2,h3,decide_false,Bool.false_eq_true,if_false] at ih ⊢;exact ih
theorem QeR {es:List Ed}(h:∀e∈es,0≤e.1):fS es 0=0∧cN es 0=0:=by
 unfold fS cN cnE;refine ⟨?_,?_⟩
 ·have:(es.filter λe=>decide (e.1<((0:Nat):Int)))=[]:=M6.2 (λe he=>by have:=h e he;simp;omega);rw[this];rfl
 have:(es.filter λe=>decide (e.1+1=((0:Nat):Int)))=[]:=M6.2 (λe he=>by have:=h e he;simp;omega);rw[this];rfl
def mX (es:List Ed) (s j:Nat):Int:=if j≤s then fS es j else cN es j
theorem QjY {es:List Ed}(h:∀e∈es,0≤e.1) (n:Nat):gA n (cN es)=gA n (mX es 0):=yc λj _=>by
 unfold mX;by_cases e:j≤0
 ·have:j=0:=by omega
  subst this;rw[if_pos (Lv _),(QeR h).1,(QeR h).2]
 rw[if_neg e]
theorem QjZ (es:List Ed) (s n:Nat):(gA n (mX es s)).set (s+1) (mX es s (s+1)+mX es s s)=gA n (mX es (s+1)):=by
 refine yb ?_ λj _ hj=>?_
 ·unfold mX;rw[if_neg (by omega),if_pos (Lv _),if_pos (Lv _),QeS]
 unfold mX;by_cases e:j≤s
 ·rw[if_pos (by omega),if_pos e]
 rw[if_neg (by omega),if_neg e]
theorem QkJ (es:List Ed) (e:Ed) (E:0≤e.1) (n:Nat):(gA n (cN es)).set (e.1.toNat+1) (cN es (e.1.toNat+1)+1)=gA n (cN (es++[e])):=by
 refine yb ?_ λj _ hj=>?_
 ·unfold cN;rw[Qck,if_pos (by simp;omega)]
 unfold cN;rw[Qck,if_neg (by simp;omega)];simp
theorem jD (n:Nat):(List.replicate n (Value.int .i64 0).cells.toList).flatten=(gA n (cN [])).map (Value.int .i64):=by
 apply L9
 ·simp[Value.cells,gA]
 intro i h1 h2;simp[Value.cells,gA,cN,cnE]
section
variable {P:Program} {K:Fr→World→Prop} {f:Fr} {w:World} {d:Option Nat} {ty:Nat} {ps:String} {af:Array Edge} {gd:Option (Nat×Bool)}
theorem V5 {t:Nat}[Jk P t] {x:Operand}{b T i n:Nat}{g:Nat→Int}(h:QX w.heap b T ((gA n g).map (.int .i64))) (hx:ev f x=.pointer (some ⟨b,0+i*1,none⟩)) (hi:i<n) :
  (execOp (ev f) ⟨d,.load t x,ty,ps,af,gd⟩).run P w=.ok (.value (.int .i64 (g i))) w:=Qc h hx (by simp[gA,hi])
theorem KS {t:Nat}[h1:Jk P t] {x y:Operand}{b T i n:Nat}{g E:Nat→Int}{u:Int}(G:QX w.heap b T ((gA n g).map (.int .i64))) (hx:ev f x=.pointer (some ⟨b,0+i*1,none⟩)) (hy:ev f y=.int .i64 u) (hi:i<n) (H:(gA n g).set i u=gA n E)
  (J:∀w',Step [b] w w'→QX w'.heap b T ((gA n E).map (.int .i64))→K (Q4 f d undef) w'):XO P ⟨d,.store t x y,ty,ps,af,gd⟩ f w K :=
 XK G hx hy (by rw[Qmi];exact hi) λw' hs S=>J w' hs (by rw[←H];exact S)
end
instance:Bw prog 292 [nS,.int .i64 0,nS,nS,nS] [(0,4),(4,1)]:=⟨by kernel_rfl,by decide⟩
theorem qh {w:World}{va vm ve:Value}{a:QE}{n:Nat}(h:Zi [] w.heap va vm ve a) (hn:a.st=(n:Int)) (hX:a.st≤4096) (h8:∀e∈a.ed,0≤e.1∧e.1<a.st) :
  QM prog 183 [.agg #[va,.int .i64 a.st,vm,ve]] w λr w'=>Step [] w w'∧∃b,r=.agg #[va,.int .i64 a.st,vm,ve,.slice (some ⟨b,0,none⟩) (n+1) (n+1)]∧w.heap.size≤b∧QX w'.heap b 3 ((gA (n+1) (fS a.ed)).map (Value.int .i64)):=by
 have hE:=h.ed.le;refine QM.of_W func183 O ntmps183 results183 (by simp) ?_;refine Qd<|xl O<|QS (us:=[va,.int .i64 a.st,vm,ve]) O λb1 w1 ht hF hG=>xl O<|Qu (us:=[nS,.int .i64 0,nS,nS,nS]) O λb2 E hu hY hv=>xe ?_;have h9:=ht.trans hu;have Z:=hG.ext hu;have h2:=h.ext h9;have hm:a.st+1=((n+1:Nat):Int):=by omega
 have hw:Step [] E { E with drawn:=E.drawn+1 }:=Step.drew [] E
 have hZ:=hw.size;refine Q0 (α:=Nat×Nat) [(3,3),(7,12)] (λz=>[(3,.pointer (some ⟨z.1,0,none⟩))]) (λz w'=>Step [] E w'∧QX w'.heap z.1 292 [va,.int .i64 a.st,vm,ve,.slice (some ⟨z.2,0,none⟩) (n+1) (n+1)]∧QX w'.heap z.2 3 ((gA (n+1) (cN [])).map (Value.int .i64))∧E.heap.size≤z.1∧E.heap.size≤z.2∧z.1≠z.2) (by rfl) ?_ ?_
 ·refine Qfn (Step [] E) (.f2 [(0,true),(1,true),(2,true),(3,true)] 4 6 (.pl [(5,true),(6,false),(7,false)]) (.pl [(4,false),(5,true),(7,false)])) mixed (by rfl) (by kernel_rfl) (Step.drew _ _) ?_;refine u2<|pq (λ_ hc=>Qo (Z.ext hc) O O)<|p (λ_=>Qa O)<|pq (λ_ hc=>Qc (Z.ext hc) O O)<|p (λ_=>X1 O O ⟨by omega,by omega⟩)<|pe ⟨?_,?_⟩
  ·refine ue<|YG (n:=n+1) (congrArg (Value.int .i64) hm) (congrArg (Value.int .i64) hm) (by omega) λG w3 hy hH ho=>?_;have ha:=hw.trans hy;have ga:=ho.lt;refine ⟨ha,?_⟩;refine uP<|p (λ_=>Yv [(0,[va,.int .i64 a.st,vm,ve]),(1,[.slice (some ⟨G,0,none⟩) (n+1) (n+1)])] ⟨O,O,O,O,La⟩)<|pk<|Qu (us:=[nS,.int .i64 0,nS,nS,nS]) O λb3 w4 hb hz H=>?_;have J:=ha.trans hb
   refine ⟨J,?_⟩;refine pk<|Qq (us:=[va,.int .i64 a.st,vm,ve,.slice (some ⟨G,0,none⟩) (n+1) (n+1)]) H O O O O ⟨h.al.one,O,h.mr.one,h.ed.one,O,La⟩ λw5 S hf=>⟨J.then1 S (by omega),pe ?_⟩;have h0:QX w3.heap G 3 ((gA (n+1) (cN [])).map (Value.int .i64)):=by rw[←jD];exact ho
   exact ⟨(b3,G),Lb,J.then1 S (by omega),hf,(h0.ext hb).step S (by simp;omega),by simp only[];omega,by simp only[];omega,by simp only[];omega⟩
  refine ue<|Qu (us:=[nS,.int .i64 0,nS,nS,nS]) O λb3 w3 hy hz H=>?_;have ha:=hw.trans hy;have gc:=H.lt;refine ⟨ha,?_⟩;refine uP<|pk<|YG (n:=n+1) (congrArg (Value.int .i64) hm) (congrArg (Value.int .i64) hm) (by omega) λG w4 hb hH ho=>?_;have J:=ha.trans hb;refine ⟨J,?_⟩
  refine p (λ_=>Yv [(0,[va,.int .i64 a.st,vm,ve]),(1,[.slice (some ⟨G,0,none⟩) (n+1) (n+1)])] ⟨O,O,O,O,La⟩)<|pk<|Qq (us:=[va,.int .i64 a.st,vm,ve,.slice (some ⟨G,0,none⟩) (n+1) (n+1)]) (H.ext hb) O O O O ⟨h.al.one,O,h.mr.one,h.ed.one,O,La⟩ λw5 S hf=>⟨J.then1 S (by omega),pe ?_⟩;have h0:QX w4.heap G 3 ((gA (n+1) (cN [])).map (Value.int .i64)):=by rw[←jD];exact ho
  exact ⟨(b3,G),Lb,J.then1 S (by omega),hf,h0.step S (by simp;omega),by simp only[];omega,by simp only[];omega,by simp only[];omega⟩
 rintro ⟨b3,bF⟩ g6 w6 ⟨h1,H,hA,hz,h3,hI⟩;simp only[] at H hA hz h3 hI;have ge:a.ed.length≤1099511627776:=hE;have hJ:=Z.ext h1;have gg:=hv.ext h1;have gh:=Z.lt;have gi:=hv.lt;refine Qg<|Qd<|x (Qa O)<|x (Qc hJ O O)<|x (Qw h.ed O)<|Qb<|xe ?_;have hK:∀e∈a.ed,0≤e.1:=λe he=>(h8 e he).1
 refine Qh<|QC (α:=Nat) [(5,5),(16,29)] (λz=>[(16,.int .i64 z)]) (λz w'=>z≤a.ed.length∧Step [] E w'∧QX w'.heap b3 292 [va,.int .i64 a.st,vm,ve,.slice (some ⟨bF,0,none⟩) (n+1) (n+1)]∧QX w'.heap bF 3 ((gA (n+1) (cN (a.ed.take z))).map (Value.int .i64))) (λz=>a.ed.length - z) (by rfl) 0 Lb
  ⟨Lm _,h1,H,hA⟩ ?_
 rintro k g w7 ⟨hk,hp,h4,hq⟩;refine Qd<|x (QD O O)<|xe<|Qg<|QI O (λh5=>?_) (λh5=>?_)
 ·refine Qy ?_;have hL:a.ed.length≤k:=by have hr:¬(k:Int)<(a.ed.length:Int):=h5;omega
  rw[Lq hL,QjY hK (n+1)] at hq;refine Qg<|Qd<|x (Qa O)<|x (Qc (Z.ext hp) O O)<|Qb<|xe<|Qh<|QC (α:=Nat) [(6,6),(32,48)] (λz=>[(32,.int .i64 z)]) (λz w'=>z≤n∧Step [] E w'∧QX w'.heap b3 292 [va,.int .i64 a.st,vm,ve,.slice (some ⟨bF,0,none⟩) (n+1) (n+1)]∧QX w'.heap bF 3 ((gA (n+1) (mX a.ed z)).map (Value.int .i64))) (λz=>n - z) (by rfl) 0 Lb
   ⟨Lm _,hp,h4,hq⟩ ?_
  rintro j g w8 ⟨hj,hg,hs,V⟩;refine Qd<|x (QD O O)<|xe<|Qg<|QI O (λh6=>?_) (λh6=>?_)
  ·refine Qy ?_;have gj:n≤j:=by have hM:¬(j:Int)<a.st:=h6;omega
   have h7:j=n:=by omega
   rw[h7] at V;have hN:gA (n+1) (mX a.ed n)=gA (n+1) (fS a.ed):=yc λi hi=>by unfold mX;rw[if_pos (by omega)]
   rw[hN] at V;refine Qd<|x (Qo hs O O)<|xl O<|Qq (us:=[va,.int .i64 a.st,vm,ve,.slice (some ⟨bF,0,none⟩) (n+1) (n+1)]) (hv.ext hg) O O O O ⟨h.al.one,O,h.mr.one,h.ed.one,O,La⟩ λw9 U hO=>xe ?_;have gk:=ht.size;have gl:=h9.size
   refine Qs ⟨[_],⟨⟨_,O,QF O (hO.at (L:=[]) (by simp)).cells⟩,La⟩,((ht.trans hu).trans hg).then1 U (by omega),bF,rfl,by omega,V.step U (by simp;omega)⟩
  have h7:j<n:=by have hM:(j:Int)<a.st:=h6;omega
  have gm:=VM (λe:Ed=>decide (e.1<(j:Int))) a.ed;have gn:=VM (λe:Ed=>decide (e.1+1=((j+1:Nat):Int))) a.ed;have hP:mX a.ed j (j+1)=cN a.ed (j+1):=by unfold mX;rw[if_neg (by omega)]
  have hQ:mX a.ed j j=fS a.ed j:=by unfold mX;rw[if_pos (Lv _)]
  have hF:0≤mX a.ed j (j+1)∧mX a.ed j (j+1)≤1099511627776:=by rw[hP];unfold cN;omega
  have gq:0≤mX a.ed j j∧mX a.ed j j≤1099511627776:=by rw[hQ];unfold fS;omega
  refine Qj<|Qg<|Qh<|Qd<|Qb<|Qf<|QV (Step [] w8) [(0,true),(1,true),(2,true),(3,true),(4,true),(5,true),(6,true),(7,true),(8,true),(9,true),(10,true),(11,true),(12,true),(13,false)] mixed (by rfl) (by kernel_rfl) (Step.drew _ _) ?_;refine p (λ_=>Qa O)<|pq (λ_ hc=>Qc (hs.ext hc) O O)<|p (λ_=>Ql)<|p (λ_=>X1 O O ⟨by omega,by omega⟩) <|
   p (λ_=>QP (i:=j+1) O O (by omega))<|pq (λ_ hc=>V5 (i:=j+1) (V.ext hc) O (by omega))<|p (λ_=>Qa O)<|pq (λ_ hc=>Qc (hs.ext hc) O O) <|
   p (λ_=>Ql)<|p (λ_=>QP (i:=j) O O (by omega))<|pq (λ_ hc=>V5 (i:=j) (V.ext hc) O (by omega))<|p (λ_=>X1 O O ⟨by omega,by omega⟩) <|
   p (λ_=>QP (i:=j+1) O O (by omega))<|pkl (hl:=by kernel_rfl)<|KS (i:=j+1) (V.ext (Step.drew [] w8)) O O (by omega) (QjZ a.ed j (n+1)) λw9 U hR=>pe ?_
  refine Qx<|QN O O<|Qb<|xe ?_;exact ⟨j+1,by omega,Lb,h7,(hg.trans (Step.drew [] w8)).then1 U h3,(hs.ext (Step.drew [] w8)).step U (by simp;omega),hR⟩
 have Y:k<a.ed.length:=by have hr:(k:Int)<(a.ed.length:Int):=h5;omega
 have hB:a.ed.take (k+1)=a.ed.take k++[a.ed[k]'Y]:=Ll Y;have hC:=h8 _ (Lj Y);refine Zs (a.ed[k]'Y) λe he=>?_;rw[he] at hB hC;have hfr:e.1+1=((e.1.toNat+1:Nat):Int):=by omega
 have hS:=QkJ (a.ed.take k) e hC.1 (n+1);have hT:=VM (λd:Ed=>decide (d.1+1=((e.1.toNat+1:Nat):Int))) (a.ed.take k);have gr:0≤cN (a.ed.take k) (e.1.toNat+1)∧cN (a.ed.take k) (e.1.toNat+1)≤1099511627776:=by unfold cN;rw[LF] at hT;omega
 refine Qj<|Qg<|Qh<|Qd<|xie (h2.ed.ext hp) O O Y λgs hr=>?_;rw[he] at hr;refine x (QQ hr O O)<|xl O<|Qu (us:=[.int .i64 0,.int .i64 0,.int .i64 0]) O λb5 w8 hg hU hf=>xl O<|Qq (us:=Qz e) hf O O O O ⟨O,O,O,La⟩ λw9 U hV=>xe ?_;have hh:Step [] w7 w9:=hg.then1 U hU
 refine Qx<|x (Qa O)<|x (Qc (h4.ext hh) O O)<|x (Qa O)<|x (Qc hV O O)<|QN O O<|x (QP (i:=e.1.toNat+1) O (congrArg (Value.int .i64) hfr) (by omega)) <|
  x (V5 (i:=e.1.toNat+1) (hq.ext hh) O (by omega))<|QN O O<|x (QP (i:=e.1.toNat+1) O (congrArg (Value.int .i64) hfr) (by omega)) <|
  xl rfl<|KS (i:=e.1.toNat+1) (hq.ext hh) O O (by omega) hS λgt hD hW=>xe ?_
 refine Qx<|QN O O<|Qb<|xe<|⟨k+1,by omega,Lb,Y,(hp.trans hh).then1 hD h3,(h4.ext hh).step hD (by simp;omega),?_⟩;rw[hB];exact hW
end Go.Proofs.YtdffckgdcegpaaaGreatDoor
namespace Go.Lg
open Go.RowKit
def Y8 (w:World) (base e sz:Nat) (v:Value) (n:Nat) (cs:LV):Prop :=
 cs.length=n*sz∧((v=nS∧n=0)∨∃g off cap cur,v=.slice (some ⟨g,off,none⟩) n cap∧base≤g∧w.heap[g]?=some (.cells cur e (0,0))∧n≤cap∧cap≤maxLen∧off+cap*sz≤cur.size∧(cur.toList.drop off).take (n*sz)=cs)
theorem Y8.of_row {w:World}{base e sz n:Nat}{v:Value}{cs:LV}(h:w.ownsRow base e sz v n cs):Y8 w base e sz v n cs :=
 ⟨h.1,h.2.imp id λ⟨g,cap,cur,h1,h2,h3,h4,h5,G,E⟩=>⟨g,0,cap,cur,h1,h2,h3,h4,h5,by omega,by simpa using E⟩⟩
theorem Qha {X:LN}{w w':World}{base e sz n:Nat}{v:Value}{cs:LV}(h:Y8 w base e sz v n cs) (hs:Step X w w') (E:∀b∈ob v,b∉X):Y8 w' base e sz v n cs:=by
 refine ⟨h.1,h.2.imp id λ⟨g,off,cap,cur,h1,h2,h3,h4⟩=>⟨g,off,cap,cur,h1,h2,?_,h4⟩⟩;rw[hs.block g (LG.1 h3).1 (E g (by rw[h1];simp[ob]))];exact h3
theorem Qnc {w w':World}{base e sz n:Nat}{v:Value}{cs:LV}(h:Y8 w base e sz v n cs) (hs:Step [] w w'):Y8 w' base e sz v n cs:=Qha h hs (λ_ _=>by simp)
theorem QlK {w:World}{base e sz n:Nat}{v:Value}{cs:LV}(h:Y8 w base e sz v n cs):∀b∈ob v,base≤b∧b<w.heap.size:=by
 intro b hb;rcases h.2 with ⟨h1,_⟩ | ⟨g,off,cap,cur,h1,h2,h3,_⟩
 ·subst h1;simp[ob] at hb
 subst h1;simp[ob] at hb;subst hb;exact ⟨h2,(LG.1 h3).1⟩
theorem Qeo {w:World}{g off e n:Nat}{cur:Array Value}{cs:LV}(h3:w.heap[g]?=some (.cells cur e (0,0))) (E:(cur.toList.drop off).take n=cs):∀j u,cs[j]?=some u→w.cell? ((⟨g,off,none⟩:Addr).add j)=some u:=by
 intro j u hu;rw[Ji,XN];unfold cel;simp only[h3];rw[←E,Ma] at hu;split at hu
 ·simpa using hu
 cases hu
theorem Qk9 {L:LN}{w:World}{base e sz n:Nat}{v:Value}{cs:LV}(h:Y8 w base e sz v n cs) (E:n≤1099511627776) (G:∀b∈ob v,b∉L):Zz L w.heap v n sz cs:=by
 refine ⟨h.1,E,?_⟩;rcases h.2 with h1 | ⟨g,off,cap,cur,h1,h2,h3,h4,h5,J,H⟩
 ·exact .inl h1
 exact .inr ⟨_,_,h1,h4,λ_ _=>G g (by rw[h1];simp[ob]),λ_ _=>(LG.1 h3).1,λj u hu=>Qeo h3 H j u hu⟩
section
variable {P:Program} {K:Fr→World→Prop} {f:Fr} {w:World} {d:Option Nat} {ty:Nat} {ps:String} {af:Array Edge} {gd:Option (Nat×Bool)} {ops l:List Oper}
theorem QnS {t e sz bys:Nat}{z:Value}[h:Sl P t e sz bys z] {x E:Operand}{base:Nat}{v:Value}{n:Nat}{cs:LV}{k:IntKind}{lo:Nat}(J:Y8 w base e sz v n cs) (hx:ev f x=v) (hl:ev f E=.int k lo) (h1:lo≤n)
  (S:∀v',Y8 w base e sz v' (n - lo) (cs.drop (lo*sz))→ob v'=ob v→XL P ops K l (Q4 f d v') w)
  (U:YD ops f ⟨d,.slice t x (some E) none none,ty,ps,af,gd⟩=true:=by rfl):XL P ops K (⟨d,.slice t x (some E) none none,ty,ps,af,gd⟩::l) f w:=by
 obtain ⟨i,Y,_,Z,_⟩:=Sl.info h;rcases J.2 with ⟨V,hn⟩ | ⟨g,off,cap,cur,V,h2,h3,h4,h5,h6,h7⟩
 ·have e2:lo=0:=by omega
  subst e2 hn V;have ha:cs=[]:=Ln (by simpa using J.1);subst ha;refine xl U (xv (v:=nS) ?_ (S _ ⟨by simp,.inl ⟨rfl,rfl⟩⟩ rfl));simp[execOp,hx,hl,Instr.sliceAt,Instr.slice,run_underlying h.u,Instr.sliceBounds,Instr.sliceBound,asIntOf,sizeOf,typeInfo,Y]
 subst V;have e2:(Instr.sliceBound (.int k lo) n .sliceB).run P w=.ok lo w:=ZZ h1;have G:(execOp (ev f) ⟨d,.slice t x (some E) none none,ty,ps,af,gd⟩).run P w=.ok (.value (.slice (if cap=lo then some ⟨g,off,none⟩ else some ((⟨g,off,none⟩:Addr).add (lo*sz))) (n - lo) (cap - lo))) w:=by
  simp[execOp,hx,hl,Instr.sliceAt,Instr.slice,run_underlying h.u,Instr.sliceBounds,e2,sizeOf,typeInfo,Y,Z]
 have H:(cs.drop (lo*sz)).length=(n - lo)*sz:=by rw[Mf,J.1,←Nat.sub_mul]
 by_cases hc:cap=lo
 ·rw[if_pos hc] at G;have hb:n - lo=0:=by omega
  refine xl U (xv G (S _ ⟨H,.inr ⟨g,off,cap - lo,cur,O,h2,h3,by omega,by omega,?_,?_⟩⟩ O))
  ·have:(cap - lo)*sz≤cap*sz:=MB _ (by omega);omega
  rw[hb] at H ⊢;have:cs.drop (lo*sz)=[]:=Ln (by simpa using H);rw[this];simp
 rw[if_neg hc,XN] at G;refine xl U (xv G (S _ ⟨H,.inr ⟨g,off+lo*sz,cap - lo,cur,O,h2,h3,by omega,by omega,?_,?_⟩⟩ O))
 ·rw[Nat.sub_mul];have:lo*sz≤cap*sz:=MB _ (by omega);omega
 rw[←h7,List.drop_take,List.drop_drop,←Nat.sub_mul]
theorem Qam {base t ty e:Nat}{sz bys:Nat}{z:Value}[h:Sl P t e sz bys z] {v:Value}{n:Nat}{cs:LV}(E:Y8 w base e sz v n cs)
  {a:Addr} {m c:Nat} {news:LV} (hl:news.length=m*sz) (hm:0<m) (V:∀j u,news[j]?=some u→w.cell? (a.add j)=some u) (h1:∀u∈news,u.oneCell'=true)
  (hb:n+m≤1099511627776) (hj:bys≤128) (ho:base≤w.heap.size) :
  ∃v' w',(Builtin.append_ #[t,t] ty #[v,.slice (some a) m c]).run P w=.ok v' w'∧Y8 w' base e sz v' (n+m) (cs++news)∧Step (ob v) w w'∧(∀b∈ob v',b∈ob v∨w.heap.size≤b):=by
 obtain ⟨i,hi,hz,J,ha⟩:=Sl.info h;have hc:(n+m)*bys≤140737488355328:=L5 (Nat.mul_le_mul hb hj) (by omega);have hp:n+m≤maxLen:=by simp only[maxLen];omega
 have new:∀(old:Nat),∀G,G=(Obj.cells (cs.toArray++news.toArray++Builtin.zeroCells z.cells (grownCap w (n+m) old e - (n+m))) e) →
    Y8 (w.drew.alloc G) base e sz (.slice (some ⟨w.heap.size,0,none⟩) (n+m) (grownCap w (n+m) old e)) (n+m) (cs++news):=by
   intro old G hq;subst hq;have hge:=grownCap_ge w (n+m) old e;have Y:grownCap w (n+m) old e≤maxLen:=grownCap_le_maxLen w (n+m) old e hp;have U:(cs++news).length=(n+m)*sz:=by rw[Lk,E.1,hl,Ms]
   refine Y8.of_row ⟨U,.inr ⟨w.heap.size,_,_,O,ho,K6 w.drew _,hge,Y,?_,?_⟩⟩
   ·simp only[Array.size_append,List.size_toArray,size_zeroCells,h.zs,E.1,hl,←Nat.add_mul];congr 1;omega
   simp only[Array.toList_append,List.append_assoc];rw[←LB,←U];exact List.take_left
 have stp:∀G,Step (ob v) w (w.drew.alloc G):=λG=>⟨O,O,O,by rw[QaY];exact Nat.le_succ _,λk hk _=>QdN w.drew G k hk⟩;have fin:∀(b:Nat),b∈ob (.slice (some ⟨w.heap.size,0,none⟩) (n+m) 0)→b∈ob v∨w.heap.size≤b:=λb H=>by simp[ob] at H;omega
 rcases E.2 with ⟨rfl,rfl⟩ | ⟨g,off,cap,cur,rfl,hs,Z,hv,Y,hw,he⟩
 ·have hx:cs=[]:=Ln (by simpa using E.1);subst hx;have S:=run_append_nil (P:=P) w t ty e i z h.u hi hz a m c news (by rw[J];exact hl) V hm (by omega) (by rw[ha];have ht:=hc;simp only[Nat.zero_add] at ht;omega);have hn:=new 0 _ O;simp only[Nat.zero_add,List.nil_append,Array.empty_append] at hn ⊢;exact ⟨_,_,S,hn,stp _,λb H=>fin b H⟩
 rcases Nz cap (n+m) with hroom | hroom
 ·have hu:=Qeo (w:=w) Z he;have S:=run_append_grow (P:=P) w t ty e i z h.u hi hz ⟨g,off,none⟩ n cap cs (by rw[J];exact E.1) hu a m c news (by rw[J];exact hl) V hroom (by omega) (growslice_fits hroom (by rw[ha];exact hc));exact ⟨_,_,S,new cap _ O,stp _,λb H=>fin b H⟩
 have hg:off+n*i.size+news.length≤cur.size:=by
  rw[hl,J];have:(n+m)*sz≤cap*sz:=MB _ hroom;rw[Ms] at this;omega
 have hf:=run_firstCells_some (P:=P) w i.size m a m c news (by rw[J];exact hl) V;have hh:=run_storeCells_at P g (off+n*i.size) e news 0 cur w Z (by simpa using hg) h1;simp only[Nat.add_zero] at hh;have S:(Builtin.append_ #[t,t] ty #[.slice (some ⟨g,off,none⟩) n cap,.slice (some a) m c]).run P w =
   .ok (.slice (some ⟨g,off,none⟩) (n+m) cap) (w.setRow g (cur.toList.take (off+n*i.size)++news++cur.toList.drop (off+n*i.size+news.length)).toArray):=by
  simp[Builtin.append_,run_underlying h.u,sizeOf,typeInfo,hi,Builtin.lenOf,hroom,hf,XN,hh]
 refine ⟨_,_,S,⟨by rw[Lk,E.1,hl,Ms],.inr ⟨g,off,cap,_,rfl,hs,setRow_heap w g _ _ e (0,0) Z,hroom,Y,?_,?_⟩⟩,?_,λb H=>.inl H⟩
 ·simp only[List.size_toArray,List.length_append,List.length_take,List.length_drop,Array.length_toList];omega
 ·have hy:cur.toList.length=cur.size:=NB;rw[J] at hg ⊢;have e1:(cur.toList.take (off+n*sz)).drop off=cs:=by
   rw[List.drop_take,show off+n*sz - off=n*sz by omega];exact he
  have e2:(List.toArray (cur.toList.take (off+n*sz)++news++cur.toList.drop (off+n*sz+news.length))).toList.drop off=cs++news++cur.toList.drop (off+n*sz+news.length):=by
   show (cur.toList.take (off+n*sz)++news++cur.toList.drop (off+n*sz+news.length)).drop off=_;rw[LB,Nj (by rw[LF];omega),e1,LB]
  rw[e2];have U:(cs++news).length=(n+m)*sz:=by rw[Lk,E.1,hl,Ms]
  rw[←U];exact List.take_left
 exact Step.setRow w g _
theorem QlT {t e sz bys:Nat}{z:Value}[h:Sl P t e sz bys z] {s y:Operand}{base:Nat}{v:Value}{n:Nat}{cs:LV}(E:Y8 w base e sz v n cs) (hs:ev f s=v)
  {a:Addr} {m c:Nat} {news:LV} (hy:ev f y=.slice (some a) m c) (hl:news.length=m*sz) (hm:0<m) {L:LN} (G:At L w.heap a news) (h1:∀u∈news,u.oneCell'=true)
  (hb:n+m≤1099511627776) (H:base≤w.heap.size)
  (J:∀v' w',Y8 w' base e sz v' (n+m) (cs++news)→Step (ob v) w w'→(∀b∈ob v',b∈ob v∨w.heap.size≤b)→K (Q4 f d v') w') (S:bys≤128:=by decide) :
  XO P ⟨d,.call ⟨.builtin .append,#[s,y],#[t,t]⟩,ty,ps,af,gd⟩ f w K:=by
 obtain ⟨v',w',U,h2,h3,h4⟩:=Qam (P:=P) (t:=t) (ty:=ty) E hl hm G.cells h1 hb S H (c:=c);have V:(execOp (ev f) ⟨d,.call ⟨.builtin .append,#[s,y],#[t,t]⟩,ty,ps,af,gd⟩).run P w=.ok (.value v') w':=by
  simp[execOp,resolve,invoke,builtin,hs,hy,U]
 exact xv V (J v' w' h2 h3 h4)
end
abbrev KD (e base:Nat) (w:World) (v:Value) (l:LI):Prop:=Y8 w base e 1 v l.length (l.map (.int .i64))
theorem KD.snoc {e base:Nat}{w:World}{v:Value}{l:LI}{n:Int}(h:Y8 w base e 1 v (l.length+1) (l.map (Value.int .i64)++[.int .i64 n])):KD e base w v (l++[n]):=by
 unfold KD;simpa using h
theorem KD.tail {e base:Nat}{w:World}{v:Value}{s:Int}{l:LI}(h:Y8 w base e 1 v ((s::l).length - 1) (((s::l).map (Value.int .i64)).drop (1*1))):KD e base w v l:=by
 unfold KD;simpa using h
end Go.Lg
namespace Go.Proofs.YtdffckgdcegpaaaGreatDoor
open Go.Lg
def KE {α:Type}(f:Nat→α) (i:Nat) (x:α):Nat→α:=λj=>if j=i then x else f j
theorem Z9 {α:Type}(f:Nat→α) (i:Nat) (x:α):KE f i x i=x:=by simp[KE]
theorem YB {α:Type}(f:Nat→α) {i j:Nat}(x:α) (h:j≠i):KE f i x j=f j:=by simp[KE,h]
theorem Qbf {α β:Type}(k:α→β) (n:Nat) (f:Nat→α) (i:Nat) (x:α):((List.range n).map λj=>k (f j)).set i (k x)=(List.range n).map λj=>k (KE f i x j):=by
 apply L9
 ·simp
 intro j h1 h2;rw[M0];by_cases e:i=j
 ·subst e;simp[Z9]
 rw[if_neg e];simp[YB _ _ (Ne.symm e)]
structure K9 (base:Nat) (w:World) (n:Nat) (f:Nat→Value) (g:Nat→LI):Prop where
 own:∀i,i<n→Qn 3 base w (f i) (g i)
 dj:∀i j,i<n→j<n→i≠j→Dj (f i) (f j)
theorem K9.app {base n i:Nat}{w w':World}{f:Nat→Value}{g:Nat→LI}{v':Value}{l:LI}(h:K9 base w n f g) (hi:i<n) (H:Qn 3 base w' v' l) (hs:Step (ob (f i)) w w')
  (J:∀b∈ob v',b∈ob (f i)∨w.heap.size≤b):K9 base w' n (KE f i v') (KE g i l):=by
 refine ⟨λj hj=>?_,λj k hj hk E=>?_⟩
 ·by_cases e:j=i
  ·subst e;rw[Z9,Z9];exact H
  rw[YB _ _ e,YB _ _ e];exact Qi (h.own j hj) hs (h.dj j i hj hi e)
 have key:∀j,j<n→j≠i→Dj v' (f j):=λj hj e b hb G=>by
  rcases J b hb with h1 | h1
  ·exact h.dj i j hi hj (Ne.symm e) b h1 G
  have:=QY (h.own j hj) b G;omega
 by_cases e1:j=i
 ·subst e1;rw[Z9,YB _ _ (Ne.symm E)];exact key k hk (Ne.symm E)
 rw[YB _ _ e1];by_cases e2:k=i
 ·subst e2;rw[Z9];exact (key j hj e1).symm
 rw[YB _ _ e2];exact h.dj j k hj hk E
theorem K9.step {base n:Nat}{X:LN}{w w':World}{f:Nat→Value}{g:Nat→LI}(h:K9 base w n f g) (hs:Step X w w') (E:∀i,i<n→∀b∈ob (f i),b∉X):K9 base w' n f g :=
 ⟨λi hi=>Qi (h.own i hi) hs (E i hi),h.dj⟩
theorem K9.ext {base n:Nat}{w w':World}{f:Nat→Value}{g:Nat→LI}(h:K9 base w n f g) (hs:Step [] w w'):K9 base w' n f g:=h.step hs (λ_ _ _ _=>by simp)
def ZB (es:List Ed) (s:Nat):LI:=(es.filter λe=>decide (e.2.2=(s:Int))).map (·.1)
theorem zU (es:List Ed) (e:Ed) (E:0≤e.2.2):∀s,KE (ZB es) e.2.2.toNat (ZB es e.2.2.toNat++[e.1]) s=ZB (es++[e]) s:=by
 intro s;unfold ZB;rw[Me,LA];by_cases h:s=e.2.2.toNat
 ·subst h;rw[Z9];have:e.2.2=(e.2.2.toNat:Int):=by omega
  simp[←this]
 rw[YB _ _ h];have:¬e.2.2=(s:Int):=by omega
 simp[this]
theorem J3 {es:List Ed}{s:Nat}{p:Int}(h:p∈ZB es s):∃e∈es,e.1=p∧e.2.2=(s:Int):=by
 unfold ZB at h;simp only[List.mem_map,List.mem_filter,decide_eq_true_eq] at h;obtain ⟨e,⟨h1,h2⟩,h3⟩:=h;exact ⟨e,h1,h3,h2⟩
theorem Jh (es:List Ed) (s:Nat):(ZB es s).length≤es.length:=by
 unfold ZB;rw[Lo];exact Mj _ _
def VW (s:Int) (st:LI×LI) (p:Int):LI×LI:=if cget st.1 p.toNat<0 then (st.1.set p.toNat (cget st.1 s.toNat+1),st.2++[p]) else st
def bwL (es:List Ed):Nat→LI→LI→LI
 | 0,o,_=>o
 | _+1,o,[]=>o
 | f+1,o,s::q=>bwL es f ((ZB es s.toNat).foldl (VW s) (o,q)).1 ((ZB es s.toNat).foldl (VW s) (o,q)).2
def Vr (n:Nat) (to:LI):LI:=(List.range n).map λi:Nat=>if (i:Int)∈to then 0 else -1
def bwd (n:Nat) (es:List Ed) (to:LI):LI:=bwL es (n+to.length) (Vr n to) to
theorem QkO (es:List Ed) (f:Nat) (o:LI):bwL es f o []=o:=by cases f <;> rfl
structure yN (n:Nat) (o q:LI):Prop where
 len:o.length=n
 q:∀x∈q,0≤x∧x<(n:Int)
 le:∀x∈o,-1≤x∧x+(neg o:Int)≤n
theorem Qaz (l:LI):neg l≤l.length:=Mj _ _
theorem QdJ {n:Nat}{s p:Int}{st:LI×LI}(h:yN n st.1 st.2) (hs:0≤s∧s<(n:Int)) (E:0≤cget st.1 s.toNat) (hp:0≤p∧p<(n:Int)) :
  yN n (VW s st p).1 (VW s st p).2∧neg (VW s st p).1+(VW s st p).2.length=neg st.1+st.2.length∧0≤cget (VW s st p).1 s.toNat:=by
 unfold VW;have hl:=h.len;have G:p.toNat<st.1.length:=by omega
 have H:s.toNat<st.1.length:=by omega
 by_cases hc:cget st.1 p.toNat<0
 ·rw[if_pos hc];have J:st.1[p.toNat]'G<0:=by rw[Q5 G];exact hc
  have U:=h.le _ (XX H);have V:=V7 st.1 p.toNat (cget st.1 s.toNat+1) G J (by omega);refine ⟨⟨by simp[hl],λx hx=>?_,λx hx=>?_⟩,?_,?_⟩
  ·simp only[List.mem_append,List.mem_singleton] at hx;rcases hx with hx | rfl
   ·exact h.q x hx
   exact hp
  ·simp only[] at hx ⊢;rcases Nb hx with h1 | h1
   ·have:=h.le x h1;omega
   subst h1;omega
  ·simp only[List.length_append,List.length_singleton];omega
  simp only[];have S:s.toNat≠p.toNat:=λe=>by rw[e] at E;omega
  have:cget (st.1.set p.toNat (cget st.1 s.toNat+1)) s.toNat=cget st.1 s.toNat:=by
   unfold cget;simp[List.getD,List.getElem?_set_ne (Ne.symm S)]
  rw[this];exact E
 rw[if_neg hc];exact ⟨h,rfl,E⟩
theorem Xn (n:Nat) (to:LI):(Vr n to).length=n:=by simp[Vr]
theorem QdK {n:Nat}{to:LI}(h:∀x∈to,0≤x∧x<(n:Int)):yN n (Vr n to) to:=by
 refine ⟨Xn n to,h,λx hx=>?_⟩;have E:=Qaz (Vr n to);rw[Xn] at E;unfold Vr at hx;simp only[List.mem_map] at hx;obtain ⟨i,_,rfl⟩:=hx;split <;> omega
theorem q7 {n:Nat}{to:LI}{x:Int}(h:0≤x∧x<(n:Int)) (hx:x∈to):cget (Vr n to) x.toNat=0:=by
 have h1:x.toNat<(Vr n to).length:=by rw[Xn];omega
 rw[←Q5 h1];have:((x.toNat:Nat):Int)=x:=by omega
 simp[Vr,this,hx]
def QcL (o q:LI):Prop:=∀x∈q,0≤cget o x.toNat
theorem yF {n:Nat}{s p:Int}{st:LI×LI}(h:yN n st.1 st.2) (H:0≤cget st.1 s.toNat) (hp:0≤p∧p<(n:Int)) (E:QcL st.1 st.2):QcL (VW s st p).1 (VW s st p).2:=by
 unfold VW;have G:p.toNat<st.1.length:=by have:=h.len;omega
 by_cases hc:cget st.1 p.toNat<0
 ·rw[if_pos hc];intro x hx;simp only[] at hx ⊢;have e1:cget (st.1.set p.toNat (cget st.1 s.toNat+1)) x.toNat=if x.toNat=p.toNat then cget st.1 s.toNat+1 else cget st.1 x.toNat:=by
   by_cases e:x.toNat=p.toNat
   ·rw[if_pos e,e];unfold cget;simp[List.getD,G]
   rw[if_neg e];unfold cget;simp[List.getD,List.getElem?_set_ne (Ne.symm e)]
  rw[e1];split
  ·omega
  rename_i e;simp only[List.mem_append,List.mem_singleton] at hx;rcases hx with hx | rfl
  ·exact E x hx
  exact absurd O e
 rw[if_neg hc];exact E
open Go.Proofs.Tryz
theorem Qbu (n:Nat):(List.replicate n (nS).cells.toList).flatten=(List.range n).map (λ_=>nS):=by
 apply L9
 ·simp[Value.cells]
 intro i h1 h2;simp[Value.cells]
theorem jJ (n:Nat):(List.replicate n (Value.int .i64 0).cells.toList).flatten=(gA n (λj=>if j<0 then -1 else 0)).map (Value.int .i64):=by
 apply L9
 ·simp[Value.cells,gA]
 intro i h1 h2;simp[Value.cells,gA]
theorem V2 {rv:Nat→Value}{n i:Nat}(hi:i<n):((List.range n).map rv)[0+i*1]?=some (rv i):=by simp[hi]
theorem QcF {w:World}{va vm ve vf vt:Value}{a:QE}{n:Nat}{to:LI}(h:Zi [] w.heap va vm ve a) (hn:a.st=(n:Int)) (m5:a.st≤4096) (gs:∀e∈a.ed,0≤e.1∧e.1<a.st∧0≤e.2.2∧e.2.2<a.st)
  (m6:a.ed.length≤1000000) (ke:QO [] w.heap vt to) (kf:∀s∈to,0≤s∧s<a.st) (m7:to.length≤4096) :
  QM prog 184 [.agg #[va,.int .i64 a.st,vm,ve,vf],vt] w λr w'=>Step [] w w'∧∃b,r=.slice (some ⟨b,0,none⟩) n n∧w.heap.size≤b∧QX w'.heap b 3 ((bwd n a.ed to).map (Value.int .i64)):=by
 refine QM.of_W func184 O ntmps184 results184 (by simp) ?_;refine Qd<|xl O<|QS (us:=[va,.int .i64 a.st,vm,ve,vf]) O λb2 w1 hz m8 h3=>Qf<|Qd<|x (Qa O)<|x (Qa O)<|x (Qc h3 O O)<|xl O<|YG (n:=n) (congrArg (Value.int .i64) hn) (congrArg (Value.int .i64) hn) (by omega) λbI w2 h4 kg hJ=>Qf ?_;rw[Qbu] at hJ;have h6:=hz.trans h4;have m9:=hz.size;have pa:=h4.size;have pc:=hJ.lt
 have pd:=h3.lt;have hK:∀s∈to,0≤s∧s<(n:Int):=λs hs=>by have:=kf s hs;omega
 refine Qg<|Qd<|x (Qa O)<|x (Qa O)<|x (Qc (h3.ext h4) O O)<|x (Qw h.ed O)<|Qb<|xe<|Qh<|QC (α:=Nat×(Nat→Value)) [(7,7),(24,41)] (λz=>[(24,.int .i64 z.1)]) (λz w'=>z.1≤a.ed.length∧Step [bI] w2 w'∧QX w'.heap bI 37 ((List.range n).map z.2)∧K9 w2.heap.size w' n z.2 (ZB (a.ed.take z.1))) (λz=>a.ed.length - z.1) (by rfl) (0,λ_=>nS) Lb
  ⟨Lm _,Step.refl _ _,hJ,⟨λi _=>QR _ _ _ _,λi j _ _ _=>Dj.nil _⟩⟩ ?_
 rintro ⟨k,rv⟩ g J ⟨hk,hL,hM,hf⟩;simp only[] at hk hM hf;have pf:=hL.size;have h7:Step [] w1 J:=h4.then1 hL kg;refine Qd<|x (QD O O)<|xe<|Qg<|QI O (λhN=>?_) (λhN=>?_)
 ·refine Qy ?_;have kh:a.ed.length≤k:=by have h8:¬(k:Int)<(a.ed.length:Int):=hN;omega
  rw[Lq kh] at hf;have gt:∀i,i<n→QO [] J.heap (rv i) (ZB a.ed i):=λi hi=>QW (hf.own i hi) (by have:=Jh a.ed i;omega) (by simp);have hO:=(ke.ext hz).ext h7;refine Qd<|x (Qa O)<|x (Qa O)<|x (Qc (h3.ext h7) O O)<|xl O<|YG (n:=n) (congrArg (Value.int .i64) hn) (congrArg (Value.int .i64) hn) (by omega) λbO w4 hP pg hQ=>Qf ?_;rw[jJ] at hQ
  refine Qg<|Qd<|Qb<|x (Qw (L:=[]) (hQ.arr (by simp) (n:=n) (cap:=n) (sz:=1) (by simp[gA]) (by omega) (Lv _)) rfl)<|Qb<|xe<|Qh<|QC (α:=Nat) [(9,9),(48,54)] (λz=>[(48,.int .i64 z)]) (λz w'=>z≤n∧Step [] J w'∧QX w'.heap bO 3 ((gA n (λj=>if j<z then -1 else 0)).map (Value.int .i64))) (λz=>n - z) (by rfl) 0 Lb ⟨Lm _,hP,hQ⟩ ?_
  rintro j g E ⟨hj,hg,h9⟩;refine Qd<|x (QD O O)<|xe<|Qg<|QI O (λhR=>?_) (λhR=>?_)
  ·refine Qy ?_;have hS:j=n:=by have ki:¬(j:Int)<(n:Int):=hR;omega
   have kj:gA n (λi=>if i<j then -1 else 0)=gA n (λi:Nat=>if (i:Int)∈to.take 0 then 0 else -1):=yc λi hi=>by rw[if_pos (by omega),if_neg (by simp)]
   rw[kj] at h9;refine Qd<|Qb<|xl O<|xf<|(Zk (hO.ext hg)).mono ?_;rintro vq w6 ⟨V,kk⟩;have ph:=h9.lt;have gu:=hg.trans V;have kn:=hg.size;refine Qf<|Qg<|Qd<|Qb<|x (Qw (hO.ext gu) O)<|Qb<|xe ?_
   refine Qh<|QC (α:=Nat) [(12,12),(59,66)] (λz=>[(59,.int .i64 z)]) (λz w'=>z≤to.length∧Step [] J w'∧QX w'.heap bO 3 ((gA n (λi:Nat=>if (i:Int)∈to.take z then 0 else -1)).map (Value.int .i64))∧Qn 3 E.heap.size w' vq to∧E.heap.size≤w'.heap.size) (λz=>to.length - z) (by rfl) 0 Lb
    ⟨Lm _,gu,h9.ext V,kk,V.size⟩ ?_
   rintro i g w7 ⟨hi,Y,hT,hU,ko⟩;refine Qd<|x (QD O O)<|xe<|Qg<|QI O (λhV=>?_) (λhV=>?_)
   ·refine Qy ?_;have kq:to.length≤i:=by have hA:¬(i:Int)<(to.length:Int):=hV;omega
    rw[Lq kq] at hT;have kr:QX w7.heap bO 3 ((Vr n to).map (Value.int .i64)):=hT;refine Qg<|Qh<|QC (α:=Nat×Value×LI×LI) [(10,10),(13,13),(15,15),(67,101)] (λz=>[(10,z.2.1)])
     (λz w'=>Step [] J w'∧E.heap.size≤w'.heap.size∧QX w'.heap bO 3 (z.2.2.1.map (Value.int .i64))∧KD 3 E.heap.size w' z.2.1 z.2.2.2∧yN n z.2.2.1 z.2.2.2∧QcL z.2.2.1 z.2.2.2∧neg z.2.2.1+z.2.2.2.length≤z.1∧z.1≤8192∧bwL a.ed z.1 z.2.2.1 z.2.2.2=bwd n a.ed to)
     (λz=>z.1+1 - (if z.2.2.2=[] then 1 else 0)) (by rfl) (n+to.length,vq,Vr n to,to) Lb
     ⟨Y,ko,kr,Y8.of_row hU,QdK hK,λx hx=>by rw[q7 (hK x hx) hx];omega,by have:=Qaz (Vr n to);rw[Xn] at this;simp only[];omega,by simp only[];omega,O⟩ ?_
    rintro ⟨fu,vq,o,q⟩ g w8 ⟨H,hW,hh,hB,h0,hX,hY,kt,ho⟩;simp only[] at hW hh hB h0 hX hY kt ho;have pj:neg o+q.length≤8192:=by omega
    refine Qg<|Qd<|Qb<|x (Qw (Qk9 (L:=[]) hB (by omega) (by simp)) rfl)<|x (ZL rfl rfl)<|xe<|QI O (λhZ=>?_) (λhZ=>?_)
    ·refine Qy ?_;have ku:q=[]:=Ln (by have kv:¬(q.length:Int) > 0:=hZ;omega);rw[ku,QkO] at ho;rw[ho] at hh;refine Qd<|Qb<|Qf ?_;exact Qs ⟨[.slice (some ⟨bO,0,none⟩) n n],Lb,hz.trans (h7.trans H),bO,O,by omega,hh⟩
    refine Qj ?_;have kw:0<q.length:=by have kv:(q.length:Int) > 0:=hZ;omega
    refine Exists.elim (List.exists_cons_of_length_pos kw) λs kx=>Exists.elim kx λq' kz=>?_;subst kz;have pn:0<fu:=by simp only[List.length_cons] at hY;omega
    refine Exists.elim (MI (show fu≠0 by omega)) λgv ga=>?_;subst ga;have hsr:=h0.q s Lh;have k0:=hX s Lh;have hq:s=(s.toNat:Int):=by omega
    rw[bwL] at ho;simp only[List.length_cons] at hY;refine Qh<|Qd<|Qb<|xii (i:=0) (Qk9 (L:=[]) hB (by simp only[List.length_cons];omega) (by simp)) rfl rfl (by simp) λpp k4=>x (Qv k4 rfl)<|Qf<|Qd<|Qb<|QnS (lo:=1) hB rfl rfl (by simp only[List.length_cons];omega) λgx k5 pt=>Qf ?_;have S:KD 3 E.heap.size w8 gx q':=KD.tail k5
    refine Qd<|Qb<|Qb<|x (QP (i:=s.toNat) O (congrArg (Value.int .i64) hq) (by omega))<|x (Qc (u:=rv s.toNat) (hM.ext H) O (V2 (by omega)))<|x (Qw ((gt s.toNat (by omega)).ext H) O)<|Qb<|xe ?_;have gy:=Jh a.ed s.toNat;refine Qh<|QC (α:=Nat×Value×LI×LI) [(10,10),(15,15),(80,101)] (λz=>[(10,z.2.1),(80,.int .i64 z.1)])
     (λz w'=>z.1≤(ZB a.ed s.toNat).length∧Step [] J w'∧E.heap.size≤w'.heap.size∧QX w'.heap bO 3 (z.2.2.1.map (Value.int .i64))∧KD 3 E.heap.size w' z.2.1 z.2.2.2∧yN n z.2.2.1 z.2.2.2∧QcL z.2.2.1 z.2.2.2∧0≤cget z.2.2.1 s.toNat∧neg z.2.2.1+z.2.2.2.length≤gv∧((ZB a.ed s.toNat).drop z.1).foldl (VW s) (z.2.2.1,z.2.2.2)=(ZB a.ed s.toNat).foldl (VW s) (o,q'))
     (λz=>(ZB a.ed s.toNat).length - z.1) (by rfl) (0,gx,o,q') ⟨O,O,La⟩
     ⟨Lm _,H,hW,hh,S,⟨h0.len,λx hx=>h0.q x (Le _ hx),h0.le⟩,λx hx=>hX x (Le _ hx),k0,by simp only[];omega,O⟩ ?_
    rintro ⟨m,gc,o2,G⟩ g w9 ⟨hm,hC,ge,hr,S,Z,hD,hE,gg,U⟩;simp only[] at hm ge hr S Z hD hE gg U;refine Qd<|x (QD O O)<|xe<|Qg<|QI O (λgh=>?_) (λgh=>?_)
    ·refine Qy ?_;have k6:(ZB a.ed s.toNat).length≤m:=by have hF:¬(m:Int)<((ZB a.ed s.toNat).length:Int):=gh;omega
     rw[Lr k6] at U;rw[←U] at ho;exact ⟨(gv,gc,o2,G),by simp only[];split <;> simp <;> omega,Lb,hC,ge,hr,S,Z,hD,gg,by simp only[];omega,ho⟩
    refine Qj ?_;have ht:m<(ZB a.ed s.toNat).length:=by have hF:(m:Int)<((ZB a.ed s.toNat).length:Int):=gh;omega
    have gz:=J3 (Lj ht);have k7:=Q9 ht;rw[k7,Ls] at U;refine Zs ((ZB a.ed s.toNat)[m]'ht) λp hp=>?_;rw[hp] at gz U;have g0:0≤p∧p<(n:Int):=by
     obtain ⟨e,he,h1,_⟩:=gz;have:=gs e he;omega
    have g1:p=(p.toNat:Int):=by omega
    have pu:=Z.len;have hG:p.toNat<o2.length:=by omega
    have gi:s.toNat<o2.length:=by omega
    have pw:=Z.le _ (XX gi);have hH:=QdJ (st:=(o2,G)) Z hsr hE g0;have g2:=yF (st:=(o2,G)) Z hE g0 hD;refine Qg<|Qh<|Qd<|xii (i:=m) ((gt s.toNat (by omega)).ext hC) O O ht λpz hF=>?_;rw[hp] at hF;refine x (Qv hF O)<|Qf<|Qd<|Qb<|Qb<|x (QP (i:=p.toNat) O (congrArg (Value.int .i64) g1) (by omega))<|x (Vg (i:=p.toNat) hr O hG)<|x (QD O O)<|xe ?_
    refine QI O (λgj=>?_) (λgj=>?_)
    ·refine Qj ?_;have hc:¬cget o2 p.toNat<0:=by rw[←Q5 hG];exact gj
     have gk:VW s (o2,G) p=(o2,G):=by unfold VW;rw[if_neg hc]
     rw[gk] at U;refine Qx<|QN O O<|Qb<|xe ?_;exact ⟨(m+1,gc,o2,G),by simp only[];omega,⟨O,O,La⟩,ht,hC,ge,hr,S,Z,hD,hE,gg,U⟩
    have hc:cget o2 p.toNat<0:=by rw[←Q5 hG];exact gj
    have gk:VW s (o2,G) p=(o2.set p.toNat (cget o2 s.toNat+1),G++[p]):=by unfold VW;rw[if_pos hc]
    rw[gk] at U hH g2;have k8:=Q5 gi;refine Qd<|Qb<|Qb<|Qb<|Qb<|x (QP (i:=s.toNat) O (congrArg (Value.int .i64) hq) (by omega))<|x (Vg (i:=s.toNat) hr O gi)<|x (X1 O O ⟨by omega,by omega⟩) <|
     x (QP (i:=p.toNat) O (congrArg (Value.int .i64) g1) (by omega))<|xl O<|XK (i:=p.toNat) hr O O hG λk9 gl g3=>xe ?_
    rw[k8] at g3;have p0:=gl.size;have ma:∀b∈ob gc,b∉[bO]:=λb hb=>by have:=QlK S b hb;simp;omega
    have mc:=Qha S gl ma;have mf:Step [] J k9:=hC.then1 gl (by omega);refine Qx<|Qb<|Qb<|xl O<|QL (us:=[[.int .i64 p]]) O O (by decide) (by simp) ⟨rfl,rfl,La⟩ λp1 p2 h2 p3 mg=>xl rfl<|QlT (m:=1) (news:=[.int .i64 p]) (Qnc mc h2) rfl rfl rfl (by omega) (mg.at (L:=[]) (by simp)) (by simp[Value.oneCell']) (by omega) (by have:=h2.size;omega) λg4 mh mj h6 p4 =>
     Qf ?_
    have p5:=h2.size;have p6:=h6.size;have mo:KD 3 E.heap.size mh g4 (G++[p]):=KD.snoc mj;have p7:J.heap.size≤E.heap.size:=by omega
    refine Qx<|QN O O<|Qb<|xe<|⟨(m+1,g4,_,G++[p]),by simp only[];omega,⟨O,O,La⟩,ht,(mf.trans h2).then h6 (λb hb=>.inr (by have:=QlK S b hb;omega)),by omega,(g3.ext h2).step h6 (λhb=>by have:=QlK S _ hb;omega),mo,hH.1,g2,hH.2.2,?_,U⟩;have h5:neg (o2.set p.toNat (cget o2 s.toNat+1))+(G++[p]).length=neg o2+G.length:=hH.2.1;simp only[];omega
   refine Qj ?_;have hu:i<to.length:=by have hA:(i:Int)<(to.length:Int):=hV;omega
   have mq:=hK _ (Lj hu);have hv:to.take (i+1)=to.take i++[to[i]'hu]:=Ll hu;refine Zs (to[i]'hu) λs hs=>?_;rw[hs] at mq hv;have hq:s=(s.toNat:Int):=by omega
   have gm:(gA n (λj:Nat=>if (j:Int)∈to.take i then 0 else -1)).set s.toNat 0=gA n (λj:Nat=>if (j:Int)∈to.take (i+1) then 0 else -1):=yb (by rw[hv];simp;omega) (λj _ hj=>by
    rw[hv];have:¬(j:Int)=s:=by omega
    simp[this])
   refine Qg<|Qh<|Qd<|xii (i:=i) (hO.ext Y) O O hu λp8 hA=>?_;rw[hs] at hA;refine x (Qv hA O)<|Qf<|Qx<|Qb<|Qb<|x (QP (i:=s.toNat) O (congrArg (Value.int .i64) hq) (by omega))<|xl O<|KS (i:=s.toNat) hT O O (by omega) gm λw8 H hh=>xe ?_;refine Qx<|QN O O<|Qb<|xe ?_;have hW:=H.size
   exact ⟨i+1,by omega,Lb,hu,Y.then1 H (by omega),hh,Qi hU H (λb hb=>by have:=Qm hU b hb;simp;omega),by omega⟩
  refine Qj ?_;have hS:j<n:=by have ki:(j:Int)<(n:Int):=hR;omega
  refine Qg<|Qh<|Qd<|Qb<|Qf<|Qx ?_;have gm:(gA n (λi=>if i<j then -1 else 0)).set j (-1)=gA n (λi=>if i<j+1 then -1 else 0):=yb (by rw[if_pos (by omega)]) (λi _ hi=>by
   by_cases e:i<j
   ·rw[if_pos e,if_pos (by omega)]
   rw[if_neg e,if_neg (by omega)])
  refine Qb<|Qb<|x (QP (i:=j) O O (by omega))<|xl O<|KS (i:=j) h9 O O hS gm λw6 V ms=>xe ?_;refine Qx<|QN O O<|Qb<|xe ?_;exact ⟨j+1,by omega,Lb,hS,hg.then1 V (by omega),ms⟩
 refine Qj ?_;have hw:k<a.ed.length:=by have h8:(k:Int)<(a.ed.length:Int):=hN;omega
 have hv:a.ed.take (k+1)=a.ed.take k++[a.ed[k]'hw]:=Ll hw;have g5:=gs _ (Lj hw);refine Zs (a.ed[k]'hw) λe he=>?_;rw[he] at hv g5;have g6:e.2.2=(e.2.2.toNat:Int):=by omega
 have ha:e.2.2.toNat<n:=by omega
 have gy:=Jh (a.ed.take k) e.2.2.toNat;rw[LF] at gy;have hq:=zU (a.ed.take k) e g5.2.2.1;refine Qg<|Qh<|Qd<|xie ((h.ed.ext hz).ext h7) O O hw λp9 h8=>?_;rw[he] at h8;refine x (QQ h8 O O)<|xl O<|Qu (us:=[.int .i64 0,.int .i64 0,.int .i64 0]) O λb7 w4 hP mt mu=>xl O<|Qq (us:=Qz e) mu O O O O ⟨O,O,O,La⟩ λE hg gn=>xe ?_;have hI:Step [] J E:=hP.then1 hg mt
 have kn:=hI.size;have g7:=hf.ext hI;have mv:=g7.own _ ha;have gq:∀b∈ob (rv e.2.2.toNat),w2.heap.size≤b∧b<J.heap.size:=λb hb=>⟨(Qm (hf.own _ ha) b hb).1,QY (hf.own _ ha) b hb⟩;have g8:bI∉ob (rv e.2.2.toNat):=λhb=>by have:=gq _ hb;omega
 have gr:b7∉ob (rv e.2.2.toNat):=λhb=>by have:=gq _ hb;omega
 have g9:=hM.ext hI;refine QV (Step (ob (rv e.2.2.toNat)) E) [(0,true),(1,true),(2,true),(3,true),(4,true),(5,true),(6,true),(7,true),(8,true),(9,true),(10,false),(11,false),(12,true),(13,false)] mixed (by rfl) (by kernel_rfl) (Step.drew _ _) ?_;refine p (λ_=>Ql)<|p (λ_=>Qa O)<|pq (λ_ hc=>Qc (gn.step hc gr) O O)<|p (λ_=>Ql)<|p (λ_=>Qa O)<|pq (λ_ hc=>Qc (gn.step hc gr) O O) <|
  p (λ_=>QP (i:=e.2.2.toNat) O (congrArg (Value.int .i64) g6) ha)<|pq (λ_ hc=>Qc (u:=rv e.2.2.toNat) (g9.step hc g8) O (V2 ha))<|p (λ_=>Qa O)<|pq (λ_ hc=>Qc (gn.step hc gr) O O) <|
  pk<|QL (us:=[[.int .i64 e.1]]) O O (by decide) (by simp) ⟨rfl,rfl,La⟩ λqa w6 V qe mw=>⟨(Step.drew _ _).trans V,?_⟩
 have hy:Step [] E w6:=(Step.drew _ _).trans V;have qf:=hy.size;refine pk<|QZ (m:=1) (news:=[.int .i64 e.1]) (Qt mv hy) O O O (mw.at (L:=[]) (by simp)) (by simp[Value.oneCell']) (by omega) (by omega) λvr w7 ka Y my=>⟨hy.any.trans' Y,?_⟩;have mz:=(g9.ext hy).step Y g8;have m0:((List.range n).map rv).length=n:=by simp
 refine p (λ_=>QP (i:=e.2.2.toNat) O (congrArg (Value.int .i64) g6) ha)<|pkl (hl:=by kernel_rfl)<|QH (j:=0+e.2.2.toNat*1) (u:=vr) mz O O (by rw[m0];omega) (QW (L:=[]) ka (by omega) (by simp)).one λw8 H m2=>pe ?_;have m3:QX w8.heap bI 37 ((List.range n).map (KE rv e.2.2.toNat vr)):=by
  have e1:=Qbf id n rv e.2.2.toNat vr;simp only[id] at e1;rw[←e1];simpa using m2
 have m4:∀b∈ob vr,b∈ob (rv e.2.2.toNat)∨E.heap.size≤b:=λb hb=>(my b hb).imp id (λh=>by omega);have kb:=g7.app ha (Qn.snoc ka) (hy.any.trans' Y) m4;have kc:=kb.step H (λi hi b hb=>by have:=(Qm (kb.own i hi) b hb).1;simp;omega);have ga:KE (ZB (a.ed.take k)) e.2.2.toNat (ZB (a.ed.take k) e.2.2.toNat++[e.1])=ZB (a.ed.take (k+1)):=by rw[hv];exact funext hq
 rw[ga] at kc;refine Qx<|QN O O<|Qb<|xe<|⟨(k+1,KE rv e.2.2.toNat vr),by simp only[];omega,Lb,hw,?_,m3,kc⟩;exact (((hL.trans hI).trans hy).then Y (λb hb=>.inr (gq b hb).1)).trans' H
def U0 (d:LI) (k:Nat):LI:=((List.range k).filter λi=>decide (0≤cget d i)).map λi:Nat=>(i:Int)
def cor (a:QE):LI:=U0 (bwd a.st.toNat a.ed a.mr) a.st.toNat
theorem jW (d:LI) (k:Nat):U0 d (k+1)=if 0≤cget d k then U0 d k++[(k:Int)] else U0 d k:=by
 unfold U0;rw[List.range_succ,Me,LA];by_cases h:0≤cget d k
 ·simp[h]
 simp[h]
theorem Qch (d:LI) (k:Nat):(U0 d k).length≤k:=by
 unfold U0;rw[Lo];have:=Mj (λi=>decide (0≤cget d i)) (List.range k);simpa using this
theorem QkP (s:Int) (st:LI×LI) (p:Int):(VW s st p).1.length=st.1.length:=by unfold VW;split <;> simp
theorem QcD (s:Int):∀(ps:LI) (st:LI×LI),(ps.foldl (VW s) st).1.length=st.1.length
 | [],_=>rfl
 | p::ps,st=>by rw[Ls,QcD s ps,QkP]
theorem Qfd (es:List Ed):∀(f:Nat) (o q:LI),(bwL es f o q).length=o.length
 | 0,_,_=>rfl
 | _+1,_,[]=>rfl
 | f+1,o,s::q=>by rw[bwL,Qfd es f,QcD]
theorem QkM (n:Nat) (es:List Ed) (to:LI):(bwd n es to).length=n:=by unfold bwd;rw[Qfd,Xn]
theorem yM {w:World}{va vm ve:Value}{a:QE}(h:Zi [] w.heap va vm ve a) :
  QM prog 117 [.agg #[va,.int .i64 a.st,vm,ve]] w λr w'=>Step [] w w'∧∃v,r=.tuple #[v,.int .i64 (XW a)]∧Qn 3 w.heap.size w' v (if XW a=0 then cor a else []):=by
 refine QM.of_W func117 O ntmps117 results117 (by simp) ?_;refine Qd<|xl O<|QS (us:=[va,.int .i64 a.st,vm,ve]) O λb1 w1 J h7 ha=>x Qe<|Qf<|Qg<|Qd<|x (Qo ha O O)<|xl O<|xf<|(Xk (h.ext J)).mono ?_;rintro r2 U ⟨rfl,G⟩;refine Qf<|Qd<|Qb<|x (Zj O O)<|xe ?_;have h8:=J.size;have h9:=G.size;refine Zc rfl (λhf=>?_) (λhf=>?_)
 ·refine Qd<|Qb<|x Qe<|Qf<|Qs ⟨[nS,.int .i64 (XW a)],⟨O,O,La⟩,J.trans G,_,O,?_⟩;rw[if_neg hf];exact QR _ _ _ _
 have hg:XW a=0:=Lt.1 hf;have E:=(Zp a).1 hg;refine exN E.st0 λn hn=>?_;have hw:a.st.toNat=n:=by omega
 have hq:=E.st1;have hy:=E.mr_le;have hA:=E.ed_le;refine Qj<|Qd<|Qf ?_;have hh:=(h.ext J).ext G;have hj:Step [] U { U with drawn:=U.drawn+1 }:=Step.drew _ _
 refine Qg<|Qg<|QV (Step [] U) [(0,true),(2,true),(3,true),(6,true),(1,false),(4,false),(5,true)] mixed (by rfl) (by kernel_rfl) (Step.drew _ _) ?_;refine pq (λ_ hc=>Qo ((ha.ext G).ext hc) O O)<|p (λ_=>Qa O)<|pq (λ_ hc=>Qc ((ha.ext G).ext hc) O O) <|
  p (λ_=>Ql)<|pk<|xf<|(qh (hh.ext hj) hn hq (λe he=>⟨(E.ed e he).1,(E.ed e he).2.1⟩)).mono ?_
 rintro r3 w3 ⟨hr,bF,rfl,_,_⟩;refine ⟨hj.trans hr,?_⟩;have V:=hj.trans hr;refine pk<|xf<|(QcF (hh.ext V) hn hq (λe he=>⟨(E.ed e he).1,(E.ed e he).2.1,(E.ed e he).2.2.2⟩) (by omega) (hh.mr.ext V) E.mr hy).mono ?_;rintro r4 w4 ⟨hs,bO,rfl,hB,hz⟩;refine ⟨V.trans hs,?_⟩;have ht:=V.trans hs;have hu:=QkM n a.ed a.mr
 have hv:Zz [] w4.heap (.slice (some ⟨bO,0,none⟩) n n) n 1 ((bwd n a.ed a.mr).map (Value.int .i64)):=hz.arr (by simp) (by simp[hu]) (by omega) (Lv _);refine p (λ_=>Qw hv O)<|pe ?_;have hC:=ht.size;have h0:cor a=U0 (bwd n a.ed a.mr) n:=by unfold cor;rw[hw]
 refine Qh<|QC (α:=Nat×Value) [(5,7),(19,30)] (λz=>[(5,z.2),(19,.int .i64 z.1)]) (λz w'=>z.1≤n∧Step [] w4 w'∧Qn 3 w4.heap.size w' z.2 (U0 (bwd n a.ed a.mr) z.1)) (λz=>n - z.1) (by rfl) (0,nS) ⟨O,O,La⟩
  ⟨Lm _,Step.refl _ _,QR _ _ _ _⟩ ?_
 rintro ⟨k,v⟩ g w5 ⟨hk,S,H⟩;simp only[] at hk H;refine Qd<|x (QD O O)<|xe<|Qg<|QI O (λhl=>?_) (λhl=>?_)
 ·refine Qy ?_;have Y:k=n:=by have h1:¬(k:Int)<(n:Int):=hl;omega
  rw[Y,←h0] at H;refine Qd<|Qb<|x Qe<|Qf<|Qs ⟨[v,.int .i64 0],⟨O,O,La⟩,(J.trans G).trans (ht.trans S),_,by rw[hg];rfl,?_⟩;rw[if_pos hg];exact QT H (by omega)
 have Y:k<n:=by have h1:(k:Int)<(n:Int):=hl;omega
 have Z:=jW (bwd n a.ed a.mr) k;have hD:=Qch (bwd n a.ed a.mr) k;refine Qj<|Qg<|Qh<|Qd ?_;have h2:QO [] w5.heap (.slice (some ⟨bO,0,none⟩) n n) (bwd n a.ed a.mr):=by unfold QO;rw[hu];exact hv.ext S
 refine Qb<|xic (i:=k) h2 O O (by omega) λhE h3=>x (Qv h3 O)<|x Qe<|Qf<|Qd<|Qb<|x (Yg O O)<|xe<|QI rfl (λhm=>?_) (λhm=>?_)
 ·refine Qj ?_;rw[if_neg hm] at Z;refine Qx<|QN O O<|Qb<|xe ?_;exact ⟨(k+1,v),by simp only[];omega,⟨O,O,La⟩,Y,S,by rw[Z];exact H⟩
 rw[if_pos hm] at Z;have hF:=S.size;refine Qx<|Qb<|Qb<|xl O<|QL (us:=[[.int .i64 k]]) O O (by decide) (by simp) ⟨rfl,rfl,La⟩ λhG w6 hp hH h4=>xl rfl<|QZ (m:=1) (news:=[.int .i64 k]) (Qt H hp) rfl rfl rfl (h4.at (L:=[]) (by simp)) (by simp[Value.oneCell']) (by omega) (by have:=hp.size;omega) λv7 w7 h5 h6 hI =>
  Qf<|Qx<|QN O O<|Qb<|xe ?_
 exact ⟨(k+1,v7),by simp only[];omega,⟨O,O,La⟩,Y,(S.trans hp).then h6 (λb hb=>.inr (Qm H b hb).1),by rw[Z];exact Qn.snoc h5⟩
theorem Qn0 {P:Program}{ops:List Oper}{K:Fr→World→Prop}{f:Fr}{w:World}{d:Option Nat}{ty:Nat}{ps:String}{af:Array Edge}{gd:Option (Nat×Bool)}{C:World→Prop}{pl:List (Nat×Bool)}{E:Nat}
  {t e sz bys:Nat} {z:Value} {x G J:Operand} {L:LN} {v:Value} {n:Nat} {cs:LV} {H:Array Obj} {k k':IntKind} {lo hi:Nat} [h:Sl P t e sz bys z]
  (S:Q6 ops E=⟨d,.slice t x (some G) (some J) none,ty,ps,af,gd⟩) (U:Zz L H v n sz cs) (hx:ev f x=v) (hl:ev f G=.int k lo) (V:ev f J=.int k' hi) (h1:lo≤hi) (h2:hi≤n)
  (Y:∀v',Zz L H v' (hi - lo) sz ((cs.drop (lo*sz)).take ((hi - lo)*sz))→XP P ops C K pl (Q4 f d v') w)
  (Z:YD ops f (Q6 ops E)=true:=by rfl):XP P ops C K ((E,true)::pl) f w:=by
 obtain ⟨v',h3,h4⟩:=Qek (P:=P) (d:=d) (ty:=ty) (ps:=ps) (af:=af) (gd:=gd) (t:=t) U hx hl V h1 h2;exact Lg.p (λw'=>by rw[S];exact h4 w') (by rw[S];exact Y v' h3) Z
theorem QeT {es:List Ed}(hs:es.Pairwise λx y=>x.1≤y.1) (s:Nat):∀(m:Nat) (hm:m<es.length),(m:Int)<fS es s↔(es[m]'hm).1<(s:Int):=by
 unfold fS cnE;induction es with
 | nil=>intro m hm;simp at hm
 | cons e es ih =>
  intro m hm;simp only[List.pairwise_cons] at hs;have ih:=ih hs.2;simp only[List.filter_cons];by_cases h1:e.1<(s:Int)
  ·simp only[h1,decide_true,if_true,List.length_cons];cases m with
   | zero=>simp only[List.getElem_cons_zero];omega
   | succ m =>
    have:=ih m (by simpa using hm);simp only[List.getElem_cons_succ];rw[←this];omega
  have E:(es.filter λe=>decide (e.1<(s:Int)))=[]:=M6.2 (λd hd=>by have:=hs.1 d hd;simp;omega);simp only[h1,decide_false,Bool.false_eq_true,if_false,E,List.length_nil];cases m with
  | zero=>simp only[List.getElem_cons_zero];omega
  | succ m =>
   have hd:es[m]'(by simpa using hm)∈es:=Lj _;have:=hs.1 _ hd;simp only[List.getElem_cons_succ];omega
theorem Qkt (es:List Ed) (s:Nat):fS es s≤fS es (s+1):=by
 have h:=QeS es s;have:=(VM (λe:Ed=>decide (e.1+1=((s+1:Nat):Int))) es).1;unfold cN at h;omega
theorem QjB {es:List Ed}(hs:es.Pairwise λx y=>x.1≤y.1) (s lo hi:Nat) (h1:fS es s=(lo:Int)) (h2:fS es (s+1)=(hi:Int)):(es.drop lo).take (hi - lo)=Zv es s∧hi≤es.length∧lo≤hi:=by
 have hm:=Qkt es s;have hl:=(VM (λe:Ed=>decide (e.1<((s+1:Nat):Int))) es).2;have E:hi≤es.length:=by unfold fS at h2;omega
 refine ⟨?_,E,by omega⟩;exact yr (λe:Ed=>decide (e.1=(s:Int))) es lo hi (by omega) E
  (λm hm H=>by have:=(QeT hs s m hm).1 (by omega);simp;omega)
  (λm hm h3 h4=>by
   have h5:¬(es[m]'hm).1<(s:Int):=λh=>by have:=(QeT hs s m hm).2 h;omega
   have G:=(QeT hs (s+1) m hm).1 (by omega);simp;omega)
  (λm hm h3=>by
   have G:¬(es[m]'hm).1<((s+1:Nat):Int):=λh=>by have:=(QeT hs (s+1) m hm).2 h;omega
   simp;omega)
theorem jO:∀(l:List Ed) (k:Nat),(l.flatMap Qz).drop (k*3)=(l.drop k).flatMap Qz
 | [],k=>by simp
 | e::l,0=>by simp
 | e::l,k+1=>by
  simp only[List.flatMap_cons,List.drop_succ_cons,Nat.add_mul,Nat.one_mul];rw[MX,←List.drop_drop,show (Qz e++l.flatMap Qz).drop 3=l.flatMap Qz from rfl,jO l k]
theorem jN:∀(l:List Ed) (k:Nat),(l.flatMap Qz).take (k*3)=(l.take k).flatMap Qz
 | [],k=>by simp
 | e::l,0=>by simp
 | e::l,k+1=>by
  simp only[List.flatMap_cons,List.take_succ_cons,Nat.add_mul,Nat.one_mul];rw[MX,NC,show (Qz e).length=3 from rfl,show 3+k*3 - 3=k*3 by omega,jN l k,Lq (by rw[show (Qz e).length=3 from rfl];omega)]
theorem Qim {w:World}{va vm ve vf:Value}{st s:Int} :
  QM prog 242 [.agg #[va,.int .i64 st,vm,ve,vf],.int .i64 s] w λr w'=>Step [] w w'∧∃b1 b2,r=.func (.func 276) #[] #[.pointer (some ⟨b1,0,none⟩),.pointer (some ⟨b2,0,none⟩)] ∧
   w.heap.size≤b1∧w.heap.size≤b2∧QX w'.heap b1 292 [va,.int .i64 st,vm,ve,vf]∧QX w'.heap b2 3 [.int .i64 s]:=by
 refine QM.of_W func242 O ntmps242 results242 (by simp) ?_;refine Qd<|xl O<|QS (us:=[va,.int .i64 st,vm,ve,vf]) O λb2 U E H J=>xl O<|QS (us:=[.int .i64 s]) O λb3 V G Y S=>Qf<|Qd<|x ZF<|Qf ?_;have Z:=E.size;exact Qs ⟨[_],Lb,E.trans G,b2,b3,O,H,by omega,J.ext G,S⟩
theorem Qdx {L:LN}{w:World}{b1 b2 bF n s m:Nat}{va vm ve:Value}{a:QE}(hv:QX w.heap b1 292 [va,.int .i64 a.st,vm,ve,.slice (some ⟨bF,0,none⟩) (n+1) (n+1)]) (hw:QX w.heap b2 3 [.int .i64 s])
  (hy:QX w.heap bF 3 ((gA (n+1) (fS a.ed)).map (Value.int .i64))) (hE:qc L w.heap ve a.ed) (hz:a.ed.Pairwise λx y=>x.1≤y.1) (hs:s<n) (hn:n≤4096) :
  SeqStopsK (fen none) m prog 276 [.pointer (some ⟨b1,0,none⟩),.pointer (some ⟨b2,0,none⟩)].toArray (λx:{ e:Ed // e∈a.ed }=>#[.agg (Qz x.1).toArray]) (Lw w.heap.size L)
   (λE=>E.map (·.1)=Zv a.ed s) (λ_=>True) (a.ed.length+1) w:=by
 intro l J Jx W h2 hJ h3 hY h0;have V:Step [] w W:=Step.of_below h2;have ab:∀{E:List { e:Ed // e∈a.ed }} {W1 W2:World},J E W1→Step [] W1 W2→J E W2:=λ{E W1 W2} hj S=>hJ E W1 W2 none hj ⟨S.os,S.tape,S.output,S.size,λk hk _=>S.block k hk (by simp)⟩ (λr e=>by cases e);have hH:=VM (λe:Ed=>decide (e.1<(s:Int))) a.ed;have hI:=VM (λe:Ed=>decide (e.1<((s+1:Nat):Int))) a.ed
 obtain ⟨lo,hg⟩:∃lo:Nat,fS a.ed s=(lo:Int):=⟨(fS a.ed s).toNat,by unfold fS;omega⟩;obtain ⟨hi,hh⟩:∃hi:Nat,fS a.ed (s+1)=(hi:Int):=⟨(fS a.ed (s+1)).toNat,by unfold fS;omega⟩;obtain ⟨hl,h4,h5⟩:=QjB hz s lo hi hg hh;have hK:=hE.le;have h6:(Zv a.ed s).length=hi - lo:=by rw[←hl,LF,Mf];omega
 have h7:∀e∈Zv a.ed s,e∈a.ed:=λe he=>(Ya he).1;have key:QM prog 276 [.func (.yield l) #[] #[],.pointer (some ⟨b1,0,none⟩),.pointer (some ⟨b2,0,none⟩)] W (λ_ W'=>(∃E,E.map (·.1)=Zv a.ed s∧J E W')∨(∃pre,True∧Jx pre W')):=by
  refine QM.of_G m func276 O ntmps276 results276 (by simp) ?_;have ha:=hv.ext V;have hm:=hw.ext V;have ho:=hy.ext V;refine Q2<|Qa3 (Step [] W) [(0,true),(1,true),(2,true),(3,true),(4,true),(5,true),(6,true),(7,true),(8,true),(9,true),(10,true),(11,true),(12,true),(13,true),(14,true),(15,true),(16,true)] mixed (by rfl) (by rfl) (by kernel_rfl) (Step.drew _ _) ?_
  refine p (λ_=>Qa O)<|p (λ_=>Qa O)<|pq (λ_ hc=>Qc (ha.ext hc) O O)<|p (λ_=>Qa O)<|pq (λ_ hc=>Qc (ha.ext hc) O O)<|pq (λ_ hc=>Qc (hm.ext hc) O O) <|
   p (λ_=>QP (i:=s) O O (by omega))<|pq (λ_ hc=>V5 (i:=s) (ho.ext hc) O (by omega))<|p (λ_=>Qa O)<|pq (λ_ hc=>Qc (ha.ext hc) O O) <|
   pq (λ_ hc=>Qc (hm.ext hc) O O)<|p (λ_=>X1 O O ⟨by omega,by omega⟩)<|p (λ_=>QP (i:=s+1) O O (by omega))<|pq (λ_ hc=>V5 (i:=s+1) (ho.ext hc) O (by omega)) <|
   Qn0 (lo:=lo) (hi:=hi) O hE O (congrArg (Value.int .i64) hg) (congrArg (Value.int .i64) hh) h5 h4 λh8 hp=>p (λ_=>Qw hp O)<|p (λ_=>Ql)<|pe ?_
  have hS:qc L w.heap h8 (Zv a.ed s):=by
   unfold qc;rw[h6,←hl,←jN,←jO];exact hp
  have hq:Step [] W { W with drawn:=W.drawn+1 }:=Step.drew _ _
  refine ZN<|VS (α:=Nat×List { e:Ed // e∈a.ed }) [(5,5),(22,30)] (λz=>[(22,.int .i64 z.1)]) (λz ds W'=>ds=[]∧z.1≤(Zv a.ed s).length∧Step L w W'∧z.2.map (·.1)=(Zv a.ed s).take z.1∧J z.2 W') (λz=>(Zv a.ed s).length - z.1) (by rfl) (0,[]) Lb
   ⟨O,Lm _,(V.trans hq).any,O,ab h0 hq⟩ ?_
  rintro ⟨k,E⟩ g ds w1 ⟨rfl,hk,hr,U,hb⟩;simp only[] at hk U hb;refine Q2<|QJ (by rfl) (by rfl) ?_;refine x (QD O O)<|xe<|Q2<|yL O (λhf=>?_) (λhf=>?_)
  ·refine Ky ?_;have h9:(Zv a.ed s).length≤k:=by
    have Y:¬(k:Int)<((hi - lo:Nat):Int):=hf;omega
   rw[Lq h9] at U;exact ⟨λ_ h=>(by cases h),MN,[],λW' G=>⟨La,.inl ⟨E,U,ab hb G⟩⟩⟩
  refine Yl ?_;have H:k<(Zv a.ed s).length:=by
   have Y:(k:Int)<((hi - lo:Nat):Int):=hf;omega
  have hL:=JX a.ed s;have ht:(Zv a.ed s).take (k+1)=(Zv a.ed s).take k++[(Zv a.ed s)[k]'H]:=Ll H;have Z:=h7 _ (Lj H);have hM:E.length=k:=by have:=congrArg List.length U;rw[Lo,LF] at this;omega
  refine Zs ((Zv a.ed s)[k]'H) λe he=>?_;rw[he] at ht Z;refine Q2<|ZN<|Q2<|QJ (by rfl) (by rfl) ?_;refine xie (i:=k) (hS.st hr) O O H λhN Y=>?_;rw[he] at Y;refine x (QQ Y O O)<|xl O<|Qu (us:=[.int .i64 0,.int .i64 0,.int .i64 0]) O λb5 w2 hA hB hC=>xl O<|Qq (us:=Qz e) hC O O O O ⟨O,O,O,La⟩ λw3 hD hF=>xe ?_;have hu:Step [] w1 w3:=hA.then1 hD hB;refine Q2<|Vu (by rfl) ?_
  refine Jy.pre2 ?_;refine Qb<|x (Qo hF O O)<|xe<|xy (l:=l) O (hY E ⟨e,Z⟩ w3 (ab hb hu) (by omega)) λen W3 hG=>Or.elim hG (λh1=>⟨.bool true,h1.1,?_⟩) (λh1=>⟨.bool false,h1.1,?_⟩)
  ·refine Jy.of_XL<|x (Zh O)<|xe<|Vv O<|Yl ?_;refine QJ (by rfl) (by rfl) ?_;refine QN O O<|Qb<|xe ?_;exact ⟨(k+1,E++[⟨e,Z⟩]),by simp only[];omega,Lb,O,H,(hr.trans hu).lw h1.2.2,by rw[ht,LA,U];rfl,h1.2.1⟩
  refine Jy.of_XL<|x (Zh O)<|xe<|Qa2 O ?_;refine Vc ⟨λ_ h=>(by cases h),MN,[],λW' G=>⟨La,.inr ⟨E++[⟨e,Z⟩],La,?_⟩⟩⟩;exact h3 _ W3 W' none h1.2 ⟨G.os,G.tape,G.output,G.size,λk hk _=>G.block k hk (by simp)⟩ (λr e=>by cases e)
 refine (callsIn_wide (n:=m)).2 ?_;have ea:(#[.func (.yield l) #[] #[]]++[.pointer (some ⟨b1,0,none⟩),.pointer (some ⟨b2,0,none⟩)].toArray:Array Value)=[.func (.yield l) #[] #[],.pointer (some ⟨b1,0,none⟩),.pointer (some ⟨b2,0,none⟩)].toArray:=by simp
 rw[ea];unfold QM at key;refine Calls.mono key λe w' he=>?_;cases e with
 | returned v=>exact ⟨⟨v,O⟩,he⟩
 | panicked c=>exact he.elim
 | outgrown=>exact he.elim
def Par (n:Nat) (ed:List Ed):Prop:=∀j:Nat,0<j→j<n→∃e∈ed,e.2.2=(j:Int)∧e.1<(j:Int)
theorem Qju {aa:List QE}{i:Nat}{t:LI}{s E:Sy}{v:Int}(h:Par s.tup.length s.ed) (hi:i<s.tup.length) (e:yU aa i t s v=some E):Par E.tup.length E.ed∧i<E.tup.length:=by
 unfold yU at e;cases hs:Q7 v aa t with
 | none=>rw[hs] at e;cases e;exact ⟨h,hi⟩
 | some u =>
  rw[hs] at e;simp only[] at e;by_cases hu:u∈s.tup
  ·rw[if_pos hu] at e;cases e
   refine ⟨λj G hj=>?_,hi⟩;obtain ⟨d,hd,h1⟩:=h j G hj;exact ⟨d,LE _ hd,h1⟩
  rw[if_neg hu] at e;split at e
  ·cases e
  cases e
  refine ⟨λj G hj=>?_,by simp;omega⟩;simp only[List.length_append,List.length_singleton] at hj;by_cases H:j=s.tup.length
  ·exact ⟨((i:Int),v,(s.tup.length:Int)),by simp,by rw[H],by simp only[];omega⟩
  obtain ⟨d,hd,h1⟩:=h j G (by omega);exact ⟨d,LE _ hd,h1⟩
theorem Qbj {aa:List QE}{i:Nat}{t:LI}:∀(vs:LI) (s E:Sy),Par s.tup.length s.ed→i<s.tup.length→Kj aa i t vs s=some E→Par E.tup.length E.ed
 | [],s,E,h,_,e=>by cases e;exact h
 | v::vs,s,E,h,hi,e=>by
  rw[Kj] at e;obtain ⟨G,h1,h2⟩:=L4.1 e;have:=Qju h hi h1;exact Qbj vs G E this.1 this.2 h2
theorem Qd5 {aa:List QE}:∀(f i:Nat) (s E:Sy),Par s.tup.length s.ed→yT aa f i s=some E→Par E.tup.length E.ed
 | 0,i,s,E,h,e=>by cases e;exact h
 | f+1,i,s,E,h,e=>by
  rw[yT] at e;split at e
  ·rename_i hi;obtain ⟨G,h1,h2⟩:=L4.1 e;have ht:(Zw aa i (VU s i) s).tup=s.tup:=by unfold Zw;split <;> rfl
   have H:(Zw aa i (VU s i) s).ed=s.ed:=by unfold Zw;split <;> rfl
   refine Qd5 f (i+1) G E (Qbj _ _ G (by rw[ht,H];exact h) (by rw[ht];exact hi) h1) h2
  cases e;exact h
theorem QgF {aa:List QE}{A:QE}{Q:List (LI)}(h:sync aa=some (A,Q)):Par Q.length A.ed:=by
 unfold sync at h;split at h
 ·cases h;intro j _ hj;simp at hj
 obtain ⟨s,h1,h2⟩:=LZ.1 h;cases h2
 exact Qd5 4096 0 (UG aa) s (λj E hj=>by simp[UG] at hj;omega) h1
def fto (ed:List Ed) (s:Int):Ed:=(ed.find? λe=>e.2.2 == s).getD (0,0,0)
theorem QhX {n:Nat}{ed:List Ed}(hp:Par n ed) (hs:ed.Pairwise λx y=>x.1≤y.1) {j:Nat}(G:0<j) (hj:j<n):fto ed j∈ed∧(fto ed j).2.2=(j:Int)∧(fto ed j).1<(j:Int):=by
 obtain ⟨e,he,h1,h2⟩:=hp j G hj;have E:∃d,ed.find? (λe=>e.2.2 == (j:Int))=some d:=by
  cases E:ed.find? (λe=>e.2.2 == (j:Int)) with
  | none=>rw[List.find?_eq_none] at E;have:=E e he;simp[h1] at this
  | some d=>exact ⟨d,O⟩
 obtain ⟨d,hd⟩:=E;have e1:fto ed j=d:=by unfold fto;rw[hd];rfl
 rw[e1];obtain ⟨H,pre,post,heq,J⟩:=List.find?_eq_some_iff_append.1 hd;have S:d.2.2=(j:Int):=by simpa using H
 refine ⟨by rw[heq];simp,S,?_⟩;rw[heq] at he hs;rcases Lp.1 he with h3 | h3
 ·have:=J e h3;simp[h1] at this
 rcases Li.1 h3 with rfl | h3
 ·exact h2
 have:=(L7.1 (Mu.1 hs).2.1).1 e h3;omega
def bak (ed:List Ed):Nat→Int→LI
 | 0,_=>[]
 | f+1,s=>if 0<s then (fto ed s).2.1::bak ed f (fto ed s).1 else []
def stS (st:List Ed):LI:=st.map (·.1)
def gE (st:List Ed) (k:Nat):Ed:=st.getD k (0,-1,0)
theorem QhV {st:List Ed}{k:Nat}(h:k<st.length):st[k]'h=gE st k:=by simp[gE,List.getD,h]
theorem Qmh {st:List Ed}{k:Nat}(h:k<st.length):gE st k∈st:=by rw[←QhV h];exact Lj h
def KJ (pm:Ed→Bool) (i:Nat) (st:List Ed) (e:Ed):List Ed:=if e.2.2∉stS st∧pm e=true then st++[(e.2.2,(i:Int),e.2.1)] else st
def wrd (st:List Ed):Nat→Nat→LI
 | 0,_=>[]
 | f+1,k=>if 0≤(gE st k).2.1 then (gE st k).2.2::wrd st f (gE st k).2.1.toNat else []
def QfG (wt:Int→Bool) (pm:Ed→Bool) (es:List Ed):Nat→Nat→List Ed→LI×Bool
 | 0,_,_=>([],false)
 | f+1,i,st=>if i<st.length then (if wt (gE st i).1=true then ((wrd st (i+1) i).reverse,true) else QfG wt pm es f (i+1) ((Zv es (gE st i).1).foldl (KJ pm i) st)) else ([],false)
def pth (wt:Int→Bool) (pm:Ed→Bool) (es:List Ed) (n from0:Nat):LI×Bool:=QfG wt pm es (n+1) 0 [((from0:Int),-1,-1)]
structure QdR (n:Nat) (st:List Ed):Prop where
 nd:(stS st).Nodup
 rg:∀x∈st,0≤x.1∧x.1<(n:Int)
 par:∀k,k<st.length→(gE st k).2.1=-1∨(0≤(gE st k).2.1∧(gE st k).2.1<(k:Int))
theorem QdR.le {n:Nat}{st:List Ed}(h:QdR n st):st.length≤n:=by
 have:=pig n (stS st) h.nd (λx hx=>by
  unfold stS at hx;obtain ⟨y,hy,rfl⟩:=Lz.1 hx;exact h.rg y hy)
 simpa[stS] using this
theorem Qko {st:List Ed}{x:Ed}{k:Nat}(h:k<st.length):gE (st++[x]) k=gE st k:=by
 unfold gE;simp[List.getD,List.getElem?_append_left h]
theorem Qkp (st:List Ed) (x:Ed):gE (st++[x]) st.length=x:=by
 unfold gE;simp[List.getD]
theorem QkV {n i:Nat}{pm:Ed→Bool}{st:List Ed}{e:Ed}(h:QdR n st) (hi:i<st.length) (he:0≤e.2.2∧e.2.2<(n:Int)):QdR n (KJ pm i st e)∧i<(KJ pm i st e).length:=by
 unfold KJ;split
 ·rename_i hc;refine ⟨⟨?_,λx hx=>?_,λk hk=>?_⟩,by simp;omega⟩
  ·unfold stS at hc ⊢;rw[LA];exact Jn h.nd hc.1
  ·simp only[List.mem_append,List.mem_singleton] at hx;rcases hx with hx | rfl
   ·exact h.rg x hx
   exact he
  by_cases E:k<st.length
  ·rw[Qko E];exact h.par k E
  have:k=st.length:=by simp at hk;omega
  subst this;rw[Qkp];simp only[];omega
 exact ⟨h,hi⟩
theorem QlM {n from0:Nat}(h:from0<n):QdR n [((from0:Int),-1,-1)]:=by
 refine ⟨by simp[stS],λx hx=>?_,λk hk=>?_⟩
 ·simp at hx;subst hx;simp only[];omega
 simp at hk;subst hk;exact .inl O
theorem QfF {wt:Int→Bool}{pm:Ed→Bool}{es:List Ed}{f i:Nat}{st:List Ed}(h:¬i<st.length):QfG wt pm es f i st=([],false):=by
 cases f with
 | zero=>rfl
 | succ f=>rw[QfG,if_neg h]
abbrev Lf:=List Bool
def lft (l:Lf) (s:Int):Bool:=l.getD s.toNat false
def cut (l:Lf) (s:Int):Lf:=l.set s.toNat false
def Jv (ul:LI) (lf:Lf) (out:List (Int×Int)) (e:Ed):List (Int×Int) :=
 if lft lf e.1=false∨lft lf e.2.2=true∨e.2.1∉ul then out else if out.getLast?.map (·.1)=some e.1 then out else out++[(e.1,e.2.1)]
def lost (a:QE) (ul:LI) (lf:Lf):List (Int×Int):=a.ed.foldl (Jv ul lf) []
def qF (lf:Lf) (x:Int) (z:LI×LI) (y:Int):LI×LI:=if lft lf y=true∧cget z.1 y.toNat<0 then (z.1.set y.toNat (cget z.1 x.toNat+1),z.2++[y]) else z
def dsL (es:List Ed) (lf:Lf):Nat→Nat→LI×LI→LI×LI
 | 0,_,z=>z
 | f+1,i,z=>if i<z.2.length then dsL es lf f (i+1) ((ZB es (cget z.2 i).toNat).foldl (qF lf (cget z.2 i)) z) else z
def ds1 (lf:Lf) (z:LI×LI) (x:Int):LI×LI:=if lft lf x=true then (z.1.set x.toNat 0,z.2++[x]) else z
def ds0 (a:QE) (lf:Lf):LI×LI:=a.mr.foldl (ds1 lf) (List.replicate a.st.toNat (-1),[])
def dsts (a:QE) (lf:Lf):LI:=(dsL a.ed lf a.st.toNat 0 (ds0 a lf)).1
def Kv (lf:Lf):Nat→LI→LI
 | _,[]=>[]
 | i,d::l=>if lf.getD i false=true∧d<0 then (i:Int)::Kv lf (i+1) l else Kv lf (i+1) l
def nxs (a:QE) (ul:LI) (lf:Lf):LI:=if (lost a ul lf).length≠0 then (lost a ul lf).map (·.1) else Kv lf 0 (dsts a lf)
def V3 (a:QE) (ul:LI):Nat→Lf→Lf
 | 0,lf=>lf
 | f+1,lf=>if (nxs a ul lf).length=0 then lf else V3 a ul f ((nxs a ul lf).foldl cut lf)
def lf0 (n:Nat) (fb:LI):Lf:=fb.foldl cut (List.replicate n true)
def XJ (a:QE) (fb ul:LI):Lf:=V3 a ul (a.st.toNat+1) (lf0 a.st.toNat fb)
def rstr (a:QE) (lf:Lf):QE:=⟨a.al,a.st,a.mr,a.ed.filter λe=>lft lf e.2.2⟩
def yW (a:QE) (lf:Lf):QE:=if a.st=0∨lft lf 0=false then ⟨a.al,0,[],[]⟩ else Zt (rstr a lf)
def qB (a:QE) (fb ul:LI):QE:=yW a (XJ a fb ul)
def fbs (s:Spc):LI:=s.fb.map (·.st)
def suE (c:Yz):Int:=XZ c
def Z7 (c:Yz):QE:=qB (spc c).a (fbs (spc c)) (unc c.ev)
def orB (b:Nat) (k:Nat):Nat:=b ||| (1 <<< k)
def rqB (x:Kx):Nat→Nat→List Kx→Nat
 | _,b,[]=>b
 | k,b,y::l=>rqB x (k+1) (if (y.a.al.any λe=>decide (e∈x.a.al))=true then orB b k else b) l
def prB (ls:List (Int×Int)):Nat:=ls.foldl (λb l=>orB b l.1.toNat) 0
def srR (c:Yz):LN:=c.rq.map λx=>rqB x 0 0 c.co
def srX (c:Yz):LN:=c.ex.map λx=>prB x.ls
def srC (c:Yz):LN:=c.cs.map λx=>prB x.ts
structure Mdl where
 kd:Int
 ix:Int
 co:LI
def QjW (k:Int):Nat→LN→List Mdl
 | _,[]=>[]
 | i,b::l=>⟨k,i,setK b 8⟩::QjW k (i+1) l
def mods (c:Yz):List Mdl:=QjW 1 0 (srR c)++(QjW 2 0 (srX c)++QjW 3 0 (srC c))
def sets (c:Yz):LN:=srR c++(srX c++srC c)
def QnZ (c:Yz):Nat:=(sets c).foldl (λl b=>l &&& (65535 ^^^ b)) (2 ^ c.co.length - 1)
def rem (c:Yz):LI:=setK (QnZ c) 8
structure Prt where
 co:LI
 rq:LI
 ex:LI
 cs:LI
def chs (l:List Kx) (ix:LI):List Kx:=ix.map λi=>l.getD i.toNat ⟨.empty,⟨[],0,[],[]⟩⟩
def ixP (co:LI) (ls:List (Int×Int)):List (Int×Int):=ls.map λl=>((co.idxOf l.1:Int),l.2)
def QnW (c:Yz) (p:Prt):List Exc:=p.ex.map λi=>⟨(c.ex.getD i.toNat ⟨.empty,[]⟩).nm,ixP p.co (c.ex.getD i.toNat ⟨.empty,[]⟩).ls⟩
def QnX (c:Yz) (p:Prt):List Kh:=p.cs.map λi=>⟨(c.cs.getD i.toNat ⟨.empty,[],0⟩).nm,ixP p.co (c.cs.getD i.toNat ⟨.empty,[],0⟩).ts,(c.cs.getD i.toNat ⟨.empty,[],0⟩).bd⟩
def QnY (c:Yz) (p:Prt):Yz:=⟨c.ev,chs c.co p.co,chs c.rq p.rq,QnW c p,QnX c p⟩
def prt (m:Mdl):Prt:=⟨m.co,if m.kd=1 then [m.ix] else [],if m.kd=2 then [m.ix] else [],if m.kd≠1∧m.kd≠2 then [m.ix] else []⟩
def mcC (c:Yz) (m:Mdl):Yz:=QnY c (prt m)
def msA (c:Yz) (m:Mdl):QE:=Z7 (mcC c m)
def QnV (c:Yz):List QE:=(mods c).map (msA c)++(rem c).map λi=>(c.co.getD i.toNat ⟨.empty,⟨[],0,[],[]⟩⟩).a
def Qbl (l:List QE):Int:=if VF l≠0 then VF l else match sync l with | none=>3 | some _=>0
def tgA (c:Yz):QE:=yV (QnV c)
abbrev Za (p:Int×Int):LV:=[.int .i64 p.1,.int .i64 p.2]
theorem JR (p:Int×Int):(Za p).length=2:=rfl
abbrev P2s (L:LN) (H:Array Obj) (v:Value) (l:List (Int×Int)):Prop:=Zz L H v l.length 2 (l.flatMap Za)
abbrev ZQ (e:q9):LV:=[.string e.nm,.bool e.co,.bool e.ob,.bool e.fo,.int .i64 e.fl]
theorem QaN (e:q9):(ZQ e).length=5:=rfl
abbrev nmB (s:ByteArray):Prop:=s.size≤9223372036854775807
structure qb (L:LN) (H:Array Obj) (v:Value) (l:List q9):Prop where
 arr:Zz L H v l.length 5 (l.flatMap ZQ)
 nm:∀e∈l,nmB e.nm
theorem qb.ext {L:LN}{w w':World}{v:Value}{l:List q9}(h:qb L w.heap v l) (hs:Step [] w w'):qb L w'.heap v l:=⟨h.arr.ext hs,h.nm⟩
theorem qb.st {L:LN}{w w':World}{v:Value}{l:List q9}(h:qb L w.heap v l) (hs:Step L w w'):qb L w'.heap v l:=⟨h.arr.st hs,h.nm⟩
theorem qb.up {L L':LN}{H:Array Obj}{v:Value}{l:List q9}(h:qb L H v l) (E:∀b∈L',b∈L∨H.size≤b):qb L' H v l:=⟨h.arr.up E,h.nm⟩
structure IV where
 nm:ByteArray
 p:AV
def IV.it (q:IV):Kx:=⟨q.nm,q.p.a⟩
abbrev Z5 (q:IV):LV:=[.string q.nm,q.p.va,.int .i64 q.p.a.st,q.p.vm,q.p.ve]
theorem US (q:IV):(Z5 q).length=5:=rfl
structure U7 (L:LN) (H:Array Obj) (v:Value) (qs:List IV):Prop where
 arr:Zz L H v qs.length 5 (qs.flatMap Z5)
 each:∀q∈qs,Zi L H q.p.va q.p.vm q.p.ve q.p.a
 nm:∀q∈qs,nmB q.nm
structure XV where
 nm:ByteArray
 v:Value
 ls:List (Int×Int)
def XV.x (q:XV):Exc:=⟨q.nm,q.ls⟩
abbrev ZJ (q:XV):LV:=[.string q.nm,q.v]
theorem zc (q:XV):(ZJ q).length=2:=rfl
structure Xcs (L:LN) (H:Array Obj) (v:Value) (qs:List XV):Prop where
 arr:Zz L H v qs.length 2 (qs.flatMap ZJ)
 each:∀q∈qs,P2s L H q.v q.ls
 nm:∀q∈qs,nmB q.nm
structure KV where
 nm:ByteArray
 v:Value
 ts:List (Int×Int)
 bd:Int
def KV.k (q:KV):Kh:=⟨q.nm,q.ts,q.bd⟩
abbrev ZV (q:KV):LV:=[.string q.nm,q.v,.int .i64 q.bd]
theorem zQ (q:KV):(ZV q).length=3:=rfl
structure yP (L:LN) (H:Array Obj) (v:Value) (qs:List KV):Prop where
 arr:Zz L H v qs.length 3 (qs.flatMap ZV)
 each:∀q∈qs,P2s L H q.v q.ts
 nm:∀q∈qs,nmB q.nm
theorem U7.ext {L:LN}{w w':World}{v:Value}{qs:List IV}(h:U7 L w.heap v qs) (hs:Step [] w w'):U7 L w'.heap v qs:=⟨h.arr.ext hs,λq hq=>(h.each q hq).ext hs,h.nm⟩
theorem U7.st {L:LN}{w w':World}{v:Value}{qs:List IV}(h:U7 L w.heap v qs) (hs:Step L w w'):U7 L w'.heap v qs:=⟨h.arr.st hs,λq hq=>(h.each q hq).st hs,h.nm⟩
theorem U7.up {L L':LN}{H:Array Obj}{v:Value}{qs:List IV}(h:U7 L H v qs) (E:∀b∈L',b∈L∨H.size≤b):U7 L' H v qs:=⟨h.arr.up E,λq hq=>(h.each q hq).up E,h.nm⟩
theorem Xcs.ext {L:LN}{w w':World}{v:Value}{qs:List XV}(h:Xcs L w.heap v qs) (hs:Step [] w w'):Xcs L w'.heap v qs:=⟨h.arr.ext hs,λq hq=>(h.each q hq).ext hs,h.nm⟩
theorem Xcs.st {L:LN}{w w':World}{v:Value}{qs:List XV}(h:Xcs L w.heap v qs) (hs:Step L w w'):Xcs L w'.heap v qs:=⟨h.arr.st hs,λq hq=>(h.each q hq).st hs,h.nm⟩
theorem Xcs.up {L L':LN}{H:Array Obj}{v:Value}{qs:List XV}(h:Xcs L H v qs) (E:∀b∈L',b∈L∨H.size≤b):Xcs L' H v qs:=⟨h.arr.up E,λq hq=>(h.each q hq).up E,h.nm⟩
theorem yP.ext {L:LN}{w w':World}{v:Value}{qs:List KV}(h:yP L w.heap v qs) (hs:Step [] w w'):yP L w'.heap v qs:=⟨h.arr.ext hs,λq hq=>(h.each q hq).ext hs,h.nm⟩
theorem yP.st {L:LN}{w w':World}{v:Value}{qs:List KV}(h:yP L w.heap v qs) (hs:Step L w w'):yP L w'.heap v qs:=⟨h.arr.st hs,λq hq=>(h.each q hq).st hs,h.nm⟩
theorem yP.up {L L':LN}{H:Array Obj}{v:Value}{qs:List KV}(h:yP L H v qs) (E:∀b∈L',b∈L∨H.size≤b):yP L' H v qs:=⟨h.arr.up E,λq hq=>(h.each q hq).up E,h.nm⟩
structure CL where
 ve:Value
 vc:Value
 vr:Value
 vx:Value
 vk:Value
 ev:List q9
 co:List IV
 rq:List IV
 ex:List XV
 cs:List KV
def CL.cel (c:CL):Yz:=⟨c.ev,c.co.map (·.it),c.rq.map (·.it),c.ex.map (·.x),c.cs.map (·.k)⟩
abbrev CL.cells (c:CL):LV:=[c.ve,c.vc,c.vr,c.vx,c.vk]
abbrev CL.val (c:CL):Value:=.agg #[c.ve,c.vc,c.vr,c.vx,c.vk]
structure Jz (L:LN) (H:Array Obj) (c:CL):Prop where
 ev:qb L H c.ve c.ev
 co:U7 L H c.vc c.co
 rq:U7 L H c.vr c.rq
 ex:Xcs L H c.vx c.ex
 cs:yP L H c.vk c.cs
theorem Jz.ext {L:LN}{w w':World}{c:CL}(h:Jz L w.heap c) (hs:Step [] w w'):Jz L w'.heap c:=⟨h.ev.ext hs,h.co.ext hs,h.rq.ext hs,h.ex.ext hs,h.cs.ext hs⟩
theorem Jz.st {L:LN}{w w':World}{c:CL}(h:Jz L w.heap c) (hs:Step L w w'):Jz L w'.heap c:=⟨h.ev.st hs,h.co.st hs,h.rq.st hs,h.ex.st hs,h.cs.st hs⟩
theorem Jz.up {L L':LN}{H:Array Obj}{c:CL}(h:Jz L H c) (E:∀b∈L',b∈L∨H.size≤b):Jz L' H c:=⟨h.ev.up E,h.co.up E,h.rq.up E,h.ex.up E,h.cs.up E⟩
theorem Jz.ones {L:LN}{H:Array Obj}{c:CL}(h:Jz L H c):Y0 c.cells:=⟨h.ev.arr.one,h.co.arr.one,h.rq.arr.one,h.ex.arr.one,h.cs.arr.one,La⟩
def Qob (N:Nat) (H:Array Obj) (v:Value) (k:Yz):Prop:=∃c:CL,v=c.val∧c.cel=k∧∀L:LN,(∀b∈L,b<N)→Jz L H c
theorem U8 (s:ByteArray) (Z:nmB s) (w:World):QM prog 162 [.string s] w λr w'=>r=.bool (Y3 s)∧w'=w:=by
 unfold nmB at Z;refine QM.of_W func162 O ntmps162 results162 (by simp) ?_;refine Qd<|Qf<|Qg<|Qd<|Qb<|x (Qda O)<|Qb<|xe<|Qh<|QC (α:=Nat) [(2,5),(8,46)] (λz=>[(8,.int .i64 z)]) (λz w'=>w'=w∧z≤s.size∧(List.range' z (s.size - z)).all (nmQ s)=(List.range' 0 s.size).all (nmQ s)) (λz=>s.size - z) (by rfl) 0 Lb ⟨O,Lm _,by rw[Nat.sub_zero]⟩ ?_;rintro k g Y ⟨rfl,hk,E⟩
 refine Qd<|x (QD O O)<|xe<|Qg<|QI O (λG=>?_) (λG=>?_)
 ·refine Qy ?_;have ha:s.size≤k:=by have hb:¬(k:Int)<(s.size:Int):=G;omega
  rw[X5 ha] at E;have H:Y3 s=decide (0<s.size∧s.size≤32):=by unfold Y3;rw[←E];simp
  rw[H];refine Q0 (α:=Bool) [(2,2),(47,54)] (λz=>[(2,.bool z)]) (λz w'=>w'=Y∧z=decide (0<s.size∧s.size≤32)) (by rfl) ?_ ?_
  ·refine Qx<|Qb<|x (Qda O)<|xb (ZL O O) (λhe=>?_) (λhe=>?_)
   ·refine Qb<|Qb<|x (Qda O)<|x (JH O O)<|x (Qp O)<|Qf ?_;exact ⟨_,Lb,O,by first | exact bT (by omega) | exact bF (by omega) | exact bD (by omega)⟩
   refine Qb<|xs O<|xs O<|xs O<|x (Qp O)<|Qf ?_;exact ⟨_,Lb,O,by first | exact bT (by omega) | exact bF (by omega) | exact bD (by omega)⟩
  rintro z g w2 ⟨rfl,rfl⟩;exact Qs ⟨[_],Lb,O,O⟩
 have J:k<s.size:=by have hb:(k:Int)<(s.size:Int):=G;omega
 rw[Xc J,My] at E;refine Qj<|Qg<|Qh<|Qd<|Qb<|Qf<|Qd<|Qb<|Qb<|x (Qg8 (i:=k) O O J)<|Qf ?_;have hq:nmQ s k=decide (nmP k (chr s k)):=rfl;refine Zs (chr s k) λc hc=>?_;rw[hc] at hq;refine Q0 (α:=Bool) [(5,5),(14,31)] (λz=>[(5,.bool z)]) (λz w'=>w'=Y∧z=decide ((97≤c∧c≤122)∨(65≤c∧c≤90)∨c=95)) (by rfl) ?_ ?_
 ·rw[←hc];refine Qx<|Qb<|xb (Yg O O) (λhf=>?_) (λhf=>?_)
  ·refine Qb<|Qb<|xb (JH O O) (λhg=>?_) (λhg=>?_)
   ·refine x (Qp O)<|Qb<|xs O<|xs O<|xs O<|xs O<|xs O<|xs O<|x (Qp O)<|Qb<|xs O<|xs O<|x (Qp O) <|
     Qf ?_
    exact ⟨_,Lb,O,by first | exact bT (by omega) | exact bF (by omega) | exact bD (by omega)⟩
   refine x (Qp O)<|Qb<|Qb<|xb (Yg O O) (λS=>?_) (λS=>?_)
   ·refine Qb<|Qb<|xb (JH O O) (λU=>?_) (λU=>?_)
    ·refine x (Qp O)<|x (Qp O)<|Qb<|xs O<|xs O<|x (Qp O)<|Qf ?_;exact ⟨_,Lb,O,by first | exact bT (by omega) | exact bF (by omega) | exact bD (by omega)⟩
    refine x (Qp O)<|x (Qp O)<|Qb<|Qb<|x (Zf O O)<|x (Qp O)<|Qf ?_;exact ⟨_,Lb,O,by first | exact bT (by omega) | exact bF (by omega) | exact bD (by omega)⟩
   refine Qb<|xs O<|xs O<|x (Qp O)<|x (Qp O)<|Qb<|Qb<|x (Zf O O)<|x (Qp O)<|x Qe <|
    xe ?_
   exact ⟨_,Lb,O,by first | exact bT (by omega) | exact bF (by omega) | exact bD (by omega)⟩
  refine Qb<|xs O<|xs O<|x (Qp O)<|Qb<|Qb<|xb (Yg O O) (λS=>?_) (λS=>?_)
  ·refine Qb<|Qb<|xb (JH O O) (λU=>?_) (λU=>?_)
   ·refine x (Qp O)<|x (Qp O)<|Qb<|xs O<|xs O<|x (Qp O)<|Qf ?_;exact ⟨_,Lb,O,by first | exact bT (by omega) | exact bF (by omega) | exact bD (by omega)⟩
   refine x (Qp O)<|x (Qp O)<|Qb<|Qb<|x (Zf O O)<|x (Qp O)<|Qf ?_;exact ⟨_,Lb,O,by first | exact bT (by omega) | exact bF (by omega) | exact bD (by omega)⟩
  refine Qb<|xs O<|xs O<|x (Qp O)<|x (Qp O)<|Qb<|Qb<|x (Zf O O)<|x (Qp O)<|x Qe <|
   xe ?_
  exact ⟨_,Lb,O,by first | exact bT (by omega) | exact bF (by omega) | exact bD (by omega)⟩
 rintro z g w4 ⟨rfl,rfl⟩;refine Q0 (α:=Bool) [(32,45)] (λz=>[(45,.bool z)]) (λz w'=>w'=w4∧z=decide (¬nmP k c)) (by rfl) ?_ ?_
 ·unfold nmP;rw[←hc];refine Qx<|Qb<|xb (zu O) (λhh=>?_) (λhh=>?_)
  ·refine Qb<|Qb<|xb (Zf O O) (λhj=>?_) (λhj=>?_)
   ·refine Qb<|xs O<|xs O<|x (Qp O)<|Qb<|xs O<|xs O<|x (Qp O)<|x (Qp O)<|xe ?_;exact ⟨_,Lb,O,by first | exact bT (by omega) | exact bF (by omega) | exact bD (by omega)⟩
   refine Qb<|Qb<|xb (QD O O) (λhl=>?_) (λhl=>?_)
   ·refine x (Qp O)<|Qb<|xs O<|xs O<|x (Qp O)<|x (Qp O)<|xe ?_;exact ⟨_,Lb,O,by first | exact bT (by omega) | exact bF (by omega) | exact bD (by omega)⟩
   refine x (Qp O)<|Qb<|Qb<|x (ZL O O)<|x (Qp O)<|x (Qp O)<|xe ?_;exact ⟨_,Lb,O,by first | exact bT (by omega) | exact bF (by omega) | exact bD (by omega)⟩
  refine Qb<|xs O<|xs O<|xs O<|xs O<|xs O<|xs O<|xs O<|xs O<|xs O<|xs O<|x (Qp O)<|xe ?_;exact ⟨_,Lb,O,by first | exact bT (by omega) | exact bF (by omega) | exact bD (by omega)⟩
 rintro z g w5 ⟨rfl,rfl⟩;refine Zc rfl (λV=>?_) (λV=>?_)
 ·refine Qd<|Qf ?_;have H:Y3 s=false:=by
   unfold Y3;rw[←E,hq,decide_eq_false V];rfl
  exact Qs ⟨[_],Lb,by rw[H];rfl,O⟩
 refine Qj ?_;have hm:nmP k c:=Lt.1 V;refine Qx<|QN O O<|Qb<|xe ?_;rw[hq,decide_eq_true hm,NA] at E;exact ⟨k+1,by omega,Lb,O,J,E⟩
def nmM (l:List ByteArray):List (ByteArray×Value):=l.map λs=>(s,.bool true)
theorem QjQ (l:List ByteArray) (s:ByteArray):mget (nmM l) s=if s∈l then some (.bool true) else none:=by
 induction l with
 | nil=>rfl
 | cons a l ih =>
  show (if a=s then some (Value.bool true) else mget (nmM l) s)=_
  rw[ih];by_cases h:a=s
  ·subst h;simp
  have:s≠a:=λe=>h e.symm;simp[h,this]
theorem Qez {l:List ByteArray}{s:ByteArray}(h:s∉l):mput (nmM l) s (.bool true)=nmM (l++[s]):=by
 induction l with
 | nil=>rfl
 | cons a l ih =>
  have h1:a≠s:=λe=>h (by subst e;exact Lh);show (if a=s then (a,Value.bool true)::nmM l else (a,Value.bool true)::mput (nmM l) s (.bool true))=_
  rw[if_neg h1,ih (λhm=>h (Le _ hm))];rfl
section
variable {P:Program} {f:Fr} {w:World} {d:Option Nat} {ty:Nat} {ps:String} {af:Array Edge} {gd:Option (Nat×Bool)}
theorem QbC {t kt et:Nat}[hm:Mp P t kt et (.bool false)] [hk:Key P kt Jp] {x y:Operand}{b:Nat}{l:List ByteArray}{s:ByteArray}(h:ZE Jp w.heap b (nmM l)) (hx:ev f x=.map (some b)) (hy:ev f y=.string s) :
  (execOp (ev f) ⟨d,.lookup t x y false,ty,ps,af,gd⟩).run P w=.ok (.value (.bool (decide (s∈l)))) w:=by
 rw[Xv h hx hy,QjQ];by_cases hs:s∈l <;> simp[hs]
end
theorem QdE {s:List ByteArray}{l:List q9}{k:Nat}(h:k<l.length):qr s (l.drop k)=if X3 s (l[k]'h)≠0 then X3 s (l[k]'h) else qr (s++[(l[k]'h).nm]) (l.drop (k+1)):=by
 rw[Q9 h];rfl
theorem yo {L:LN}{w:World}{v:Value}{l:List q9}(h:qb L w.heap v l):QM prog 94 [v] w λr w'=>r=.int .i64 (JT l)∧Step [] w w':=by
 have h2:=h.arr.le;refine QM.of_W func94 O ntmps94 results94 (by simp) ?_;refine Qd<|Qf<|Qg<|Qd<|Qb<|x (Qw h.arr O)<|x (ZL O O)<|xe<|Zc rfl (λh8=>?_) (λh8=>?_)
 ·refine Qd<|Qf ?_;exact Qs ⟨[_],Lb,by unfold JT;rw[if_pos (by have h9:(32:Int)<(l.length:Int):=h8;omega)];rfl,Step.refl _ _⟩
 have ho:JT l=qr [] l:=by unfold JT;rw[if_neg (by have h9:¬(32:Int)<(l.length:Int):=h8;omega)]
 rw[ho];refine Qj<|Qd<|xl O<|ZM Jp λb9 w1 hg hp hq=>Qf<|Qg<|Qd<|Qb<|x (Qw (h.arr.ext hg) O)<|Qb<|xe<|Qh<|QC (α:=Nat×List ByteArray) [(2,2),(5,5),(12,50)] (λz=>[(12,.int .i64 z.1)]) (λz w'=>z.1≤l.length∧Step [] w w'∧ZE Jp w'.heap b9 (nmM z.2)∧qr z.2 (l.drop z.1)=qr [] l) (λz=>l.length - z.1) (by rfl) (0,[]) Lb
  ⟨Lm _,hg,hq,O⟩ ?_
 rintro ⟨k,sn⟩ g w2 ⟨hk,H,hh,E⟩;simp only[] at hk hh E;refine Qd<|x (QD O O)<|xe<|Qg<|QI O (λha=>?_) (λha=>?_)
 ·refine Qy ?_;have hr:l.length≤k:=by have hs:¬(k:Int)<(l.length:Int):=ha;omega
  rw[Lr hr] at E;refine Qd<|Qf ?_;exact Qs ⟨[_],Lb,by rw[←E];rfl,H⟩
 have V:k<l.length:=by have hs:(k:Int)<(l.length:Int):=ha;omega
 rw[QdE V] at E;have hj:=h.nm _ (Lj V);refine Qj<|Qg<|Qh<|Qd<|xig QaN (h.arr.ext H) O O V λh3 hl=>?_;refine Zs (l[k]'V) λe he=>?_;rw[he] at hl E hj;refine x (QQ hl O O)<|xl O<|Qu (us:=[.string .empty,.bool false,.bool false,.bool false,.int .i64 0]) O λb5 w3 ht hu G=>xl O<|Qq (us:=ZQ e) G O O O O ⟨O,O,O,O,O,La⟩ λw4 hv G =>
  xe ?_
 have J:Step [] w2 w4:=ht.then1 hv hu;have hm:=hh.ext J;refine Qg<|Qh<|Qd<|x (Qa O)<|x (Qc G O O)<|xl O<|xf<|(U8 e.nm hj _).mono ?_;rintro r5 w5 ⟨rfl,rfl⟩;refine x (Zh O)<|Qf<|Q8 O (λhb=>?_) (λhb=>?_)
 ·have S:Y3 e.nm=false:=by simpa using hb
  have h1:X3 sn e=7:=by unfold X3;rw[if_pos S]
  refine Qd<|Qf ?_;exact Qs ⟨[_],Lb,by rw[←E,h1];rfl,H.trans J⟩
 have S:¬Y3 e.nm=false:=by simpa using hb
 refine Qd<|Qb<|x (Qa O)<|x (Qc G O O)<|x (QbC hm O O)<|Qf<|Zc O (λU=>?_) (λU=>?_)
 ·have h1:X3 sn e=8:=by unfold X3;rw[if_neg S,if_pos U]
  refine Qd<|Qf ?_;exact Qs ⟨[_],Lb,by rw[←E,h1];rfl,H.trans J⟩
 refine Q0 (α:=Bool) [(26,34)] (λz=>[(26,.bool z)]) (λz w'=>w'=w5∧z=decide (e.fl<0∨4<e.fl)) (by rfl) ?_ ?_
 ·refine Qx<|x (Qa O)<|x (Qc G O O)<|xb (QD O O) (λhw=>?_) (λhw=>?_)
  ·refine Qb<|xs O<|xs O<|xs O<|x (Qp O)<|Qf ?_;exact ⟨_,Lb,O,by first | exact bT (by omega) | exact bF (by omega) | exact bD (by omega)⟩
  refine Qb<|x (Qa O)<|x (Qc G O O)<|x (ZL O O)<|x (Qp O)<|Qf ?_;exact ⟨_,Lb,O,by first | exact bT (by omega) | exact bF (by omega) | exact bD (by omega)⟩
 rintro z g w6 ⟨rfl,rfl⟩;refine Zc rfl (λY=>?_) (λY=>?_)
 ·have h1:X3 sn e=2:=by unfold X3;rw[if_neg S,if_neg U,if_pos Y]
  refine Qd<|Qf ?_;exact Qs ⟨[_],Lb,by rw[←E,h1];rfl,H.trans J⟩
 refine Q0 (α:=Bool) [(35,46)] (λz=>[(35,.bool z)]) (λz w'=>w'=w6∧z=decide (e.fl≠0∧(e.co || e.ob)=true)) (by rfl) ?_ ?_
 ·refine Qx<|x (Qa O)<|x (Qc G O O)<|xb (Zj O O) (λZ=>?_) (λZ=>?_)
  ·refine Qb<|x (Qa O)<|xB (Qc G O O) (λhc=>?_) (λhc=>?_)
   ·refine Qb<|xs O<|xs O<|x (Qp O)<|x (Qp O)<|Qf ?_;exact ⟨_,Lb,O,by rw[hc,decide_eq_true ⟨Z,by simp⟩]⟩
   refine Qb<|x (Qa O)<|x (Qc G O O)<|x (Qp O)<|x (Qp O)<|Qf<|⟨_,Lb,O,?_⟩;show e.ob=_;rw[hc];cases e.ob <;> simp[show ¬e.fl=0 from Z]
  refine Qb<|xs O<|xs O<|xs O<|xs O<|xs O<|xs O<|x (Qp O)<|Qf ?_;exact ⟨_,Lb,O,bF (λh1=>Z h1.1)⟩
 rintro z g w7 ⟨rfl,rfl⟩;refine Zc rfl (λhf=>?_) (λhf=>?_)
 ·have h1:X3 sn e=13:=by unfold X3;rw[if_neg S,if_neg U,if_neg Y,if_pos hf]
  refine Qd<|Qf ?_;exact Qs ⟨[_],Lb,by rw[←E,h1];rfl,H.trans J⟩
 have h1:X3 sn e=0:=by unfold X3;rw[if_neg S,if_neg U,if_neg Y,if_neg hf]
 rw[h1,if_neg (λh=>h rfl)] at E;refine Qj<|Qx<|Qb<|x (Qa O)<|x (Qc G O O)<|xl O<|Yx (k:=e.nm) hm O O λw8 hy hz=>xe ?_;refine Qx<|QN O O<|Qb<|xe ?_;have h0:ZE Jp w8.heap b9 (nmM (sn++[e.nm])):=by rw[←Qez U];exact hz
 exact ⟨(k+1,sn++[e.nm]),by simp only[];omega,Lb,V,(H.trans J).then1 hy hp,h0,E⟩
theorem QbY {α:Type}(q:α→Bool) (x:α):∀(l:List α) (i:Nat),ixs q i (l++[x])=ixs q i l++if q x=true then [((i+l.length:Nat):Int)] else []
 | [],i=>by simp[ixs]
 | a::l,i=>by
  have ih:=QbY q x l (i+1);simp only[List.cons_append,ixs,ih,List.length_cons];rw[show i+1+l.length=i+(l.length+1) by omega];split <;> simp
theorem qW {α:Type}(q:α→Bool):∀(l:List α) (i:Nat),(ixs q i l).length≤l.length
 | [],i=>by simp[ixs]
 | a::l,i=>by
  have ih:=qW q l (i+1);unfold ixs;split <;> simp <;> omega
theorem QhL {α:Type}(q:α→Bool) {l:List α}{k:Nat}(h:k<l.length):ixs q 0 (l.take (k+1))=ixs q 0 (l.take k)++if q (l[k]'h)=true then [(k:Int)] else []:=by
 rw[Ll h,QbY];simp[Nat.min_eq_left (Nat.le_of_lt h)]
theorem Qgc {g:Nat}{fn:Func}[Fu prog g fn] {q:q9→Bool}(hq:∀(e:q9) (w:World),QM prog g [.agg (ZQ e).toArray] w λr w'=>r=.bool (q e)∧Step [] w w') {L:LN}{w:World}{v:Value}{l:List q9}(h:qb L w.heap v l) :
  QM prog 114 [v,.func (.func g) #[] #[]] w λr w'=>Step [] w w'∧Qn 3 w.heap.size w' r (ixs q 0 l):=by
 have ht:=h.arr.le;refine QM.of_W func114 O ntmps114 results114 (by simp) ?_;refine Qd<|Qf<|Qd<|Qf<|Qg<|Qd<|Qb<|x (Qw h.arr O)<|Qb<|xe<|Qh<|QC (α:=Nat×Value) [(5,7),(10,22)] (λz=>[(5,z.2),(10,.int .i64 z.1)]) (λz w'=>z.1≤l.length∧Step [] w w'∧Qn 3 w.heap.size w' z.2 (ixs q 0 (l.take z.1))) (λz=>l.length - z.1) (by rfl) (0,nS) ⟨O,O,La⟩
  ⟨Lm _,Step.refl _ _,QR _ _ _ _⟩ ?_
 rintro ⟨k,vo⟩ g w1 ⟨hk,E,J⟩;simp only[] at hk J;refine Qd<|x (QD O O)<|xe<|Qg<|QI O (λU=>?_) (λU=>?_)
 ·refine Qy ?_;have hf:l.length≤k:=by have hg:¬(k:Int)<(l.length:Int):=U;omega
  rw[Lq hf] at J;refine Qd<|Qb<|Qf ?_;exact Qs ⟨[_],Lb,E,J⟩
 have G:k<l.length:=by have hg:(k:Int)<(l.length:Int):=U;omega
 have H:=QhL q G;have hu:=qW q (l.take k) 0;have hv:(l.take k).length=k:=by simp;omega
 refine Qj<|Qg<|Qh<|Qd<|Qb<|xig QaN (h.arr.ext E) O O G λhw hc=>?_;refine Zs (l[k]'G) λe he=>?_;rw[he] at hc H;refine x (QQ hc O O)<|xl O<|Qu (us:=[.string .empty,.bool false,.bool false,.bool false,.int .i64 0]) O λb7 w2 hh hj V=>x Qe <|
  xl rfl<|Qq (us:=ZQ e) V O O O O ⟨O,O,O,O,O,La⟩ λw3 hl V=>xe ?_
 have hm:Step [] w1 w3:=hh.then1 hl hj;refine Qd<|Qb<|x (Qo V O O)<|xl O<|xc (first:=[]) (capt:=[]) O<|(hq e w3).mono ?_;rintro r4 w4 ⟨rfl,hn⟩;have S:=hm.trans hn;have Y:=Qt J S;have hy:=(E.trans S).size;refine xe<|Q8 rfl (λZ=>?_) (λZ=>?_)
 ·rw[if_pos Z] at H;refine Qx<|Qb<|Qb<|xl O<|QL (us:=[[.int .i64 k]]) O O (by decide) (by simp) ⟨rfl,rfl,La⟩ λhz w5 ha h0 ho=>?_;have hp:=Qt Y ha;have h1:=ha.size;refine xl O<|QZ (news:=[.int .i64 k]) (L:=[]) hp O O O (ho.at (by simp)) (by simp[Value.oneCell']) (by omega) (by omega) λv6 w6 hr hs h2 =>
   Qf ?_
  have hge:=Qm Y;refine Qx<|QN O O<|Qb<|xe<|⟨(k+1,v6),by simp only[];omega,⟨O,O,La⟩,G,((E.trans S).trans ha).then hs (λb hb=>.inr (hge b hb).1),?_⟩;simp only[];rw[H];exact Qn.snoc hr
 rw[if_neg (by rw[Z];decide),LU] at H;refine Qj<|Qx<|QN O O<|Qb<|xe ?_;exact ⟨(k+1,vo),by simp only[];omega,⟨O,O,La⟩,G,E.trans S,by simp only[];rw[H];exact Y⟩
theorem QdP (e:q9) (w:World):QM prog 109 [.agg (ZQ e).toArray] w λr w'=>r=.bool (!e.co)∧Step [] w w':=by
 refine QM.of_W func109 O ntmps109 results109 (by simp) ?_;refine Qd<|xl O<|QS (us:=ZQ e) O λb1 H E J G=>Qf<|Qd<|x (Qa O)<|x (Qc G O O)<|x (Zh O)<|Qf ?_;exact Qs ⟨[_],Lb,O,E⟩
theorem Qac {L:LN}{w:World}{v:Value}{l:List q9}(h:qb L w.heap v l):QM prog 44 [v,.int .i64 2] w λr w'=>Step [] w w' ∧
  ∃vo,r=.tuple #[vo,.int .i64 (JT l)]∧Qn 3 w.heap.size w' vo (if JT l=0 then unc l else []):=by
 refine QM.of_W func44 O ntmps44 results44 (by simp) ?_;refine Qd<|x Qe<|Qf<|Qg<|Qd<|Qb<|xl O<|xf<|(yo h).mono ?_;rintro r1 J ⟨rfl,S⟩;refine Qf<|Qd<|Qb<|x (Zj O O)<|xe<|Zc rfl (λG=>?_) (λG=>?_)
 ·refine Qd<|Qb<|x Qe<|Qf ?_;exact Qs ⟨[_,_],⟨O,O,La⟩,S,_,O,by rw[if_neg G];exact QR _ _ _ _⟩
 have U:JT l=0:=Lt.1 G;refine Qj<|Qd<|xl O<|ZM KH λb15 w2 V E Y=>xl O<|Xg (k:=1) Y O O λw3 Z ha=>xl O<|Xg (k:=2) ha O O λw4 hb hc =>
  xl rfl<|Xg (k:=3) hc O O λw5 he hf=>xl O<|Xg (k:=4) hf O O λw6 hg hh=>xl O<|Xg (k:=5) hh O O λw7 hj hk=>xl O<|Xg (k:=6) hk O O λw8 hl hm =>
  Qb<|Qf ?_
 have hq:J.heap.size≤b15:=E;have hn:Step [] J w8:=(((((V.then1 Z E).then1 hb E).then1 he E).then1 hg E).then1 hj E).then1 hl E;refine Qd<|Qb<|Qb<|x (Xu (k:=(2:Int)) hm O O O)<|Qb<|x (Qk O O)<|x (Qk O O)<|x Qe<|Qf<|Qg<|Qd<|Qb<|x (Zh O)<|xe<|ZW rfl ?_;refine Qj ?_;have H:=S.trans hn;refine Qd<|Qb<|Qb<|xl O<|xf<|(Qgc QdP (h.ext H)).mono ?_
 rintro r9 w9 ⟨ho,hp⟩;refine x Qe<|Qf<|Qs ⟨[_,_],⟨O,O,La⟩,H.trans ho,_,by rw[U];rfl,?_⟩;rw[if_pos U];exact QT hp H.size
theorem Qb0 (n:Int) (w:World):QM prog 220 [.int .i64 n] w λr w'=>r=.bool (grt n)∧w'=w:=by
 refine QM.of_W func220 O ntmps220 results220 (by simp) ?_;refine Qd<|Qf<|Q0 (α:=Bool) [(2,8)] (λz=>[(2,.bool z)]) (λz w'=>w'=w∧z=grt n) (by rfl) ?_ ?_
 ·refine Qx<|Qb<|xb (QD O O) (λh4=>?_) (λh4=>?_)
  ·refine Qb<|xs O<|xs O<|x (Qp O)<|Qf ?_;exact ⟨_,Lb,O,by unfold grt;rw[decide_eq_true h4];rfl⟩
  refine Qb<|Qb<|x (ZL O O)<|x (Qp O)<|Qf ?_;exact ⟨_,Lb,O,by unfold grt;rw[decide_eq_false h4];rfl⟩
 rintro z g E ⟨rfl,rfl⟩;exact Qs ⟨[_],Lb,O,O⟩
theorem QdD {sz:LI}{ls:List (Int×Int)}{k:Nat}(h:k<ls.length):Xp sz (pv (ls.map (·.1)) k) (ls.drop k)=if (ls[k]'h).1<0∨(sz.length:Int)≤(ls[k]'h).1 then 2 else if zP (pv (ls.map (·.1)) k) (ls[k]'h).1=true then 5 else if (ls[k]'h).2<0∨cget sz (ls[k]'h).1.toNat≤(ls[k]'h).2 then 2 else Xp sz (pv (ls.map (·.1)) (k+1)) (ls.drop (k+1)):=by
 rw[Q9 h,Kn (by simpa using h),Mv];rfl
theorem Us {w:World}{vs vx vk vl:Value}{sz:LI}{ls:List (Int×Int)}{nm:ByteArray}(hS:QO [] w.heap vs sz) (hl:P2s [] w.heap vl ls) :
  QM prog 170 [.agg #[vs,vx,vk],.agg #[.string nm,vl]] w λr w'=>r=.int .i64 (JN sz ls)∧Step [] w w':=by
 have hH:=hl.le;have hI:=hS.le;refine QM.of_W func170 O ntmps170 results170 (by simp) ?_;refine Qd<|xl O<|QS (us:=[vs,vx,vk]) O λb2 w1 hz hJ Y=>xl O<|QS (us:=[.string nm,vl]) O λb3 w2 hq hK Z=>Qf ?_;have G:=hz.trans hq
 replace Y:=Y.ext hq;refine Qg<|Qd<|x (Qa O)<|x (Qc Z O O)<|x (Qw (hl.ext G) O)<|x (Zf O O)<|xe<|Zc rfl (λha=>?_) (λha=>?_)
 ·refine Qd<|Qf ?_;exact Qs ⟨[_],Lb,by unfold JN;rw[if_pos (by have h0:(ls.length:Int)=0:=ha;omega)];rfl,G⟩
 have h1:ls.length≠0:=by have h0:¬(ls.length:Int)=0:=ha;omega
 have h2:JN sz ls=Xp sz none ls:=by unfold JN;rw[if_neg h1]
 rw[h2];refine Qj<|Qg<|Qd<|x (Qa O)<|x (Qc Z O O)<|x (Qw (hl.ext G) O)<|Qb<|xe<|Qh<|QC (α:=Nat) [(4,6),(14,61)] (λz=>[(14,.int .i64 z)]) (λz w'=>z≤ls.length∧Step [] w2 w'∧Xp sz (pv (ls.map (·.1)) z) (ls.drop z)=Xp sz none ls) (λz=>ls.length - z) (by rfl) 0 Lb
  ⟨Lm _,Step.refl _ _,O⟩ ?_
 rintro k g w3 ⟨hk,S,E⟩;have hb:=G.trans S;have hr:=Y.ext S;have h3:=Z.ext S;have hs:=hl.ext hb;have ht:=hS.ext hb;refine Qd<|x (QD O O)<|xe<|Qg<|QI O (λhf=>?_) (λhf=>?_)
 ·refine Qy ?_;have h4:ls.length≤k:=by have h5:¬(k:Int)<(ls.length:Int):=hf;omega
  rw[Lr h4] at E;refine Qd<|Qf ?_;exact Qs ⟨[_],Lb,by rw[←E];rfl,hb⟩
 have U:k<ls.length:=by have h5:(k:Int)<(ls.length:Int):=hf;omega
 rw[QdD U] at E;refine Qj<|Qg<|Qh<|Qd<|Qb<|xig JR hs O O U λhL hu=>?_;refine Zs (ls[k]'U) λe he=>?_;rw[he] at hu E;refine x (QQ hu O O)<|xl O<|Qu (us:=[.int .i64 0,.int .i64 0]) O λb6 w4 h6 h7 J=>x Qe<|xl O<|Qq (us:=Za e) J O O O O ⟨O,O,La⟩ λw5 h8 J=>xe ?_;have H:Step [] w3 w5:=h6.then1 h8 h7;have hv:=S.trans H
 refine Qh<|Q0 (α:=Bool) [(19,30)] (λz=>[(19,.bool z)]) (λz w'=>w'=w5∧z=decide (e.1<0∨(sz.length:Int)≤e.1)) (by rfl) ?_ ?_
 ·refine Qx<|x (Qa O)<|x (Qc J O O)<|xb (QD O O) (λh9=>?_) (λh9=>?_)
  ·refine Qb<|xs O<|xs O<|xs O<|xs O<|xs O<|xs O<|x (Qp O)<|Qf ?_;exact ⟨_,Lb,O,by first | exact bT (by omega) | exact bF (by omega) | exact bD (by omega)⟩
  refine Qb<|x (Qa O)<|x (Qc J O O)<|x (Qa O)<|x (Qc (hr.ext H) O O)<|x (Qw (ht.ext H) O)<|x (Yg O O) <|
   x (Qp rfl)<|Qf ?_
  exact ⟨_,Lb,O,by first | exact bT (by omega) | exact bF (by omega) | exact bD (by omega)⟩
 rintro z g w6 ⟨rfl,rfl⟩;refine Zc rfl (λhg=>?_) (λhg=>?_)
 ·rw[if_pos hg] at E;refine Qd<|Qf ?_;exact Qs ⟨[_],Lb,by rw[←E];rfl,G.trans hv⟩
 rw[if_neg hg] at E;have hA:e.1=((e.1.toNat:Nat):Int):=by omega
 have hB:e.1.toNat<sz.length:=by omega
 refine Q0 (α:=Bool) [(31,45)] (λz=>[(31,.bool z)]) (λz w'=>Step [] w6 w'∧z=zP (pv (ls.map (·.1)) k) e.1) (by rfl) ?_ ?_
 ·refine QV (Step [] w6) [(0,true),(1,true),(2,true),(3,true),(4,true),(5,true),(6,true),(7,true),(8,true),(9,true),(10,true),(11,true),(12,true),(13,true),(14,true)] mixed (by rfl) (by kernel_rfl) (Step.drew _ _) ?_;refine p (λ_=>Ql)<|pb (λ_=>ZL O O) (λhh=>?_) (λhh=>?_)
  ·have hj:k≠0:=by have hC:(0:Int)<(k:Int):=hh;omega
   have hk1:((k:Int) - 1)=((k - 1:Nat):Int):=by omega
   have hm:k - 1<ls.length:=by omega
   refine p (λ_=>Ql)<|p (λ_=>Qa O)<|pq (λ_ hc=>Qc (J.ext hc) O O)<|p (λ_=>Qa O)<|pq (λ_ hc=>Qc ((h3.ext H).ext hc) O O) <|
    p (λ_=>Ql)<|p (λ_=>JF O O ⟨by omega,by omega⟩)<|Lg.pig (g:=Za) (i:=k - 1) O JR (hs.ext H) O (congrArg (Value.int .i64) hk1) hm λhM hD=>p (λ_=>Zn O) <|
    pq (λ_ hc=>Qv ((hD.fld 0 _ O).ext hc) O)<|p (λ_=>JH O O)<|p (λ_=>Qp O)<|p (λ_=>Qe)<|pe ?_
   refine ⟨_,Lb,Step.drew _ _,?_⟩;have:pv (ls.map (·.1)) k=some (ls[k - 1]'hm).1:=by simp[pv,hj,hm]
   rw[this];rfl
  have hj:k=0:=by have hC:¬(0:Int)<(k:Int):=hh;omega
  refine p (λ_=>Ql)<|ps<|ps<|ps<|ps<|ps<|ps<|ps<|ps<|ps<|ps<|p (λ_=>Qp O)<|p (λ_=>Qe)<|pe ?_;exact ⟨false,Lb,Step.drew _ _,by simp[pv,hj,zP]⟩
 rintro z g w7 ⟨V,rfl⟩;have hw:=hv.trans V;refine Q8 rfl (λhn=>?_) (λhn=>?_)
 ·rw[if_pos hn] at E;refine Qd<|Qf ?_;exact Qs ⟨[_],Lb,by rw[←E];rfl,G.trans hw⟩
 rw[if_neg (by simp[hn])] at E;have ho:=J.ext V;refine Q0 (α:=Bool) [(46,60)] (λz=>[(46,.bool z)]) (λz w'=>Step [] w7 w'∧z=decide (e.2<0∨cget sz e.1.toNat≤e.2)) (by rfl) ?_ ?_
 ·refine QV (Step [] w7) [(0,true),(1,true),(2,true),(3,true),(4,true),(5,true),(6,true),(7,true),(8,true),(9,true),(10,true),(11,true),(12,true),(13,true),(14,true)] mixed (by rfl) (by kernel_rfl) (Step.drew _ _) ?_;refine p (λ_=>Qa O)<|pq (λ_ hc=>Qc (ho.ext hc) O O)<|pb (λ_=>QD O O) (λhE=>?_) (λhE=>?_)
  ·refine p (λ_=>Ql)<|ps<|ps<|ps<|ps<|ps<|ps<|ps<|ps<|ps<|p (λ_=>Qp O)<|p (λ_=>Qe)<|pe ?_;exact ⟨_,Lb,Step.drew _ _,by first | exact bT (by omega) | exact bF (by omega) | exact bD (by omega)⟩
  refine p (λ_=>Ql)<|p (λ_=>Qa O)<|pq (λ_ hc=>Qc (ho.ext hc) O O)<|p (λ_=>Qa O)<|pq (λ_ hc=>Qc (((hr.ext H).ext V).ext hc) O O) <|
   p (λ_=>Qa O)<|pq (λ_ hc=>Qc (ho.ext hc) O O)<|pic (i:=e.1.toNat) O ((ht.ext H).ext V) O (congrArg (Value.int .i64) hA) hB λhN hF=>pq (λ_ hc=>Qv (hF.ext hc) O) <|
   p (λ_=>Yg O O)<|p (λ_=>Qp O)<|p (λ_=>Qe)<|pe ?_
  exact ⟨_,Lb,Step.drew _ _,by first | exact bT (by omega) | exact bF (by omega) | exact bD (by omega)⟩
 rintro z g w8 ⟨hG,rfl⟩;have hy:=hw.trans hG;refine Zc rfl (λhp=>?_) (λhp=>?_)
 ·rw[if_pos hp] at E;refine Qd<|Qf ?_;exact Qs ⟨[_],Lb,by rw[←E];rfl,G.trans hy⟩
 rw[if_neg hp] at E;refine Qj<|Qx<|QN O O<|Qb<|xe ?_;exact ⟨k+1,by omega,Lb,U,hy,E⟩
theorem QdC {sz:LI}{ls:List (Int×Int)}{k:Nat}(h:k<ls.length):JM sz (pv (ls.map (·.1)) k) (ls.drop k)=if (ls[k]'h).1<0∨(sz.length:Int)≤(ls[k]'h).1 then 2 else if zP (pv (ls.map (·.1)) k) (ls[k]'h).1=true then 5 else if (ls[k]'h).2=0∨grt (ls[k]'h).2=true then 2 else JM sz (pv (ls.map (·.1)) (k+1)) (ls.drop (k+1)):=by
 rw[Q9 h,Kn (by simpa using h),Mv];rfl
theorem VO {w:World}{vs vx vk vl:Value}{sz:LI}{ls:List (Int×Int)}{nm:ByteArray}{bd:Int}(hS:QO [] w.heap vs sz) (hl:P2s [] w.heap vl ls) :
  QM prog 172 [.agg #[vs,vx,vk],.agg #[.string nm,vl,.int .i64 bd]] w λr w'=>r=.int .i64 (Xq sz ⟨nm,ls,bd⟩)∧Step [] w w':=by
 have hH:=hl.le;have hI:=hS.le;refine QM.of_W func172 O ntmps172 results172 (by simp) ?_;refine Qd<|xl O<|QS (us:=[vs,vx,vk]) O λb2 w1 h1 hJ Y=>xl O<|QS (us:=[.string nm,vl,.int .i64 bd]) O λb3 w2 hr hK Z=>Qf ?_;have G:=h1.trans hr
 replace Y:=Y.ext hr;refine Qg<|Qd<|x (Qa O)<|x (Qc Z O O)<|x (Qw (hl.ext G) O)<|x (Zf O O)<|xe<|Zc rfl (λha=>?_) (λha=>?_)
 ·refine Qd<|Qf ?_;exact Qs ⟨[_],Lb,by unfold Xq;rw[if_pos (by have h2:(ls.length:Int)=0:=ha;show ls.length=0;omega)];rfl,G⟩
 have h3:ls.length≠0:=by have h2:¬(ls.length:Int)=0:=ha;omega
 have h4:Xq sz ⟨nm,ls,bd⟩=if JM sz none ls≠0 then JM sz none ls else if grt bd=true then 2 else 0:=by unfold Xq;rw[if_neg h3]
 rw[h4];refine Qj<|Qg<|Qd<|x (Qa O)<|x (Qc Z O O)<|x (Qw (hl.ext G) O)<|Qb<|xe<|Qh<|QC (α:=Nat) [(4,6),(14,55)] (λz=>[(14,.int .i64 z)]) (λz w'=>z≤ls.length∧Step [] w2 w'∧JM sz (pv (ls.map (·.1)) z) (ls.drop z)=JM sz none ls) (λz=>ls.length - z) (by rfl) 0 Lb
  ⟨Lm _,Step.refl _ _,O⟩ ?_
 rintro k g w3 ⟨hk,S,E⟩;have U:=G.trans S;have h5:=Y.ext S;have hs:=Z.ext S;have ht:=hl.ext U;have h6:=hS.ext U;refine Qd<|x (QD O O)<|xe<|Qg<|QI O (λhb=>?_) (λhb=>?_)
 ·refine Qy ?_;have h7:ls.length≤k:=by have h8:¬(k:Int)<(ls.length:Int):=hb;omega
  rw[Lr h7] at E;have h9:JM sz none ls=0:=E.symm;rw[h9,if_neg (λh=>h rfl)];refine Qg<|Qd<|x (Qa O)<|x (Qc hs O O)<|xl O<|xf<|(Qb0 bd _).mono ?_;rintro r4 w4 ⟨rfl,rfl⟩;refine xe<|Q8 O (λhf=>?_) (λhf=>?_)
  ·rw[if_pos hf];refine Qd<|Qf ?_;exact Qs ⟨[_],Lb,O,U⟩
  rw[if_neg (by simp[hf])];refine Qj<|Qd<|Qf ?_;exact Qs ⟨[_],Lb,O,U⟩
 have V:k<ls.length:=by have h8:(k:Int)<(ls.length:Int):=hb;omega
 rw[QdC V] at E;refine Qj<|Qg<|Qh<|Qd<|Qb<|xig JR ht O O V λhL hu=>?_;refine Zs (ls[k]'V) λe he=>?_;rw[he] at hu E;refine x (QQ hu O O)<|xl O<|Qu (us:=[.int .i64 0,.int .i64 0]) O λb6 w4 hA hB H=>x Qe<|xl O<|Qq (us:=Za e) H O O O O ⟨O,O,La⟩ λw5 hC H=>xe ?_;have J:Step [] w3 w5:=hA.then1 hC hB;have hv:=S.trans J
 refine Qh<|Q0 (α:=Bool) [(19,30)] (λz=>[(19,.bool z)]) (λz w'=>w'=w5∧z=decide (e.1<0∨(sz.length:Int)≤e.1)) (by rfl) ?_ ?_
 ·refine Qx<|x (Qa O)<|x (Qc H O O)<|xb (QD O O) (λhD=>?_) (λhD=>?_)
  ·refine Qb<|xs O<|xs O<|xs O<|xs O<|xs O<|xs O<|x (Qp O)<|Qf ?_;exact ⟨_,Lb,O,by first | exact bT (by omega) | exact bF (by omega) | exact bD (by omega)⟩
  refine Qb<|x (Qa O)<|x (Qc H O O)<|x (Qa O)<|x (Qc (h5.ext J) O O)<|x (Qw (h6.ext J) O)<|x (Yg O O) <|
   x (Qp rfl)<|Qf ?_
  exact ⟨_,Lb,O,by first | exact bT (by omega) | exact bF (by omega) | exact bD (by omega)⟩
 rintro z g w6 ⟨rfl,rfl⟩;refine Zc rfl (λhh=>?_) (λhh=>?_)
 ·rw[if_pos hh] at E;refine Qd<|Qf ?_;exact Qs ⟨[_],Lb,by rw[←E,if_pos (by decide)];rfl,G.trans hv⟩
 rw[if_neg hh] at E;have hM:e.1=((e.1.toNat:Nat):Int):=by omega
 have hN:e.1.toNat<sz.length:=by omega
 refine Q0 (α:=Bool) [(31,45)] (λz=>[(31,.bool z)]) (λz w'=>Step [] w6 w'∧z=zP (pv (ls.map (·.1)) k) e.1) (by rfl) ?_ ?_
 ·refine QV (Step [] w6) [(0,true),(1,true),(2,true),(3,true),(4,true),(5,true),(6,true),(7,true),(8,true),(9,true),(10,true),(11,true),(12,true),(13,true),(14,true)] mixed (by rfl) (by kernel_rfl) (Step.drew _ _) ?_;refine p (λ_=>Ql)<|pb (λ_=>ZL O O) (λhj=>?_) (λhj=>?_)
  ·have hm:k≠0:=by have hE:(0:Int)<(k:Int):=hj;omega
   have hk1:((k:Int) - 1)=((k - 1:Nat):Int):=by omega
   have hn:k - 1<ls.length:=by omega
   refine p (λ_=>Ql)<|p (λ_=>Qa O)<|pq (λ_ hc=>Qc (H.ext hc) O O)<|p (λ_=>Qa O)<|pq (λ_ hc=>Qc ((hs.ext J).ext hc) O O) <|
    p (λ_=>Ql)<|p (λ_=>JF O O ⟨by omega,by omega⟩)<|Lg.pig (g:=Za) (i:=k - 1) O JR (ht.ext J) O (congrArg (Value.int .i64) hk1) hn λhO hF=>p (λ_=>Zn O) <|
    pq (λ_ hc=>Qv ((hF.fld 0 _ O).ext hc) O)<|p (λ_=>JH O O)<|p (λ_=>Qp O)<|p (λ_=>Qe)<|pe ?_
   refine ⟨_,Lb,Step.drew _ _,?_⟩;have:pv (ls.map (·.1)) k=some (ls[k - 1]'hn).1:=by simp[pv,hm,hn]
   rw[this];rfl
  have hm:k=0:=by have hE:¬(0:Int)<(k:Int):=hj;omega
  refine p (λ_=>Ql)<|ps<|ps<|ps<|ps<|ps<|ps<|ps<|ps<|ps<|ps<|p (λ_=>Qp O)<|p (λ_=>Qe)<|pe ?_;exact ⟨false,Lb,Step.drew _ _,by simp[pv,hm,zP]⟩
 rintro z g w7 ⟨hw,rfl⟩;have hy:=hv.trans hw;refine Q8 rfl (λho=>?_) (λho=>?_)
 ·rw[if_pos ho] at E;refine Qd<|Qf ?_;exact Qs ⟨[_],Lb,by rw[←E,if_pos (by decide)];rfl,G.trans hy⟩
 rw[if_neg (by simp[ho])] at E;have hz:=H.ext hw;refine Q0 (α:=Bool) [(46,54)] (λz=>[(46,.bool z)]) (λz w'=>Step [] w7 w'∧z=decide (e.2=0∨grt e.2=true)) (by rfl) ?_ ?_
 ·refine Qx<|x (Qa O)<|x (Qc hz O O)<|xb (Zf O O) (λhp=>?_) (λhp=>?_)
  ·refine Qb<|xs O<|xs O<|xs O<|x (Qp O)<|Qf ?_;exact ⟨_,Lb,Step.refl _ _,bT (.inl hp)⟩
  refine Qb<|x (Qa O)<|x (Qc hz O O)<|xl O<|xf<|(Qb0 e.2 _).mono ?_;rintro r9 w9 ⟨rfl,rfl⟩;refine x (Qp O)<|Qf<|⟨grt e.2,Lb,Step.refl _ _,?_⟩;cases hg:grt e.2 with
  | true=>exact bT (.inr O)
  | false=>exact bF (λh=>by rcases h with h | h;exact hp h;cases h)
 rintro z g w8 ⟨hG,rfl⟩;have h0:=hy.trans hG;refine Zc rfl (λhq=>?_) (λhq=>?_)
 ·rw[if_pos hq] at E;refine Qd<|Qf ?_;exact Qs ⟨[_],Lb,by rw[←E,if_pos (by decide)];rfl,G.trans h0⟩
 rw[if_neg hq] at E;refine Qj<|Qx<|QN O O<|Qb<|xe ?_;exact ⟨k+1,by omega,Lb,V,h0,E⟩
end Go.Proofs.YtdffckgdcegpaaaGreatDoor
namespace Go.Lg
open Go.RowKit
def QcU:Fr→LN→LV→Fr
 | f,p::ps,v::vs=>QcU (upd f p v) ps vs
 | f,_,_=>f
theorem UJ {n:Nat}{ds:LN}:∀(ps:LN) (vs:LV) (a:Act) (f:Fr),YP n ds a f→(∀p∈ps,p<n) →
  YP n ds { tmps:=(ps.zip vs).foldl (λt (x:Nat×Value)=>t.setIfInBounds x.1 x.2) a.tmps,defers:=a.defers } (QcU f ps vs)
 | [],_,a,f,h,_=>by cases h;exact ⟨by assumption,by assumption,by assumption⟩
 | p::ps,[],a,f,h,_=>by cases h;exact ⟨by assumption,by assumption,by assumption⟩
 | p::ps,v::vs,a,f,h,hp=>by
  have h2:=h.put (dst:=some p) (λd e=>by cases e;exact hp p Lh) v;exact UJ ps vs _ _ h2 (λq hq=>hp q (Le _ hq))
def rdE {α:Type}(B:Nat) (L:LN) (I:List α→World→Prop) (X:Exit→List α→World→Prop) (xs:List α) (W:World):Exit→LN→Fr→World→Prop
 | .normal,_,_,W'=>Jj B L W W'∧I xs W'
 | .ret,_,_,W'=>Jj B L W W'∧X .ret xs W'
 | .exit i,_,_,W'=>Jj B L W W'∧X (.exit i) xs W'
 | _,_,_,_=>False
theorem Qja {α:Type}{m:Nat}{P:Program}{n:Nat}{Q:Exit→LN→Fr→World→Prop}{ds:LN}{f:Fr}{w:World}{g:Operand}{ps:LN}{assign body:Code}(L:LN) (h1:1≤m)
  {gf:Nat} {fn:Func} [hF:Fu P gf fn] {capt:LV} (hg:ev f g=.func (.func gf) #[] capt.toArray) {encs:α→LV} {S Sp:List α→Prop} {N:Nat} (hp:∀p∈ps,p<n) (hc:∀x,(encs x).length=ps.length)
  (he:SeqStopsK (fen none) (m - 1) P gf capt.toArray (λx=>(encs x).toArray) (Lw w.heap.size L) S Sp N w)
  (I:List α→World→Prop) (hI:∀s,Yf w.heap.size (I s)) (X:Exit→List α→World→Prop) (hX:∀e s,Yf w.heap.size (X e s)) (h0:I [] w) (A:Fr→α→Fr→World→Prop) (hA:∀x E,Yf w.heap.size (A f x E))
  (U:∀l pre x W,I pre W→WG (some l) (m - 1 - 1) P n assign (QcX (λJ E W'=>J=[]∧Jj w.heap.size L W W'∧I pre W'∧A f x E W') (λ_ _ _ _=>False)) [] (QcU f ps (encs x)) W)
  (V:∀l pre x E W,I pre W→A f x E W→pre.length<N→WG (some l) (m - 1 - 1) P n body (rdE w.heap.size L I X (pre++[x]) W) [] E W)
  (hf:∀D xs W,w.heap.size≤D→S xs→I xs W→W.heap[D]?=some (.deferred (some []))→Q .normal (D::ds) f W)
  (Y:∀D e pre W,w.heap.size≤D→Sp pre→X e pre W→W.heap[D]?=some (.deferred (some []))→(e=.ret∨∃i,e=.exit i)→Q e (D::ds) f W) :
  WG none m P n (.rangeFunc g ps.toArray assign body) Q ds f w:=by
 unfold WG at U V ⊢;intro a ha;have eg:∀args w,(callFunc gf args).run P w=.ok (.enter gf args) w:=by
  intro args w;have h1:¬fn.name = "runtime.NumGoroutine" := by simpa using hF.nm
  have h2:¬fn.body=none:=by have:=hF.b;intro e;rw[e] at this;cases this
  simp[callFunc,hF.f,h1,h2]
 have keep:∀{W W':World},Jj w.heap.size L W W'→KeepsFrom w.heap.size W W':=λh=>⟨h.lw.size,λk o _ hk Z=>h.other k o hk Z⟩;refine wpIn_rangeFunc_ownH (F:=fen none) O h1 (gf:=gf) (lb:=capt.toArray) (by rw[ha.eval];exact hg) La eg he (λh k=>h.trans k)
  (λW l o o' hl Z _ _=>⟨O,O,O,by simp,λk hk _=>World.putObj_heap_other (by omega)⟩) (Below.refl _ _) (λx=>by simp[hc x]) I
  (λc pre W=>match c with | .ret=>X .ret pre W | .exit i=>X (.exit i) pre W | _=>False) (Yf.own hI) (λc=>Yf.own λs=>?_) h0
  (λx G W=>∃E,YP n [] G E∧A f x E W) (λx G=>Yf.own λ_=>Yf.ex λE=>Yf.and (Yf.pure _) (hA x E)) ?_ ?_ ?_ ?_
 ·cases c <;> first | exact hX _ s | exact Yf.pure _
 ·intro l pre x W K hi hK;have hr:YP n [] { tmps:=(ps.toArray.zip (encs x).toArray).foldl (λt (p,v)=>t.setIfInBounds p v) a.tmps,defers:=[] } (QcU f ps (encs x)):=by
   have h2:YP n [] { a with defers:=[] } f:=⟨ha.size,O,ha.get⟩
   have h3:=UJ ps (encs x) _ _ h2 hp;have e:(ps.toArray.zip (encs x).toArray).foldl (λt (p,v)=>t.setIfInBounds p v) a.tmps=(ps.zip (encs x)).foldl (λt (x:Nat×Value)=>t.setIfInBounds x.1 x.2) a.tmps:=by simp
   rw[e];exact h3
  refine wpIn_mono (U l pre x W hi _ hr) ?_;rintro e G W' ⟨J,E,h2,_,h3⟩;cases e with
  | normal=>obtain ⟨rfl,h4,h5,h6⟩:=h3;exact hK G W' (keep h4) h4.lw h5 ⟨E,h2,h6⟩
  | exit id=>exact h3.elim
  | goto l=>exact h3.elim
  | ret=>exact h3.elim
  | panic ch=>exact h3.elim
  | outgrown=>exact h3.elim
 ·rintro l pre x G W _ _ hi ⟨E,h2,h3⟩ hh;refine wpIn_mono (V l pre x E W hi h3 hh G h2) ?_;rintro e hj W' ⟨J,hm,h4,_,h5⟩;cases e with
  | normal=>exact ⟨keep h5.1,h5.1.lw,h5.2⟩
  | exit id=>exact ⟨keep h5.1,h5.2⟩
  | goto l=>exact h5.elim
  | ret=>exact ⟨keep h5.1,h5.2⟩
  | panic ch=>exact h5.elim
  | outgrown=>exact h5.elim
 ·intro D xs W hD H hi hd;exact ⟨D::ds,f,⟨ha.size,by rw[show coll (D::ds)={ target:=.collected D,args:=#[] }::coll ds from rfl,ha.defers],ha.get⟩,λ_ _=>rfl,hf D xs W hD H hi hd⟩
 intro D c pre W hD H hx hd;have hb:YP n (D::ds) { a with defers:={ target:=.collected D,args:=#[] }::a.defers } f:=⟨ha.size,by rw[show coll (D::ds)={ target:=.collected D,args:=#[] }::coll ds from rfl,ha.defers],ha.get⟩
 cases c with
 | ret=>exact wpIn_ret ⟨_,f,hb,λ_ _=>O,Y D .ret pre W hD H hx hd (.inl O)⟩
 | exit i=>exact wpIn_exit ⟨_,f,hb,λ_ _=>O,Y D (.exit i) pre W hD H hx hd (.inr ⟨i,O⟩)⟩
 | _=>exact hx.elim
end Go.Lg
namespace Go.Proofs.YtdffckgdcegpaaaGreatDoor
open Go.Proofs.Tryz
open Go.Lg
theorem Qh1 {α:Type}(g:α→LV) (sz:Nat) (E:∀x,(g x).length=sz):∀(l:List α) (k:Nat),(l.flatMap g).take (k*sz)=(l.take k).flatMap g
 | [],k=>by simp
 | e::l,0=>by simp
 | e::l,k+1=>by
  simp only[List.flatMap_cons,List.take_succ_cons,Nat.add_mul,Nat.one_mul];rw[MX,NC,E,show sz+k*sz - sz=k*sz by omega,Qh1 g sz E l k,Lq (by rw[E];omega)]
theorem QeA {gf:Nat}{fn:Func}[Fu prog gf fn] {capt:LV}{nms:List ByteArray}{s:ByteArray}(hk:nmB s) {w:World}{N:Nat}
  (hl:∀(w':World) (L:LN),Step [] w w'→(∀b∈L,w.heap.size≤b)→SeqStopsK (fen none) 9 prog gf capt.toArray (λx:{ x:ByteArray // x∈nms }=>[Value.string x.1].toArray) (Lw w'.heap.size L) (λys=>ys.map (·.1)=nms) (λ_=>True) N w') :
  QM prog 169 [.string s,.func (.func gf) #[] capt.toArray] w λr w'=>r=.int .i64 (K4 nms s)∧Step [] w w':=by
 refine QM.of_G 10 func169 O ntmps169 results169 (by simp) ?_;refine Q2<|QJ (by rfl) (by rfl) ?_;refine xl rfl<|QS (us:=[.string s]) O λb2 w1 hf hq hg=>xl O<|Qu (us:=[.int .i64 0]) O λG w2 hh hs hc=>xe ?_;have S:=hf.trans hh;have ht:=hf.size;have hu:=hc.lt;have hj:=hg.ext hh;have hv:=hg.lt;refine Q2<|Q2<|QJ (by rfl) (by rfl) ?_
 refine x (Qc hj O O)<|xl O<|xf<|(U8 s hk _).mono ?_;rintro r3 w3 ⟨rfl,rfl⟩;refine x (Zh O)<|xe<|Vd rfl (λh8=>?_) (λh8=>?_)
 ·have Y:Y3 s=false:=by simpa using h8
  have U:K4 nms s=7:=by unfold K4;rw[if_pos Y]
  refine Q2<|QJ (by rfl) (by rfl) ?_;refine xl O<|QH (j:=0) (u:=.int .i64 7) hc O O (by decide) O λw4 J V=>xe ?_;refine Vc ⟨λ_ h=>(by cases h),MN,[.int .i64 7],λW' H=>⟨⟨⟨_,rfl,Y2 (At.one ((V.ext H).at (L:=[]) (by simp)))⟩,La⟩,by rw[U];rfl,(S.then1 J (by omega)).trans H⟩⟩
 have Y:¬Y3 s=false:=by simpa using h8
 refine Yl<|Q2<|Q2<|QJ (by rfl) (by rfl) ?_;refine Qb<|xe<|ZN<|Qja (α:={ x:ByteArray // x∈nms }) (ps:=[10]) [G] (by omega) (capt:=capt) O (encs:=λx=>[.string x.1]) (by simp) (λ_=>rfl)
  (hl w3 [G] S (λb hb=>by simp at hb;omega))
  (λpre W=>Step [G] w3 W∧QX W.heap b2 9 [.string s]∧QX W.heap G 49 [.int .i64 0]∧∀x∈pre,x.1≠s)
  (λpre=>(Yf.step (Lv _)).and (Yf.blk.and (Yf.blk.and (Yf.pure _))))
  (λe pre W=>e=.ret∧Step [G] w3 W∧QX W.heap G 49 [.int .i64 8]∧s∈nms)
  (λe pre=>(Yf.pure _).and ((Yf.step (Lv _)).and (Yf.blk.and (Yf.pure _))))
  ⟨Step.refl _ _,hj,hc,λx hx=>by cases hx⟩
  (λf x f' W=>f'=upd (QcU f [10] [.string x.1]) 5 (.string x.1)) (λx f'=>Yf.pure _) ?_ ?_ ?_ ?_
 ·rintro l pre x W ⟨h1,h2,h3,h4⟩;refine QJ (by rfl) (by rfl) ?_;refine Lg.Qf ?_;exact ⟨O,Jj.refl _ _ _,⟨h1,h2,h3,h4⟩,O⟩
 ·rintro l pre x f' W ⟨h1,h2,h3,h4⟩ rfl _;refine ZN<|Q2<|QJ (by rfl) (by rfl) ?_;refine Lg.Qb<|Lg.x (Qc h2 O O)<|Lg.x (Qau O O)<|xe<|QmO O (λhe=>?_) (λhe=>?_)
  ·refine Q2<|QJ (by rfl) (by rfl) ?_;refine xl O<|QH (j:=0) (u:=.int .i64 8) h3 O O (by decide) O λw4 J V=>xe ?_;refine Vc ?_;exact ⟨Jj.blk J h1.size h3 (.inl (by simp)),rfl,h1.trans' J,V,by rw[←he];exact x.2⟩
  refine Yl<|⟨Jj.refl _ _ _,h1,h2,h3,λy hy=>?_⟩;rcases Lp.1 hy with hy | hy
  ·exact h4 y hy
  simp only[List.mem_singleton] at hy;subst hy;exact he
 ·rintro D xs W hD ho ⟨h1,h2,h3,h4⟩ Z;have U:K4 nms s=0:=by
   unfold K4;rw[if_neg Y,if_neg];intro hm;rw[←ho] at hm;obtain ⟨y,hy,e⟩:=Lz.1 hm;exact h4 y hy e
  refine Q2<|QJ (by rfl) (by rfl) ?_;refine xl O<|QH (j:=0) (u:=.int .i64 0) h3 O O (by decide) O λw4 J V=>xe ?_;have ha:D≠G:=by omega
  have hp:w4.heap[D]?=some (.deferred (some [])):=by rw[J.block D (LG.1 Z).1 (by simpa using ha)];exact Z
  refine Vc ⟨λE hE=>by simp only[List.mem_singleton] at hE;subst hE;exact hp,by simp,[.int .i64 0],λW' H=>?_⟩;refine ⟨⟨⟨_,O,Y2 (At.one ((V.step H (by simpa using ha.symm)).at (L:=[]) (by simp)))⟩,La⟩,by rw[U];rfl,?_⟩;exact ((S.then h1 (λb hb=>.inr (by simp at hb;omega))).then1 J (by omega)).then H (λb hb=>.inr (by simp at hb;have:=S.size;omega))
 rintro D e pre W hD _ ⟨rfl,h1,h3,h4⟩ Z _;have U:K4 nms s=8:=by unfold K4;rw[if_neg Y,if_pos h4]
 have ha:D≠G:=by omega
 refine ⟨λE hE=>by simp only[List.mem_singleton] at hE;subst hE;exact Z,by simp,[.int .i64 8],λW' H=>?_⟩;refine ⟨⟨⟨_,O,Y2 (At.one ((h3.step H (by simpa using ha.symm)).at (L:=[]) (by simp)))⟩,La⟩,by rw[U];rfl,?_⟩;exact (S.then h1 (λb hb=>.inr (by simp at hb;omega))).then H (λb hb=>.inr (by simp at hb;have:=S.size;omega))
end Go.Proofs.YtdffckgdcegpaaaGreatDoor
namespace Go.Lg
theorem Jy.pre3 {P:Program}{m:Nat}{ops:List Oper}{K:Fr→World→Prop}{o1 o2 o3:Oper}{l2:List Oper}{f:Fr}{w:World}(h:XL P ops (λf w=>Jy P m ops K l2 f w) [o1,o2,o3] f w):Jy P m ops K (o1::o2::o3::l2) f w:=Jy.pre [o1,o2,o3] f w h
end Go.Lg
namespace Go.Proofs.YtdffckgdcegpaaaGreatDoor
open Go.Proofs.Tryz
open Go.Lg
theorem Qic {L:LN}{w:World}{b1 b2 i m:Nat}{vs vx vk:Value}{qs:List XV}{nms:List ByteArray}(hm:QX w.heap b1 151 [vs,vx,vk]) (ho:QX w.heap b2 3 [.int .i64 i]) (hX:Xcs L w.heap vx qs) (hi:i≤qs.length) (hn:nms=(qs.take i).map (·.nm)) :
  SeqStopsK (fen none) m prog 168 [.pointer (some ⟨b1,0,none⟩),.pointer (some ⟨b2,0,none⟩)].toArray (λx:{ x:ByteArray // x∈nms }=>[Value.string x.1].toArray) (Lw w.heap.size L)
   (λE=>E.map (·.1)=nms) (λ_=>True) (nms.length+1) w:=by
 intro l J Jx W hp hJ hr hY h0;have ha:Step [] w W:=Step.of_below hp;have ab:∀{E:List { x:ByteArray // x∈nms }} {W1 W2:World},J E W1→Step [] W1 W2→J E W2:=λ{E W1 W2} hj H=>hJ E W1 W2 none hj ⟨H.os,H.tape,H.output,H.size,λk hk _=>H.block k hk (by simp)⟩ (λr e=>by cases e);have h7:=hX.arr.le;have h8:nms.length=i:=by rw[hn];simp;omega
 have key:QM prog 168 [.func (.yield l) #[] #[],.pointer (some ⟨b1,0,none⟩),.pointer (some ⟨b2,0,none⟩)] W (λ_ W'=>(∃E,E.map (·.1)=nms∧J E W')∨(∃pre,True∧Jx pre W')):=by
  refine QM.of_G m func168 O ntmps168 results168 (by simp) ?_;have hs:=hm.ext ha;have ht:=ho.ext ha;refine Q2<|QJ (by rfl) (by rfl) ?_;refine x (Qa O)<|x (Qc hs O O)<|x (Qc ht O O)<|Qm3 hX.arr O O hi λv9 hg=>x (Qw hg O)<|Qb<|xe ?_;have hu:(qs.take i).length=i:=by simp;omega
  have hS:Zz L w.heap v9 (qs.take i).length 2 ((qs.take i).flatMap ZJ):=by
   rw[hu,←Qh1 ZJ 2 zc];exact hg
  refine ZN<|VS (α:=Nat×List { x:ByteArray // x∈nms }) [(5,5),(11,20)] (λz=>[(11,.int .i64 z.1)]) (λz ds W'=>ds=[]∧z.1≤i∧Step L w W'∧z.2.map (·.1)=nms.take z.1∧J z.2 W') (λz=>i - z.1) (by rfl) (0,[]) Lb
   ⟨O,Lm _,ha.any,O,h0⟩ ?_
  rintro ⟨k,E⟩ g ds w1 ⟨rfl,hk,hh,S,hb⟩;simp only[] at hk S hb;refine Q2<|QJ (by rfl) (by rfl) ?_;refine x (QD O O)<|xe<|Q2<|yL O (λhc=>?_) (λhc=>?_)
  ·refine Ky ?_;have h9:i≤k:=by have V:¬(k:Int)<(i:Int):=hc;omega
   rw[Lq (by omega)] at S;exact ⟨λ_ h=>(by cases h),MN,[],λW' G=>⟨La,.inl ⟨E,S,ab hb G⟩⟩⟩
  refine Yl ?_;have hv:k<i:=by have V:(k:Int)<(i:Int):=hc;omega
  have Y:k<(qs.take i).length:=by omega
  have Z:k<nms.length:=by omega
  have hf:nms.take (k+1)=nms.take k++[nms[k]'Z]:=Ll Z;have hA:E.length=k:=by have:=congrArg List.length S;rw[Lo,LF] at this;omega
  have hw:nms[k]'Z=((qs.take i)[k]'Y).nm:=by subst hn;simp
  have U:=Lj Z;rw[hw] at hf U;refine Q2<|ZN<|Q2<|QJ (by rfl) (by rfl) ?_;refine xig zc (i:=k) (hS.st hh) O O Y λhB V=>?_;refine Zs ((qs.take i)[k]'Y) λq hq=>?_;rw[hq] at V hf U;have hy:=(hX.each q (Mh (by rw[←hq];exact Lj Y))).one
  refine x (QQ V O O)<|xl O<|Qu (us:=[.string .empty,nS]) O λb5 w2 hz h2 h3=>xl O<|Qq (us:=ZJ q) h3 O O O O ⟨O,hy,La⟩ λw3 h4 h5=>xe ?_;have hl:Step [] w1 w3:=hz.then1 h4 h2;refine Q2<|Vu (by rfl) ?_;refine Jy.pre3 ?_;refine Qb<|x (Qa O)<|x (Qc h5 O O)<|xe ?_
  refine xy (l:=l) O (hY E ⟨q.nm,U⟩ w3 (ab hb hl) (by omega)) λen W3 h6=>Or.elim h6 (λh1=>⟨.bool true,h1.1,?_⟩) (λh1=>⟨.bool false,h1.1,?_⟩)
  ·refine Jy.of_XL<|x (Zh O)<|xe<|Vv O<|Yl ?_;refine QJ (by rfl) (by rfl) ?_;refine QN O O<|Qb<|xe ?_;exact ⟨(k+1,E++[⟨q.nm,U⟩]),by simp only[];omega,Lb,O,hv,(hh.trans hl).lw h1.2.2,by rw[hf,LA,S];rfl,h1.2.1⟩
  refine Jy.of_XL<|x (Zh O)<|xe<|Qa2 O ?_;refine Vc ⟨λ_ h=>(by cases h),MN,[],λW' G=>⟨La,.inr ⟨E++[⟨q.nm,U⟩],La,?_⟩⟩⟩;exact hr _ W3 W' none h1.2 ⟨G.os,G.tape,G.output,G.size,λk hk _=>G.block k hk (by simp)⟩ (λr e=>by cases e)
 refine (callsIn_wide (n:=m)).2 ?_;have ea:(#[.func (.yield l) #[] #[]]++[.pointer (some ⟨b1,0,none⟩),.pointer (some ⟨b2,0,none⟩)].toArray:Array Value)=[.func (.yield l) #[] #[],.pointer (some ⟨b1,0,none⟩),.pointer (some ⟨b2,0,none⟩)].toArray:=by simp
 rw[ea];unfold QM at key;refine Calls.mono key λe w' he=>?_;cases e with
 | returned v=>exact ⟨⟨v,O⟩,he⟩
 | panicked c=>exact he.elim
 | outgrown=>exact he.elim
theorem Qit {L:LN}{w:World}{b1 b2 i m:Nat}{vs vx vk:Value}{qs:List KV}{nms:List ByteArray}(hm:QX w.heap b1 151 [vs,vx,vk]) (ho:QX w.heap b2 3 [.int .i64 i]) (hX:yP L w.heap vk qs) (hi:i≤qs.length) (hn:nms=(qs.take i).map (·.nm)) :
  SeqStopsK (fen none) m prog 171 [.pointer (some ⟨b1,0,none⟩),.pointer (some ⟨b2,0,none⟩)].toArray (λx:{ x:ByteArray // x∈nms }=>[Value.string x.1].toArray) (Lw w.heap.size L)
   (λE=>E.map (·.1)=nms) (λ_=>True) (nms.length+1) w:=by
 intro l J Jx W hp hJ hr hY h0;have ha:Step [] w W:=Step.of_below hp;have ab:∀{E:List { x:ByteArray // x∈nms }} {W1 W2:World},J E W1→Step [] W1 W2→J E W2:=λ{E W1 W2} hj H=>hJ E W1 W2 none hj ⟨H.os,H.tape,H.output,H.size,λk hk _=>H.block k hk (by simp)⟩ (λr e=>by cases e);have h7:=hX.arr.le;have h8:nms.length=i:=by rw[hn];simp;omega
 have key:QM prog 171 [.func (.yield l) #[] #[],.pointer (some ⟨b1,0,none⟩),.pointer (some ⟨b2,0,none⟩)] W (λ_ W'=>(∃E,E.map (·.1)=nms∧J E W')∨(∃pre,True∧Jx pre W')):=by
  refine QM.of_G m func171 O ntmps171 results171 (by simp) ?_;have hs:=hm.ext ha;have ht:=ho.ext ha;refine Q2<|QJ (by rfl) (by rfl) ?_;refine x (Qa O)<|x (Qc hs O O)<|x (Qc ht O O)<|Qm3 hX.arr O O hi λv9 hg=>x (Qw hg O)<|Qb<|xe ?_;have hu:(qs.take i).length=i:=by simp;omega
  have hS:Zz L w.heap v9 (qs.take i).length 3 ((qs.take i).flatMap ZV):=by
   rw[hu,←Qh1 ZV 3 zQ];exact hg
  refine ZN<|VS (α:=Nat×List { x:ByteArray // x∈nms }) [(5,5),(11,20)] (λz=>[(11,.int .i64 z.1)]) (λz ds W'=>ds=[]∧z.1≤i∧Step L w W'∧z.2.map (·.1)=nms.take z.1∧J z.2 W') (λz=>i - z.1) (by rfl) (0,[]) Lb
   ⟨O,Lm _,ha.any,O,h0⟩ ?_
  rintro ⟨k,E⟩ g ds w1 ⟨rfl,hk,hh,S,hb⟩;simp only[] at hk S hb;refine Q2<|QJ (by rfl) (by rfl) ?_;refine x (QD O O)<|xe<|Q2<|yL O (λhc=>?_) (λhc=>?_)
  ·refine Ky ?_;have h9:i≤k:=by have V:¬(k:Int)<(i:Int):=hc;omega
   rw[Lq (by omega)] at S;exact ⟨λ_ h=>(by cases h),MN,[],λW' G=>⟨La,.inl ⟨E,S,ab hb G⟩⟩⟩
  refine Yl ?_;have hv:k<i:=by have V:(k:Int)<(i:Int):=hc;omega
  have Y:k<(qs.take i).length:=by omega
  have Z:k<nms.length:=by omega
  have hf:nms.take (k+1)=nms.take k++[nms[k]'Z]:=Ll Z;have hA:E.length=k:=by have:=congrArg List.length S;rw[Lo,LF] at this;omega
  have hw:nms[k]'Z=((qs.take i)[k]'Y).nm:=by subst hn;simp
  have U:=Lj Z;rw[hw] at hf U;refine Q2<|ZN<|Q2<|QJ (by rfl) (by rfl) ?_;refine xig zQ (i:=k) (hS.st hh) O O Y λhB V=>?_;refine Zs ((qs.take i)[k]'Y) λq hq=>?_;rw[hq] at V hf U;have hy:=(hX.each q (Mh (by rw[←hq];exact Lj Y))).one
  refine x (QQ V O O)<|xl O<|Qu (us:=[.string .empty,nS,.int .i64 0]) O λb5 w2 hz h2 h3=>xl O<|Qq (us:=ZV q) h3 O O O O ⟨O,hy,O,La⟩ λw3 h4 h5=>xe ?_;have hl:Step [] w1 w3:=hz.then1 h4 h2;refine Q2<|Vu (by rfl) ?_;refine Jy.pre3 ?_;refine Qb<|x (Qa O)<|x (Qc h5 O O)<|xe ?_
  refine xy (l:=l) O (hY E ⟨q.nm,U⟩ w3 (ab hb hl) (by omega)) λen W3 h6=>Or.elim h6 (λh1=>⟨.bool true,h1.1,?_⟩) (λh1=>⟨.bool false,h1.1,?_⟩)
  ·refine Jy.of_XL<|x (Zh O)<|xe<|Vv O<|Yl ?_;refine QJ (by rfl) (by rfl) ?_;refine QN O O<|Qb<|xe ?_;exact ⟨(k+1,E++[⟨q.nm,U⟩]),by simp only[];omega,Lb,O,hv,(hh.trans hl).lw h1.2.2,by rw[hf,LA,S];rfl,h1.2.1⟩
  refine Jy.of_XL<|x (Zh O)<|xe<|Qa2 O ?_;refine Vc ⟨λ_ h=>(by cases h),MN,[],λW' G=>⟨La,.inr ⟨E++[⟨q.nm,U⟩],La,?_⟩⟩⟩;exact hr _ W3 W' none h1.2 ⟨G.os,G.tape,G.output,G.size,λk hk _=>G.block k hk (by simp)⟩ (λr e=>by cases e)
 refine (callsIn_wide (n:=m)).2 ?_;have ea:(#[.func (.yield l) #[] #[]]++[.pointer (some ⟨b1,0,none⟩),.pointer (some ⟨b2,0,none⟩)].toArray:Array Value)=[.func (.yield l) #[] #[],.pointer (some ⟨b1,0,none⟩),.pointer (some ⟨b2,0,none⟩)].toArray:=by simp
 rw[ea];unfold QM at key;refine Calls.mono key λe w' he=>?_;cases e with
 | returned v=>exact ⟨⟨v,O⟩,he⟩
 | panicked c=>exact he.elim
 | outgrown=>exact he.elim
set_option maxHeartbeats 4000000 in
theorem yl {w:World}{vs vx vk:Value}{sz:LI}{qx:List XV}{ks:List KV}(hS:QO [] w.heap vs sz) (hX:Xcs [] w.heap vx qx) (hK:yP [] w.heap vk ks) :
  QM prog 97 [.agg #[vs,vx,vk]] w λr w'=>r=.int .i64 (YT sz (qx.map (·.x)) (ks.map (·.k)))∧Step [] w w':=by
 have hZ:=hS.le;have ga:=hX.arr.le;have gc:=hK.arr.le;refine QM.of_W func97 O ntmps97 results97 (by simp) ?_;refine Qd<|xl O<|QS (us:=[vs,vx,vk]) O λb1 w1 G ge Y=>Qf<|Qg<|Qd<|x (Qa O)<|x (Qc Y O O)<|x (Qw (hS.ext G) O)<|x (ZL O O)<|xe<|Zc rfl (λh2=>?_) (λh2=>?_)
 ·refine Qd<|Qf ?_;exact Qs ⟨[_],Lb,by unfold YT;rw[if_pos (by have hQ:(8:Int)<(sz.length:Int):=h2;omega)];rfl,G⟩
 have h0:¬8<sz.length:=by have hQ:¬(8:Int)<(sz.length:Int):=h2;omega
 refine Qj<|Qg<|Qd<|x (Qa O)<|x (Qc Y O O)<|x (Qw (hS.ext G) O)<|Qb<|xe<|Qh<|QC (α:=Nat) [(2,2),(4,4),(22,32)] (λz=>[(22,.int .i64 z)]) (λz w'=>z≤sz.length∧w'=w1∧(sz.drop z).any KC=sz.any KC) (λz=>sz.length - z) (by rfl) 0 Lb
  ⟨Lm _,O,O⟩ ?_
 rintro k g w2 ⟨hk,rfl,hc⟩;refine Qd<|x (QD O O)<|xe<|Qg<|QI O (λh3=>?_) (λh3=>?_)
 ·refine Qy ?_;have hm:sz.length≤k:=by have h1:¬(k:Int)<(sz.length:Int):=h3;omega
  rw[Lr hm] at hc;have h4:¬sz.any KC=true:=by rw[←hc];decide
  refine Qg<|Q0 (α:=Bool) [(33,42)] (λz=>[(42,.bool z)]) (λz w'=>w'=w2∧z=decide (32<qx.length∨32<ks.length)) (by rfl) ?_ ?_
  ·refine Qx<|x (Qa O)<|x (Qc Y O O)<|x (Qw (hX.ext G).arr O)<|xb (ZL O O) (λhR=>?_) (λhR=>?_)
   ·refine Qb<|xs O<|xs O<|xs O<|xs O<|x (Qp O)<|xe ?_;exact ⟨_,Lb,O,by first | exact bT (by omega) | exact bF (by omega) | exact bD (by omega)⟩
   refine Qb<|x (Qa O)<|x (Qc Y O O)<|x (Qw (hK.ext G).arr O)<|x (ZL O O)<|x (Qp O)<|xe ?_;exact ⟨_,Lb,O,by first | exact bT (by omega) | exact bF (by omega) | exact bD (by omega)⟩
  rintro z g Z ⟨rfl,rfl⟩;refine Zc O (λh5=>?_) (λh5=>?_)
  ·refine Qd<|Qf ?_;exact Qs ⟨[_],Lb,by unfold YT;rw[if_neg h0,if_neg h4,if_pos (by simpa using h5)];rfl,G⟩
  have hN:¬(32<(qx.map (·.x)).length∨32<(ks.map (·.k)).length):=by simpa using h5
  have hO:Yt sz [] (qx.map (·.x))≠0→YT sz (qx.map (·.x)) (ks.map (·.k))=Yt sz [] (qx.map (·.x)):=λh=>by
   unfold YT;rw[if_neg h0,if_neg h4,if_neg hN,if_pos h]
  have hT:Yt sz [] (qx.map (·.x))=0→YT sz (qx.map (·.x)) (ks.map (·.k))=Y5 sz [] (ks.map (·.k)):=λh=>by
   unfold YT;rw[if_neg h0,if_neg h4,if_neg hN,if_neg (by rw[h];exact λh=>h O)]
  refine Qj<|Qg<|Qd<|x (Qa O)<|x (Qc (Y.ext (Step.refl [] Z)) O O)<|x (Qw ((hX.ext G).ext (Step.refl [] Z)).arr O)<|Qb<|xe<|Qh<|QC (α:=Nat) [(2,2),(5,9),(46,65)] (λz=>[(46,.int .i64 z)]) (λz w'=>z≤qx.length∧Step [] Z w'∧Yt sz ((qx.take z).map (·.nm)) ((qx.drop z).map (·.x))=Yt sz [] (qx.map (·.x))) (λz=>qx.length - z) (by rfl) 0 Lb
   ⟨Lm _,(Step.refl [] Z),O⟩ ?_
  rintro k g wA ⟨hk,H,J⟩;refine Qd<|x (QD O O)<|xe<|Qg<|QI O (λhe=>?_) (λhe=>?_)
  ·refine Qy ?_;have hm:qx.length≤k:=by have h6:¬(k:Int)<(qx.length:Int):=he;omega
   rw[Lr hm] at J;have hU:Yt sz [] (qx.map (·.x))=0:=J.symm;have h7:=hT hU;refine Qg<|Qd<|x (Qa O)<|x (Qc (Y.ext H) O O)<|x (Qw ((hK.ext G).ext H).arr O)<|Qb<|xe ?_
   refine Qh<|QC (α:=Nat) [(2,2),(10,14),(69,88)] (λz=>[(69,.int .i64 z)]) (λz w'=>z≤ks.length∧Step [] Z w'∧Y5 sz ((ks.take z).map (·.nm)) ((ks.drop z).map (·.k))=Y5 sz [] (ks.map (·.k))) (λz=>ks.length - z) (by rfl) 0 Lb
    ⟨Lm _,H,O⟩ ?_
   rintro k g wA ⟨hk,H,J⟩;refine Qd<|x (QD O O)<|xe<|Qg<|QI O (λhe=>?_) (λhe=>?_)
   ·refine Qy ?_;have hm:ks.length≤k:=by have h6:¬(k:Int)<(ks.length:Int):=he;omega
    rw[Lr hm] at J;have hV:Y5 sz [] (ks.map (·.k))=0:=J.symm;refine Qd<|Qf ?_;exact Qs ⟨[_],Lb,by rw[h7,hV];rfl,G.trans H⟩
   have E:k<ks.length:=by have h6:(k:Int)<(ks.length:Int):=he;omega
   have ho:(ks.take (k+1)).map (·.nm)=(ks.take k).map (·.nm)++[(ks[k]'E).nm]:=by rw[Ll E,LA];rfl
   rw[Q9 E,L8] at J;have hf:=Lj E;have S:=(hK.ext G).ext H;have h8:=Y.ext H;refine Qj<|Qg<|Qh<|Qd<|Qb<|xig zQ S.arr O O E λaA hA=>?_;refine Zs (ks[k]'E) λq hq=>?_;rw[hq] at hA J ho hf;have hp:=S.each q hf
   refine x (QQ hA O O)<|xl O<|Qu (us:=[.int .i64 0]) O λb5 Z hr h9 hg=>xl O<|Qu (us:=[.string .empty,nS,.int .i64 0]) O λb6 w4 hs hW hB =>
    xl rfl<|QH (j:=0) (u:=.int .i64 k) (hg.ext hs) O O (by decide) O λw5 ht hC=>xl O<|Qq (us:=ZV q) (hB.step ht (by have:=hg.lt;simp;omega)) O O O O ⟨O,hp.one,O,La⟩ λw6 hu hv=>xe ?_
   have hY:b5<b6:=by have:=hg.lt;omega
   have hh:Step [] wA w6:=((hr.trans hs).then1 ht h9).then1 hu (by have:=hr.size;omega);have hD:QX w6.heap b5 3 [.int .i64 k]:=hC.step hu (by simp;omega);have hw:=h8.ext hh;have hE:=S.ext hh
   refine Qd<|x ZF<|Qf<|Qg<|Qd<|x (Qa O)<|x (Qc hv O O)<|Qb<|xl O<|xf<|(QeA (nms:=(ks.take k).map (·.nm)) (capt:=[.pointer (some ⟨b1,0,none⟩),.pointer (some ⟨b5,0,none⟩)]) (S.nm q hf) (λw' L hj hL=>Qit (hw.ext hj) (hD.ext hj) ((hE.up (λb hb=>.inr (hL b hb))).ext hj) hk O)).mono ?_;rintro r7 w7 ⟨rfl,hl⟩;refine Qf ?_;have U:=hh.trans hl;refine Qd<|Qb<|x (Zj O O)<|xe ?_
   refine Zc O (λha=>?_) (λha=>?_)
   ·have e1:Y5 sz [] (ks.map (·.k))=K4 ((ks.take k).map (·.nm)) q.nm:=by rw[←J];exact if_pos ha
    refine Qd<|Qb<|Qf ?_;exact Qs ⟨[_],Lb,by rw[h7,e1];rfl,G.trans (H.trans U)⟩
   have hy:(if Xq sz q.k≠0 then Xq sz q.k else Y5 sz ((ks.take k).map (·.nm)++[q.nm]) ((ks.drop (k+1)).map (·.k)))=Y5 sz [] (ks.map (·.k)):=by rw[←J];exact (if_neg ha).symm
   refine Qj ?_;have hF:=hw.ext hl;have hG:=hv.ext hl;refine Qd<|x (Qo hF O O)<|x (Qo hG O O)<|xl O<|xf<|(VO (((hS.ext G).ext H).ext U) (hp.ext U)).mono ?_;rintro r8 w8 ⟨rfl,hH⟩;refine Qf ?_;have hz:=U.trans hH;refine Qd<|Qb<|x (Zj O O)<|xe<|Zc O (λV=>?_) (λV=>?_)
   ·have e1:Y5 sz [] (ks.map (·.k))=Xq sz q.k:=by rw[←hy];exact if_pos V
    have hP:Xq sz q.k≠0:=V;refine Qd<|Qb<|Qf ?_;exact Qs ⟨[_],Lb,by rw[h7,e1];rfl,G.trans (H.trans hz)⟩
   have hI:Y5 sz ((ks.take k).map (·.nm)++[q.nm]) ((ks.drop (k+1)).map (·.k))=Y5 sz [] (ks.map (·.k)):=by rw[←hy];exact (if_neg V).symm
   refine Qj<|Qx<|QN O O<|Qb<|xe ?_;exact ⟨k+1,by omega,Lb,E,H.trans hz,by rw[ho];exact hI⟩
  have E:k<qx.length:=by have h6:(k:Int)<(qx.length:Int):=he;omega
  have ho:(qx.take (k+1)).map (·.nm)=(qx.take k).map (·.nm)++[(qx[k]'E).nm]:=by rw[Ll E,LA];rfl
  rw[Q9 E,L8] at J;have hf:=Lj E;have S:=(hX.ext G).ext H;have h8:=Y.ext H;refine Qj<|Qg<|Qh<|Qd<|Qb<|xig zc S.arr O O E λaA hA=>?_;refine Zs (qx[k]'E) λq hq=>?_;rw[hq] at hA J ho hf;have hp:=S.each q hf;refine x (QQ hA O O)<|xl O<|Qu (us:=[.int .i64 0]) O λb5 Z hr h9 hg=>xl O<|Qu (us:=[.string .empty,nS]) O λb6 w4 hs hW hB =>
   xl rfl<|QH (j:=0) (u:=.int .i64 k) (hg.ext hs) O O (by decide) O λw5 ht hC=>xl O<|Qq (us:=ZJ q) (hB.step ht (by have:=hg.lt;simp;omega)) O O O O ⟨O,hp.one,La⟩ λw6 hu hv=>xe ?_
  have hY:b5<b6:=by have:=hg.lt;omega
  have hh:Step [] wA w6:=((hr.trans hs).then1 ht h9).then1 hu (by have:=hr.size;omega);have hD:QX w6.heap b5 3 [.int .i64 k]:=hC.step hu (by simp;omega);have hw:=h8.ext hh;have hE:=S.ext hh
  refine Qd<|x ZF<|Qf<|Qg<|Qd<|x (Qa O)<|x (Qc hv O O)<|Qb<|xl O<|xf<|(QeA (nms:=(qx.take k).map (·.nm)) (capt:=[.pointer (some ⟨b1,0,none⟩),.pointer (some ⟨b5,0,none⟩)]) (S.nm q hf) (λw' L hj hL=>Qic (hw.ext hj) (hD.ext hj) ((hE.up (λb hb=>.inr (hL b hb))).ext hj) hk O)).mono ?_;rintro r7 w7 ⟨rfl,hl⟩;refine Qf ?_;have U:=hh.trans hl;refine Qd<|Qb<|x (Zj O O)<|xe ?_
  refine Zc O (λha=>?_) (λha=>?_)
  ·have e1:Yt sz [] (qx.map (·.x))=K4 ((qx.take k).map (·.nm)) q.nm:=by rw[←J];exact if_pos ha
   refine Qd<|Qb<|Qf ?_;exact Qs ⟨[_],Lb,by rw[hO (by rw[e1];exact ha),e1];rfl,G.trans (H.trans U)⟩
  have hy:(if JN sz q.ls≠0 then JN sz q.ls else Yt sz ((qx.take k).map (·.nm)++[q.nm]) ((qx.drop (k+1)).map (·.x)))=Yt sz [] (qx.map (·.x)):=by rw[←J];exact (if_neg ha).symm
  refine Qj ?_;have hF:=hw.ext hl;have hG:=hv.ext hl;refine Qd<|x (Qo hF O O)<|x (Qo hG O O)<|xl O<|xf<|(Us (((hS.ext G).ext H).ext U) (hp.ext U)).mono ?_;rintro r8 w8 ⟨rfl,hH⟩;refine Qf ?_;have hz:=U.trans hH;refine Qd<|Qb<|x (Zj O O)<|xe<|Zc O (λV=>?_) (λV=>?_)
  ·have e1:Yt sz [] (qx.map (·.x))=JN sz q.ls:=by rw[←hy];exact if_pos V
   have hP:JN sz q.ls≠0:=V;refine Qd<|Qb<|Qf ?_;exact Qs ⟨[_],Lb,by rw[hO (by rw[e1];exact hP),e1];rfl,G.trans (H.trans hz)⟩
  have hI:Yt sz ((qx.take k).map (·.nm)++[q.nm]) ((qx.drop (k+1)).map (·.x))=Yt sz [] (qx.map (·.x)):=by rw[←hy];exact (if_neg V).symm
  refine Qj<|Qx<|QN O O<|Qb<|xe ?_;exact ⟨k+1,by omega,Lb,E,H.trans hz,by rw[ho];exact hI⟩
 have E:k<sz.length:=by have h1:(k:Int)<(sz.length:Int):=h3;omega
 rw[Q9 E,List.any_cons] at hc;refine Qj<|Qg<|Qh<|Qd<|xii (hS.ext G) O O E λgg h1=>?_;refine Zs (sz[k]'E) λn hn=>?_;rw[hn] at h1 hc;refine x (Qv h1 O)<|Qf<|Q0 (α:=Bool) [(26,31)] (λz=>[(31,.bool z)]) (λz w'=>w'=w2∧z=KC n) (by rfl) ?_ ?_
 ·refine Qx<|Qb<|xb (QD O O) (λhJ=>?_) (λhJ=>?_)
  ·refine Qb<|xs O<|xs O<|x (Qp O)<|xe ?_;exact ⟨_,Lb,O,by unfold KC;rw[decide_eq_true hJ];rfl⟩
  refine Qb<|Qb<|x (ZL O O)<|x (Qp O)<|xe ?_;exact ⟨_,Lb,O,by unfold KC;rw[decide_eq_false hJ];rfl⟩
 rintro z g Z ⟨rfl,rfl⟩;refine Q8 rfl (λhM=>?_) (λhM=>?_)
 ·refine Qd<|Qf ?_;exact Qs ⟨[_],Lb,by unfold YT;rw[if_neg h0,if_pos (by rw[←hc,hM];rfl)];rfl,G⟩
 rw[hM,NJ] at hc;refine Qj<|Qx<|QN O O<|Qb<|xe ?_;exact ⟨k+1,by omega,Lb,E,O,hc⟩
theorem Z3 {α:Type}(q:α→Bool) (i:Nat) (a:α) (l:List α):fix q i (a::l)=if q a=true then (i:Int) else fix q (i+1) l:=rfl
theorem Qds {α:Type}(q:α→Bool):∀(l:List α) (i:Nat),fix q i l=-1∨((i:Int)≤fix q i l∧fix q i l<(i:Int)+l.length)
 | [],i=>.inl O
 | a::l,i=>by
  rw[Z3];split
  ·right;simp only[List.length_cons];omega
  rcases Qds q l (i+1) with h | h
  ·exact .inl h
  right;simp only[List.length_cons];omega
theorem QaK {α:Type}(q:α→Bool):∀(l:List α) (i:Nat),decide (0≤fix q i l)=l.any q
 | [],i=>rfl
 | a::l,i=>by
  rw[Z3,List.any_cons];cases h:q a with
  | true=>rw[if_pos rfl];simp
  | false=>rw[if_neg (by decide),QaK q l (i+1)];rfl
theorem yg {α:Type}(q:α→Bool) (m:List α):∀(l:List α) (i:Nat),fix q i (l++m)=if 0≤fix q i l then fix q i l else fix q (i+l.length) m
 | [],i=>by
  show fix q i m=if (0:Int)≤-1 then (-1) else fix q i m
  rw[if_neg (by decide)]
 | a::l,i=>by
  rw[MG,Z3,Z3];by_cases h:q a=true
  ·rw[if_pos h,if_pos h,if_pos (by omega)]
  rw[if_neg h,if_neg h,yg q m l (i+1),LP];rw[show i+1+l.length=i+(l.length+1) by omega]
theorem jQ {α:Type}(q:α→Bool) (d:Nat):∀(l:List α) (i:Nat),fix q (i+d) l=if 0≤fix q i l then fix q i l+d else -1
 | [],i=>rfl
 | a::l,i=>by
  rw[Z3,Z3];by_cases h:q a=true
  ·rw[if_pos h,if_pos h,if_pos (by omega)];omega
  rw[if_neg h,if_neg h,show i+d+1=(i+1)+d by omega,jQ q d l (i+1)]
theorem Vl {α β:Type}(q:β→Bool) (g:α→β):∀(l:List α) (i:Nat),fix q i (l.map g)=fix (λa=>q (g a)) i l
 | [],i=>rfl
 | a::l,i=>by rw[L8,Z3,Z3,Vl q g l (i+1)]
theorem QfZ {α:Type}{q E:α→Bool}:∀{l:List α}{i:Nat},(∀a∈l,q a=E a)→fix q i l=fix E i l
 | [],i,_=>rfl
 | a::l,i,h=>by rw[Z3,Z3,h a Lh,QfZ (λb hb=>h b (Le _ hb))]
theorem Qmd {gp:Nat}{fn:Func}[Fu prog gp fn] {cap:LV}{q:(Int×Int)→Bool}{L:LN}{w:World}{v:Value}{l:List (Int×Int)}(h:Zz L w.heap v l.length 2 (l.flatMap Za))
  (hk:∀e∈l,∀(G:World),Step [] w G→QM prog gp ([.agg (Za e).toArray]++cap) G λr w'=>r=.bool (q e)∧Step [] G w') :
  QM prog 287 [v,.func (.func gp) #[] cap.toArray] w λr w'=>r=.int .i64 (fix q 0 l)∧Step [] w w':=by
 have hc:=h.le;refine QM.of_W func287 O ntmps287 results287 (by simp) ?_;refine Qd<|Qf<|Qg<|Qd<|Qb<|x (Qw h O)<|Qb<|xe<|Qh<|QC (α:=Nat) [(4,5),(8,18)] (λz=>[(8,.int .i64 z)]) (λz w'=>z≤l.length∧Step [] w w'∧fix q z (l.drop z)=fix q 0 l) (λz=>l.length - z) (by rfl) 0 Lb
  ⟨Lm _,Step.refl _ _,O⟩ ?_
 rintro k g G ⟨hk1,H,E⟩;refine Qd<|x (QD O O)<|xe<|Qg<|QI O (λS=>?_) (λS=>?_)
 ·refine Qy ?_;have ha:l.length≤k:=by have hb:¬(k:Int)<(l.length:Int):=S;omega
  rw[Lr ha] at E;refine Qd<|Qf ?_;exact Qs ⟨[_],Lb,by rw[←E];rfl,H⟩
 have J:k<l.length:=by have hb:(k:Int)<(l.length:Int):=S;omega
 rw[Q9 J,Z3] at E;have V:=Lj J;refine Qj<|Qg<|Qh<|Qd<|Qb<|Qf<|Qd<|Qb<|Qb<|Qb<|xig JR (h.ext H) O O J λhf Y=>?_;refine Zs (l[k]'J) λe he=>?_;rw[he] at Y E V;refine x (QQ Y O O)<|xl O<|xc (first:=[]) (capt:=cap) O<|(hk e V G H).mono ?_;rintro r2 w2 ⟨rfl,Z⟩;refine xe<|Q8 rfl (λU=>?_) (λU=>?_)
 ·rw[if_pos U] at E;refine Qd<|Qb<|Qf ?_;exact Qs ⟨[_],Lb,by rw[←E];rfl,H.trans Z⟩
 rw[if_neg (by rw[U];decide)] at E;refine Qj<|Qx<|QN O O<|Qb<|xe ?_;exact ⟨k+1,by omega,Lb,J,H.trans Z,E⟩
theorem Qmy {gp:Nat}{fn:Func}[Fu prog gp fn] {cap:LV}{q:(Int×Int)→Bool}{L:LN}{w:World}{v:Value}{l:List (Int×Int)}(h:Zz L w.heap v l.length 2 (l.flatMap Za))
  (hk:∀e∈l,∀(E:World),Step [] w E→QM prog gp ([.agg (Za e).toArray]++cap) E λr w'=>r=.bool (q e)∧Step [] E w') :
  QM prog 260 [v,.func (.func gp) #[] cap.toArray] w λr w'=>r=.bool (l.any q)∧Step [] w w':=by
 refine QM.of_W func260 O ntmps260 results260 (by simp) ?_;refine Qd<|Qf<|Qd<|Qb<|Qb<|xl O<|xf<|(Qmd h hk).mono ?_;rintro H E ⟨rfl,G⟩;refine x (Yg O O)<|Qf ?_;exact Qs ⟨[_],Lb,congrArg Value.bool (QaK q l 0),G⟩
theorem yA (sz:LI):∀(ls:List (Int×Int)) (pr:Option Int),Xp sz pr ls=0→(∀p∈ls,0≤p.1∧p.1<(sz.length:Int))∧ZT (ls.map (·.1))∧∀y,pr=some y→∀p∈ls,y<p.1
 | [],pr,_=>⟨λp hp=>(by cases hp),List.Pairwise.nil,λy _ p hp=>(by cases hp)⟩
 | l::ls,pr,h=>by
  unfold Xp at h;split at h
  ·cases h
  rename_i h1;split at h
  ·cases h
  rename_i h2;split at h
  ·cases h
  obtain ⟨h4,h5,G⟩:=yA sz ls (some l.1) h;have E:=G l.1 O;refine ⟨λp hp=>?_,L7.2 ⟨λx hx=>?_,h5⟩,λy hy p hp=>?_⟩
  ·rcases Li.1 hp with rfl | hp
   ·omega
   exact h4 p hp
  ·obtain ⟨p,hp,rfl⟩:=Lz.1 hx;exact E p hp
  subst hy;have H:¬l.1≤y:=λe=>h2 (decide_eq_true e);rcases Li.1 hp with rfl | hp
  ·omega
  have:=E p hp;omega
theorem yy (sz:LI):∀(ls:List (Int×Int)) (pr:Option Int),JM sz pr ls=0→(∀p∈ls,0≤p.1∧p.1<(sz.length:Int)∧-65536≤p.2∧p.2≤65536)∧ZT (ls.map (·.1))∧∀y,pr=some y→∀p∈ls,y<p.1
 | [],pr,_=>⟨λp hp=>(by cases hp),List.Pairwise.nil,λy _ p hp=>(by cases hp)⟩
 | l::ls,pr,h=>by
  unfold JM at h;split at h
  ·cases h
  rename_i h1;split at h
  ·cases h
  rename_i h2;split at h
  ·cases h
  rename_i h3;obtain ⟨h4,h5,H⟩:=yy sz ls (some l.1) h;have E:=H l.1 O;have G:grt l.2=false:=by cases J:grt l.2 with | true=>exact absurd (.inr J) h3 | false=>rfl
  unfold grt at G;simp only[Bool.or_eq_false_iff,decide_eq_false_iff_not] at G;refine ⟨λp hp=>?_,L7.2 ⟨λx hx=>?_,h5⟩,λy hy p hp=>?_⟩
  ·rcases Li.1 hp with rfl | hp
   ·omega
   exact h4 p hp
  ·obtain ⟨p,hp,rfl⟩:=Lz.1 hx;exact E p hp
  subst hy;have S:¬l.1≤y:=λe=>h2 (decide_eq_true e);rcases Li.1 hp with rfl | hp
  ·omega
  have:=E p hp;omega
theorem qq (sz:LI):∀(l:List Exc) (sn:List ByteArray),Yt sz sn l=0→∀x∈l,JN sz x.ls=0
 | [],_,_,x,hx=>by cases hx
 | a::l,sn,h,x,hx=>by
  unfold Yt at h;split at h
  ·rename_i h1;exact absurd h h1
  split at h
  ·rename_i h1;exact absurd h h1
  rename_i h1;rcases Li.1 hx with rfl | hx
  ·exact Lt.1 h1
  exact qq sz l _ h x hx
theorem qt (sz:LI):∀(l:List Kh) (sn:List ByteArray),Y5 sz sn l=0→∀x∈l,Xq sz x=0
 | [],_,_,x,hx=>by cases hx
 | a::l,sn,h,x,hx=>by
  unfold Y5 at h;split at h
  ·rename_i h1;exact absurd h h1
  split at h
  ·rename_i h1;exact absurd h h1
  rename_i h1;rcases Li.1 hx with rfl | hx
  ·exact Lt.1 h1
  exact qt sz l _ h x hx
structure Qoc (sz:LI) (ex:List Exc) (cs:List Kh):Prop where
 s8:sz.length≤8
 s:∀n∈sz,1≤n∧n≤4096
 xl:ex.length≤32
 kl:cs.length≤32
 x:∀e∈ex,∀p∈e.ls,0≤p.1∧p.1<(sz.length:Int)
 k:∀e∈cs,(∀p∈e.ts,0≤p.1∧p.1<(sz.length:Int)∧-65536≤p.2∧p.2≤65536)∧e.ts.length≤8
theorem Qcw {sz:LI}{ex:List Exc}{cs:List Kh}(h:YT sz ex cs=0):Qoc sz ex cs:=by
 unfold YT at h;split at h
 ·cases h
 rename_i H;split at h
 ·cases h
 rename_i hs;split at h
 ·cases h
 rename_i J;split at h
 ·rename_i hx;exact absurd h hx
 rename_i hx;have E:=Lt.1 hx;refine ⟨by omega,λn G=>?_,by omega,by omega,λe he p hp=>?_,λe he=>?_⟩
 ·have h1:KC n=false:=by
   cases hb:KC n with
   | false=>rfl
   | true=>exact absurd (Mn.2 ⟨n,G,hb⟩) hs
  unfold KC at h1;simp only[Bool.or_eq_false_iff,decide_eq_false_iff_not] at h1;omega
 ·have h1:=qq sz ex [] E e he;unfold JN at h1;split at h1
  ·cases h1
  exact (yA sz e.ls none h1).1 p hp
 have h1:=qt sz cs [] h e he;unfold Xq at h1;split at h1
 ·cases h1
 split at h1
 ·rename_i h2;exact absurd h1 h2
 rename_i h2;obtain ⟨h3,h4,_⟩:=yy sz e.ts none (Lt.1 h2);refine ⟨h3,?_⟩;have:=Go.Proofs.YtdffckgdcegpaaaGreatDoor.pig sz.length (e.ts.map (·.1)) (List.Pairwise.imp (λ{a b} (h:a<b)=>(by omega:a≠b)) h4) (λx hx=>by
  obtain ⟨p,hp,rfl⟩:=Lz.1 hx;exact ⟨(h3 p hp).1,(h3 p hp).2.1⟩)
 rw[Lo] at this;omega
def QkY (sz t:LI):Prop:=t.length=sz.length∧∀i,i<t.length→0≤cget t i∧cget t i<cget sz i
theorem Qfs (t:LI) (p:Int×Int) (l:List (Int×Int)) (s:Int):(l++[p]).foldl (λs p=>s+p.2*t.getD p.1.toNat 0) s=l.foldl (λs p=>s+p.2*t.getD p.1.toNat 0) s+p.2*cget t p.1.toNat:=by
 rw[LW];rfl
theorem Qgv {w:World}{vl vt:Value}{nm:ByteArray}{ts:List (Int×Int)}{bd:Int}{t:LI}(hl:P2s [] w.heap vl ts) (ht:QO [] w.heap vt t)
  (hg:∀p∈ts,0≤p.1∧p.1<(t.length:Int)∧-65536≤p.2∧p.2≤65536) (h8:ts.length≤8) (hh:∀i,i<t.length→0≤cget t i∧cget t i≤4096) :
  QM prog 263 [.agg #[.string nm,vl,.int .i64 bd],vt] w λr w'=>r=.int .i64 (Qm8 t ⟨nm,ts,bd⟩)∧Step [] w w':=by
 refine QM.of_W func263 O ntmps263 results263 (by simp) ?_;refine Qd<|xl O<|QS (us:=[.string nm,vl,.int .i64 bd]) O λb2 w1 Y hw hj=>Qf<|Qd<|Qf<|Qg<|Qd<|x (Qa O)<|x (Qc hj O O)<|x (Qw (hl.ext Y) O)<|Qb<|xe ?_
 refine Qh<|QC (α:=Nat×Int) [(5,5),(7,7),(11,25)] (λz=>[(5,.int .i64 z.2),(11,.int .i64 z.1)]) (λz w'=>z.1≤ts.length∧Step [] w w'∧z.2=(ts.take z.1).foldl (λs p=>s+p.2*t.getD p.1.toNat 0) 0∧-(268435456*(z.1:Int))≤z.2∧z.2≤268435456*(z.1:Int)) (λz=>ts.length - z.1) (by rfl) (0,0) ⟨O,O,La⟩
  ⟨Lm _,Y,O,by simp only[];omega,by simp only[];omega⟩ ?_
 rintro ⟨k,s⟩ g w2 ⟨hk,S,G,hm,hn⟩;simp only[] at hk G hm hn;refine Qd<|x (QD O O)<|xe<|Qg<|QI O (λU=>?_) (λU=>?_)
 ·refine Qy ?_;have ho:ts.length≤k:=by have H:¬(k:Int)<(ts.length:Int):=U;omega
  rw[Lq ho] at G;refine Qd<|Qb<|Qf ?_;exact Qs ⟨[_],Lb,by rw[G];rfl,S⟩
 have E:k<ts.length:=by have H:(k:Int)<(ts.length:Int):=U;omega
 have V:=hg _ (Lj E);have Z:ts.take (k+1)=ts.take k++[ts[k]'E]:=Ll E;refine Qj<|Qg<|Qh<|Qd<|xig JR (hl.ext S) O O E λhy H=>?_;refine Zs (ts[k]'E) λe he=>?_;rw[he] at H V Z;refine x (QQ H O O)<|xl O<|Qu (us:=[.int .i64 0,.int .i64 0]) O λb7 w3 hp hq J=>xl O<|Qq (us:=Za e) J O O O O ⟨O,O,La⟩ λw4 hr J=>xe ?_
 have hs:Step [] w2 w4:=hp.then1 hr hq;have ha:=S.trans hs;have hu:e.1=((e.1.toNat:Nat):Int):=by omega
 have hb:e.1.toNat<t.length:=by omega
 have hf:=hh _ hb;have hz:-268435456≤e.2*cget t e.1.toNat∧e.2*cget t e.1.toNat≤268435456:=by
  have h1:(-65536)*cget t e.1.toNat≤e.2*cget t e.1.toNat:=Int.mul_le_mul_of_nonneg_right V.2.2.1 hf.1;have h2:e.2*cget t e.1.toNat≤65536*cget t e.1.toNat:=Int.mul_le_mul_of_nonneg_right V.2.2.2 hf.1;omega
 refine Zs (e.2*cget t e.1.toNat) λpr h0=>?_;refine QV (Step [] w4) [(0,true),(1,true),(2,true),(3,true),(4,true),(5,true),(6,true),(7,true),(8,true),(9,true),(10,true)] mixed (by rfl) (by kernel_rfl) (Step.drew _ _) ?_;refine p (λ_=>Ql)<|p (λ_=>Qa O)<|pq (λ_ hc=>Qc (J.ext hc) O O)<|p (λ_=>Ql)<|p (λ_=>Qa O) <|
  pq (λ_ hc=>Qc (J.ext hc) O O)<|pic (i:=e.1.toNat) O (ht.ext ha) O (congrArg (Value.int .i64) hu) hb λh3 hv=>pq (λ_ hc=>Qv (hv.ext hc) O) <|
  p (λ_=>Qna O O ⟨by omega,by omega⟩)<|p (λ_=>X1 O O ⟨by omega,by omega⟩)<|p (λ_=>Qe)<|pe ?_
 refine Qx<|QN O O<|Qb<|xe<|⟨(k+1,s+e.2*cget t e.1.toNat),by simp only[];omega,⟨O,O,La⟩,E,ha.trans (Step.drew _ _),?_,by simp only[];omega,by simp only[];omega⟩;simp only[];rw[Z,Qfs,←G]
theorem Qh9 {w:World}{bt:Nat}{vt:Value}{t:LI}(H:QX w.heap bt 37 [vt]) (ht:QO [] w.heap vt t) (e:Int×Int) (he:0≤e.1∧e.1<(t.length:Int)) :
  QM prog 261 ([.agg (Za e).toArray]++[.pointer (some ⟨bt,0,none⟩)]) w λr w'=>r=.bool (!decide (t.getD e.1.toNat 0=e.2))∧Step [] w w':=by
 refine QM.of_W func261 O ntmps261 results261 (by simp) ?_;refine Qd<|xl O<|QS (us:=Za e) O λb2 J E Y G=>Qf ?_;have S:e.1=((e.1.toNat:Nat):Int):=by omega
 have U:e.1.toNat<t.length:=by omega
 refine Qg<|QV (Step [] J) [(0,true),(1,true),(2,true),(3,true),(4,true),(5,true),(6,true),(7,true),(8,true)] mixed (by rfl) (by kernel_rfl) (Step.drew _ _) ?_;refine pq (λ_ hc=>Qc ((H.ext E).ext hc) O O)<|p (λ_=>Qa O)<|pq (λ_ hc=>Qc (G.ext hc) O O)<|pic (i:=e.1.toNat) O (ht.ext E) O (congrArg (Value.int .i64) S) U λZ V =>
  pq (λ_ hc=>Qv (V.ext hc) O)<|p (λ_=>Qa O)<|pq (λ_ hc=>Qc (G.ext hc) O O)<|p (λ_=>Zj O O) <|
  p (λ_=>Qe)<|pe ?_
 refine Qs ⟨[_],Lb,?_,E.trans (Step.drew _ _)⟩;show Value.bool (decide (¬cget t e.1.toNat=e.2))=_;unfold cget;simp
theorem Qgt (t:LI) (x:Exc):(!(x.ls.any λl=>!decide (t.getD l.1.toNat 0=l.2)))=VJ t x:=by
 unfold VJ;induction x.ls with
 | nil=>rfl
 | cons a l ih=>rw[List.any_cons,My,←ih];cases decide (t.getD a.1.toNat 0=a.2) <;> simp
theorem Qkv {w:World}{b:Nat}{q:XV}{vt:Value}{t:LI}(H:QX w.heap b 122 (ZJ q)) (hq:P2s [] w.heap q.v q.ls) (ht:QO [] w.heap vt t) (J:∀p∈q.ls,0≤p.1∧p.1<(t.length:Int)) :
  QM prog 259 ([vt]++[.pointer (some ⟨b,0,none⟩)]) w λr w'=>r=.bool (VJ t q.x)∧Step [] w w':=by
 refine QM.of_W func259 O ntmps259 results259 (by simp) ?_;refine Qd<|xl O<|QS (us:=[vt]) ht.cells λb2 V E Y S=>Qf<|Qd<|x (Qa O)<|x (Qc (H.ext E) O O)<|x ZF<|xl O<|xf<|(Qmy (q:=λl=>!decide (t.getD l.1.toNat 0=l.2)) (cap:=[.pointer (some ⟨b2,0,none⟩)]) (hq.ext E) (λe he U G=>Qh9 (S.ext G) ((ht.ext E).ext G) e (J e he))).mono ?_;rintro r2 U ⟨rfl,G⟩;refine x (Zh O)<|Qf ?_
 exact Qs ⟨[_],Lb,congrArg Value.bool (Qgt t q.x),E.trans G⟩
theorem Qku {w:World}{b:Nat}{q:KV}{vt:Value}{t:LI}(E:QX w.heap b 127 (ZV q)) (hq:P2s [] w.heap q.v q.ts) (ht:QO [] w.heap vt t)
  (H:∀p∈q.ts,0≤p.1∧p.1<(t.length:Int)∧-65536≤p.2∧p.2≤65536) (J:q.ts.length≤8) (S:∀i,i<t.length→0≤cget t i∧cget t i≤4096) :
  QM prog 262 ([vt]++[.pointer (some ⟨b,0,none⟩)]) w λr w'=>r=.bool (UF t q.k)∧Step [] w w':=by
 refine QM.of_W func262 O ntmps262 results262 (by simp) ?_;refine Qd<|Qf ?_;have hd:Step [] w { w with drawn:=w.drawn+1 }:=Step.drew _ _
 refine Qg<|QV (Step [] { w with drawn:=w.drawn+1 }) [(0,true),(1,true),(3,true),(4,true),(2,false),(5,true),(6,true)] mixed (by rfl) (by kernel_rfl) (Step.refl _ _) ?_
 refine pq (λ_ hc=>Qo ((E.ext hd).ext hc) O O)<|p (λ_=>Ql)<|p (λ_=>Qa O)<|pq (λ_ hc=>Qc ((E.ext hd).ext hc) O O)<|pk<|xf<|(Qgv (hq.ext hd) (ht.ext hd) H J S).mono ?_;rintro U V ⟨rfl,G⟩;refine ⟨G,?_⟩;refine p (λ_=>ZL O O)<|p (λ_=>Qe)<|pe ?_;exact Qs ⟨[_],Lb,O,hd.trans G⟩
inductive Cd where
 | ex (b:Nat) (q:XV)
 | co (b:Nat) (q:KV)
def Cd.val:Cd→Value
 | .ex b _=>.func (.func 259) #[] #[.pointer (some ⟨b,0,none⟩)]
 | .co b _=>.func (.func 262) #[] #[.pointer (some ⟨b,0,none⟩)]
def Cd.src:Cd→Sum XV KV
 | .ex _ q=>.inl q
 | .co _ q=>.inr q
def Qft (t:LI):Sum XV KV→Bool
 | .inl q=>VJ t q.x
 | .inr q=>UF t q.k
def Cd.vio (t:LI) (c:Cd):Bool:=Qft t c.src
abbrev Uu (c:Cd):LV:=[c.val]
theorem QmA (c:Cd):(Uu c).length=1:=rfl
def CdA (H:Array Obj):Cd→Prop
 | .ex b q=>QX H b 122 (ZJ q)∧P2s [] H q.v q.ls
 | .co b q=>QX H b 127 (ZV q)∧P2s [] H q.v q.ts
theorem CdA.ext {w w':World}{c:Cd}(h:CdA w.heap c) (hs:Step [] w w'):CdA w'.heap c:=by
 cases c with
 | ex b q=>exact ⟨h.1.ext hs,h.2.ext hs⟩
 | co b q=>exact ⟨h.1.ext hs,h.2.ext hs⟩
def Cd.rg (n:Nat):Cd→Prop
 | .ex _ q=>∀p∈q.ls,0≤p.1∧p.1<(n:Int)
 | .co _ q=>(∀p∈q.ts,0≤p.1∧p.1<(n:Int)∧-65536≤p.2∧p.2≤65536)∧q.ts.length≤8
theorem Qb5 {q:XV}(w:World):QM prog 209 [.agg (ZJ q).toArray] w λr w'=>Step [] w w'∧∃b,r=(Cd.ex b q).val∧w.heap.size≤b∧QX w'.heap b 122 (ZJ q):=by
 refine QM.of_W func209 O ntmps209 results209 (by simp) ?_;refine Qd<|xl O<|QS (us:=ZJ q) O λb1 J E G H=>Qf<|Qd<|x ZF<|Qf ?_;exact Qs ⟨[_],Lb,E,b1,O,G,H⟩
theorem Qdt {q:KV}(w:World):QM prog 210 [.agg (ZV q).toArray] w λr w'=>Step [] w w'∧∃b,r=(Cd.co b q).val∧w.heap.size≤b∧QX w'.heap b 127 (ZV q):=by
 refine QM.of_W func210 O ntmps210 results210 (by simp) ?_;refine Qd<|xl O<|QS (us:=ZV q) O λb1 J E G H=>Qf<|Qd<|x ZF<|Qf ?_;exact Qs ⟨[_],Lb,E,b1,O,G,H⟩
def CdB (H:Array Obj):Cd→Prop
 | .ex b q=>QX H b 122 (ZJ q)
 | .co b q=>QX H b 127 (ZV q)
def Cd.blk:Cd→Nat
 | .ex b _=>b
 | .co b _=>b
theorem CdB.lt {H:Array Obj}{c:Cd}(h:CdB H c):c.blk<H.size:=by cases c <;> exact QX.lt h
theorem CdB.step {X:LN}{w w':World}{c:Cd}(h:CdB w.heap c) (hs:Step X w w') (E:c.blk∉X):CdB w'.heap c:=by
 cases c <;> exact QX.step h hs E
structure CdL (base:Nat) (w:World) (v:Value) (cds:List Cd):Prop where
 own:w.ownsRow base 313 1 v cds.length (cds.flatMap Uu)
 bx:∀c∈cds,CdB w.heap c∧c.blk∉ob v
theorem CdL.add {base:Nat}{w E G:World}{v H:Value}{cds:List Cd}{c:Cd}(h:CdL base w v cds) (hs:Step [] w E) (hc:CdB E.heap c) (hb:w.heap.size≤c.blk)
  (J:G.ownsRow base 313 1 H (cds.length+1) (cds.flatMap Uu++[c.val])) (S:Step (ob v) E G) (U:∀b∈ob H,b∈ob v∨E.heap.size≤b):CdL base G H (cds++[c]):=by
 have V:=QY h.own;have Y:c.blk∉ob v:=λhm=>by have:=V _ hm;omega
 refine ⟨?_,λd hd=>?_⟩
 ·rw[Lk,LL];simpa using J
 have key:CdB E.heap d∧d.blk∉ob v:=by
  rcases Lp.1 hd with hd | hd
  ·exact ⟨(h.bx d hd).1.step hs (by simp),(h.bx d hd).2⟩
  simp only[List.mem_singleton] at hd;subst hd;exact ⟨hc,Y⟩
 refine ⟨key.1.step S key.2,λhm=>?_⟩;rcases U _ hm with h1 | h1
 ·exact key.2 h1
 have:=key.1.lt;omega
set_option maxHeartbeats 4000000 in
theorem Qis {w:World}{vs vx vk:Value}{qx:List XV}{ks:List KV}(hX:Xcs [] w.heap vx qx) (hK:yP [] w.heap vk ks) (hI:qx.length≤32) (hJ:ks.length≤32) :
  QM prog 150 [.agg #[vs,vx,vk]] w λr w'=>Step [] w w'∧∃cds,CdL w.heap.size w' r cds∧cds.map Cd.src=qx.map Sum.inl++ks.map Sum.inr:=by
 refine QM.of_W func150 O ntmps150 results150 (by simp) ?_;refine Qd<|xl O<|QS (us:=[vs,vx,vk]) O λb1 S H hM h4=>Qf ?_;have h9:=H.size;refine Qd<|Qf<|Qg<|Qd<|x (Qa O)<|x (Qc h4 O O)<|x (Qw (hX.ext H).arr O)<|Qb<|xe ?_
 refine Qh<|QC (α:=Nat×Value×List Cd) [(3,3),(5,5),(11,20)] (λz=>[(3,z.2.1),(11,.int .i64 z.1)]) (λz w'=>z.1≤qx.length∧Step [] S w'∧CdL S.heap.size w' z.2.1 z.2.2∧z.2.2.map Cd.src=(qx.take z.1).map Sum.inl) (λz=>qx.length - z.1) (by rfl) (0,nS,[]) ⟨O,O,La⟩
  ⟨Lm _,Step.refl _ _,⟨QR _ _ _ _,λc hc=>(by cases hc)⟩,rfl⟩ ?_
 rintro ⟨k,vo,cds⟩ g wA ⟨hk,J,Z,ha⟩;simp only[] at hk Z ha;have hN:cds.length=k:=by have:=congrArg List.length ha;simp at this;omega
 refine Qd<|x (QD O O)<|xe<|Qg<|QI O (λhm=>?_) (λhm=>?_)
 ·refine Qy ?_;have hB:qx.length≤k:=by have hn:¬(k:Int)<(qx.length:Int):=hm;omega
  rw[Lq hB] at ha;refine Qg<|Qd<|x (Qa O)<|x (Qc (h4.ext J) O O)<|x (Qw ((hK.ext H).ext J).arr O)<|Qb<|xe ?_
  refine Qh<|QC (α:=Nat×Value×List Cd) [(3,3),(7,7),(24,33)] (λz=>[(3,z.2.1),(24,.int .i64 z.1)]) (λz w'=>z.1≤ks.length∧Step [] S w'∧CdL S.heap.size w' z.2.1 z.2.2∧z.2.2.map Cd.src=qx.map Sum.inl++(ks.take z.1).map Sum.inr) (λz=>ks.length - z.1) (by rfl) (0,vo,cds) ⟨O,O,La⟩
   ⟨Lm _,J,Z,by simp only[];rw[ha];simp⟩ ?_
  rintro ⟨j,vp,cdt⟩ g wB ⟨hj,he,U,hf⟩;simp only[] at hj U hf;have hO:cdt.length=qx.length+j:=by have:=congrArg List.length hf;simp at this;omega
  refine Qd<|x (QD O O)<|xe<|Qg<|QI O (λho=>?_) (λho=>?_)
  ·refine Qy ?_;have hC:ks.length≤j:=by have hn:¬(j:Int)<(ks.length:Int):=ho;omega
   rw[Lq hC] at hf;refine Qd<|Qb<|Qf ?_;exact Qs ⟨[_],Lb,H.trans he,cdt,⟨QT U.own h9,U.bx⟩,hf⟩
  have V:j<ks.length:=by have hn:(j:Int)<(ks.length:Int):=ho;omega
  have h5:=Lj V;have h6:ks.take (j+1)=ks.take j++[ks[j]'V]:=Ll V;refine Qj<|Qg<|Qh<|Qd<|xig zQ ((hK.ext H).ext he).arr O O V λaA hA=>?_;refine Zs (ks[j]'V) λq hq=>?_;rw[hq] at hA h5 h6;have hp:=((hK.ext H).ext he).each q h5
  refine x (QQ hA O O)<|xl O<|Qu (us:=[.string .empty,nS,.int .i64 0]) O λb7 w4 hr hs ht=>xl O<|Qq (us:=ZV q) ht O O O O ⟨O,hp.one,O,La⟩ λw5 hu hv=>xe ?_;have hg:Step [] wB w5:=hr.then1 hu hs;refine Qx<|Qb<|x (Qo hv O O)<|xl O<|xf<|(Qdt w5).mono ?_;rintro r6 w6 ⟨hw,E,rfl,hD,hy⟩
  refine xl O<|QL (us:=[[(Cd.co E q).val]]) O O (by decide) (by simp) ⟨rfl,rfl,La⟩ λhE w7 hh hF hz=>?_;have G:=(hg.trans hw).trans hh;have hG:=(he.trans G).size;have hH:=hg.size;refine xl O<|QZ (news:=[(Cd.co E q).val]) (L:=[]) (Qt U.own G) O O O (hz.at (by simp)) (by simp[Cd.val,Value.oneCell']) (by omega) (by omega) λv8 w8 h0 hl h1 =>
   Qf ?_
  have hge:=Qm U.own;have h2:=U.add (c:=Cd.co E q) G (QX.ext hy hh) (by show _≤E;omega) h0 hl h1;have h3:Step [] S w8:=(he.trans G).then hl (λb hb=>.inr (hge b hb).1);refine Qx<|QN O O<|Qb<|xe ?_;exact ⟨(j+1,v8,cdt++[Cd.co E q]),by simp only[];omega,⟨O,O,La⟩,V,h3,h2,by simp only[];rw[LA,hf,h6];simp[Cd.src]⟩
 have Y:k<qx.length:=by have hn:(k:Int)<(qx.length:Int):=hm;omega
 have h7:=Lj Y;have h8:qx.take (k+1)=qx.take k++[qx[k]'Y]:=Ll Y;refine Qj<|Qg<|Qh<|Qd<|xig zc ((hX.ext H).ext J).arr O O Y λaA hA=>?_;refine Zs (qx[k]'Y) λq hq=>?_;rw[hq] at hA h7 h8;have hp:=((hX.ext H).ext J).each q h7
 refine x (QQ hA O O)<|xl O<|Qu (us:=[.string .empty,nS]) O λb7 w4 hr hs ht=>xl O<|Qq (us:=ZJ q) ht O O O O ⟨O,hp.one,La⟩ λw5 hu hv=>xe ?_;have hg:Step [] wA w5:=hr.then1 hu hs;refine Qx<|Qb<|x (Qo hv O O)<|xl O<|xf<|(Qb5 w5).mono ?_;rintro r6 w6 ⟨hw,E,rfl,hD,hy⟩;refine xl rfl<|QL (us:=[[(Cd.ex E q).val]]) O O (by decide) (by simp) ⟨rfl,rfl,La⟩ λhE w7 hh hF hz=>?_
 have G:=(hg.trans hw).trans hh;have hG:=(J.trans G).size;have hH:=hg.size;refine xl rfl<|QZ (news:=[(Cd.ex E q).val]) (L:=[]) (Qt Z.own G) O O O (hz.at (by simp)) (by simp[Cd.val,Value.oneCell']) (by omega) (by omega) λv8 w8 h0 hl h1 =>
  Qf ?_
 have hge:=Qm Z.own;have h2:=Z.add (c:=Cd.ex E q) G (QX.ext hy hh) (by show _≤E;omega) h0 hl h1;have h3:Step [] S w8:=(J.trans G).then hl (λb hb=>.inr (hge b hb).1);refine Qx<|QN O O<|Qb<|xe ?_;exact ⟨(k+1,v8,cds++[Cd.ex E q]),by simp only[];omega,⟨O,O,La⟩,Y,h3,h2,by simp only[];rw[LA,ha,h8];simp[Cd.src]⟩
theorem Qme {gp:Nat}{fn:Func}[Fu prog gp fn] {cap:LV}{q:Cd→Bool}{L:LN}{w:World}{v:Value}{l:List Cd}(h:Zz L w.heap v l.length 1 (l.flatMap Uu))
  (hk:∀e∈l,∀(G:World),Step [] w G→QM prog gp ([e.val]++cap) G λr w'=>r=.bool (q e)∧Step [] G w') :
  QM prog 207 [v,.func (.func gp) #[] cap.toArray] w λr w'=>r=.int .i64 (fix q 0 l)∧Step [] w w':=by
 have hc:=h.le;refine QM.of_W func207 O ntmps207 results207 (by simp) ?_;refine Qd<|Qf<|Qg<|Qd<|Qb<|x (Qw h O)<|Qb<|xe<|Qh<|QC (α:=Nat) [(4,5),(8,18)] (λz=>[(8,.int .i64 z)]) (λz w'=>z≤l.length∧Step [] w w'∧fix q z (l.drop z)=fix q 0 l) (λz=>l.length - z) (by rfl) 0 Lb
  ⟨Lm _,Step.refl _ _,O⟩ ?_
 rintro k g G ⟨hk1,H,E⟩;refine Qd<|x (QD O O)<|xe<|Qg<|QI O (λS=>?_) (λS=>?_)
 ·refine Qy ?_;have ha:l.length≤k:=by have hb:¬(k:Int)<(l.length:Int):=S;omega
  rw[Lr ha] at E;refine Qd<|Qf ?_;exact Qs ⟨[_],Lb,by rw[←E];rfl,H⟩
 have J:k<l.length:=by have hb:(k:Int)<(l.length:Int):=S;omega
 rw[Q9 J,Z3] at E;have V:=Lj J;refine Qj<|Qg<|Qh<|Qd<|Qb<|Qf<|Qd<|Qb<|Qb<|Qb<|xig QmA (h.ext H) O O J λhf Y=>?_;refine Zs (l[k]'J) λe he=>?_;rw[he] at Y E V;refine x (Qv Y O)<|xl O<|xc (first:=[]) (capt:=cap) O<|(hk e V G H).mono ?_;rintro r2 w2 ⟨rfl,Z⟩;refine xe<|Q8 rfl (λU=>?_) (λU=>?_)
 ·rw[if_pos U] at E;refine Qd<|Qb<|Qf ?_;exact Qs ⟨[_],Lb,by rw[←E];rfl,H.trans Z⟩
 rw[if_neg (by rw[U];decide)] at E;refine Qj<|Qx<|QN O O<|Qb<|xe ?_;exact ⟨k+1,by omega,Lb,J,H.trans Z,E⟩
theorem QkF {w:World}{c:Cd}{vt:Value}{t:LI}(hc:CdA w.heap c) (ht:QO [] w.heap vt t) (E:c.rg t.length) (G:∀i,i<t.length→0≤cget t i∧cget t i≤4096) :
  ∃g fn cap,c.val=.func (.func g) #[] [cap].toArray∧Fu prog g fn∧QM prog g ([vt]++[cap]) w λr w'=>r=.bool (c.vio t)∧Step [] w w':=by
 cases c with
 | ex b q=>exact ⟨_,_,_,O,inferInstance,Qkv hc.1 hc.2 ht E⟩
 | co b q=>exact ⟨_,_,_,O,inferInstance,Qku hc.1 hc.2 ht E.1 E.2 G⟩
theorem Qgr {w:World}{bt:Nat}{c:Cd}{vt:Value}{t:LI}(E:QX w.heap bt 37 [vt]) (hc:CdA w.heap c) (ht:QO [] w.heap vt t) (G:c.rg t.length) (H:∀i,i<t.length→0≤cget t i∧cget t i≤4096) :
  QM prog 208 ([c.val]++[.pointer (some ⟨bt,0,none⟩)]) w λr w'=>r=.bool (c.vio t)∧Step [] w w':=by
 obtain ⟨gq,fn,cap,J,U,hcall⟩:=QkF hc ht G H;rw[J];refine QM.of_W func208 O ntmps208 results208 (by simp) ?_;refine Qd<|Qf<|Qd<|Qb<|x (Qc E O O)<|xl O<|xc (g:=gq) (fn:=fn) (first:=[]) (capt:=[cap]) O<|hcall.mono ?_;rintro V Y ⟨rfl,S⟩;refine Qf ?_;exact Qs ⟨[_],Lb,O,S⟩
theorem Qbe {L:LN}{w:World}{v vt:Value}{cds:List Cd}{t:LI}(h:Zz L w.heap v cds.length 1 (cds.flatMap Uu)) (hc:∀c∈cds,CdA w.heap c) (ht:QO [] w.heap vt t) (H:∀c∈cds,c.rg t.length) (J:∀i,i<t.length→0≤cget t i∧cget t i≤4096) :
  QM prog 149 [v,vt] w λr w'=>r=.int .i64 (fix (Cd.vio t) 0 cds)∧Step [] w w':=by
 refine QM.of_W func149 O ntmps149 results149 (by simp) ?_;refine Qd<|xl O<|QS (us:=[vt]) ht.cells λb3 V G Y S=>Qf<|Qd<|Qb<|x ZF<|xl O<|xf<|(Qme (q:=Cd.vio t) (cap:=[.pointer (some ⟨b3,0,none⟩)]) (h.ext G) (λc hm U E=>Qgr (S.ext E) (((hc c hm).ext G).ext E) ((ht.ext G).ext E) (H c hm) J)).mono ?_;rintro r2 U ⟨rfl,E⟩;refine Qf ?_;exact Qs ⟨[_],Lb,O,G.trans E⟩
theorem QiC {w:World}{vs vx vk vt:Value}{sz t:LI}(H:QO [] w.heap vs sz) (ht:QO [] w.heap vt t) (h:QkY sz t) :
  QM prog 206 [.agg #[vs,vx,vk],vt] w λr w'=>r=.int .i64 0∧Step [] w w':=by
 have he:=ht.le;have h0:=h.1;refine QM.of_W func206 O ntmps206 results206 (by simp) ?_;refine Qd<|xl O<|QS (us:=[vs,vx,vk]) O λb2 V E hf J=>Qf<|Qg<|Qd<|Qb<|x (Qw (ht.ext E) O)<|x (Qa O)<|x (Qc J O O)<|x (Qw (H.ext E) O)<|x (Zj O O) <|
  xe ?_
 refine QI rfl (λS=>?_) (λS=>?_)
 ·refine Qj<|Qg<|Qd<|Qb<|x (Qw (ht.ext E) O)<|Qb<|xe<|Qh<|QC (α:=Nat) [(4,6),(15,31)] (λz=>[(15,.int .i64 z)]) (λz w'=>z≤t.length∧w'=V) (λz=>t.length - z) (by rfl) 0 Lb ⟨Lm _,O⟩ ?_;rintro k g Y ⟨hk,rfl⟩;refine Qd<|x (QD O O)<|xe<|Qg<|QI O (λU=>?_) (λU=>?_)
  ·refine Qy<|Qd<|Qf ?_;exact Qs ⟨[_],Lb,O,E⟩
  have G:k<t.length:=by have hg:(k:Int)<(t.length:Int):=U;omega
  have hb:=h.2 k G;refine Qj<|Qg<|Qh<|Qd<|Qb<|xic (i:=k) (ht.ext E) O O G λhh Z=>x (Qv Z O)<|x Qe<|Qf<|Q0 (α:=Unit) [(20,30)] (λz=>[(30,.bool false)]) (λz w'=>w'=Y) (by rfl) ?_ ?_
  ·refine Qx<|Qb<|xb (QD O O) (λha=>by omega) (λha=>?_);refine Qb<|Qb<|x (Qa O)<|x (Qc J O O)<|Qb<|xic (i:=k) (H.ext E) O O (by omega) λhj hc=>x (Qv hc O) <|
    x (Yg rfl O)<|x (Qp O)<|xe ?_
   exact ⟨(),⟨congrArg Value.bool (decide_eq_false (by omega)),La⟩,O⟩
  rintro _ g w3 rfl;refine ZW O ?_;refine Qj<|Qx<|QN O O<|Qb<|xe ?_;exact ⟨k+1,by omega,Lb,G,O⟩
 exact absurd (show (t.length:Int)=(sz.length:Int) by omega) S
theorem jh {w:World}{vs vx vk vt:Value}{sz t:LI}{qx:List XV}{ks:List KV}(H:QO [] w.heap vs sz) (V:Xcs [] w.heap vx qx) (Y:yP [] w.heap vk ks) (ht:QO [] w.heap vt t) (hc:YT sz (qx.map (·.x)) (ks.map (·.k))=0) (h:QkY sz t) :
  QM prog 148 [.agg #[vs,vx,vk],vt] w λr w'=>r=.int .i64 0∧Step [] w w':=by
 refine QM.of_W func148 O ntmps148 results148 (by simp) ?_;refine Qd<|xl O<|QS (us:=[vs,vx,vk]) O λb2 w1 E ha J=>Qf<|Qg<|Qd<|x (Qo J O O)<|xl O<|xf<|(yl (H.ext E) (V.ext E) (Y.ext E)).mono ?_;rintro r2 w2 ⟨S,U⟩;rw[hc] at S;subst S;refine Qf<|Qd<|Qb<|x (Zj O O)<|xe<|ZW rfl ?_;refine Qj ?_;have G:=E.trans U
 refine Qd<|x (Qo (J.ext U) O O)<|Qb<|xl O<|xf<|(QiC (H.ext G) (ht.ext G) h).mono ?_;rintro r3 w3 ⟨rfl,Z⟩;refine Qf ?_;exact Qs ⟨[_],Lb,O,G.trans Z⟩
def yQ (qx:List Exc) (ks:List Kh) (t:LI):Int×Int×Bool :=
 if 0≤fix (VJ t) 0 qx then (1,fix (VJ t) 0 qx,true) else if 0≤fix (UF t) 0 ks then (2,fix (UF t) 0 ks,true) else (0,0,false)
theorem Qkr {cds:List Cd}{qx:List XV}{ks:List KV}(t:LI) (h:cds.map Cd.src=qx.map Sum.inl++ks.map Sum.inr) :
  fix (Cd.vio t) 0 cds=if 0≤fix (VJ t) 0 (qx.map (·.x)) then fix (VJ t) 0 (qx.map (·.x)) else if 0≤fix (UF t) 0 (ks.map (·.k)) then fix (UF t) 0 (ks.map (·.k))+qx.length else -1:=by
 have h1:fix (Cd.vio t) 0 cds=fix (Qft t) 0 (cds.map Cd.src):=(Vl (Qft t) Cd.src cds 0).symm;rw[h1,h,yg,Vl,Lo,jQ,Vl (Qft t) Sum.inr ks 0];have e1:fix (λa=>Qft t (Sum.inl a)) 0 qx=fix (VJ t) 0 (qx.map (·.x)):=(Vl (VJ t) XV.x qx 0).symm;have e2:fix (λa=>Qft t (Sum.inr a)) 0 ks=fix (UF t) 0 (ks.map (·.k)):=(Vl (UF t) KV.k ks 0).symm;rw[e1,e2]
theorem Qlw {P:Int×Int×Bool}{a b:Int}{c:Bool}(h:P=(a,b,c)):(Value.tuple #[.int .i64 a,.int .i64 b,.bool c,.int .i64 0])=.tuple #[.int .i64 P.1,.int .i64 P.2.1,.bool P.2.2,.int .i64 0]:=by rw[h]
set_option maxHeartbeats 4000000 in
theorem QcJ {w:World}{vs vx vk vt:Value}{sz t:LI}{qx:List XV}{ks:List KV}(hS:QO [] w.heap vs sz) (J:Xcs [] w.heap vx qx) (Z:yP [] w.heap vk ks) (ht:QO [] w.heap vt t) (hc:YT sz (qx.map (·.x)) (ks.map (·.k))=0) (h:QkY sz t) :
  QM prog 73 [.agg #[vs,vx,vk],vt] w λr w'=>Step [] w w'∧r=.tuple #[.int .i64 (yQ (qx.map (·.x)) (ks.map (·.k)) t).1,.int .i64 (yQ (qx.map (·.x)) (ks.map (·.k)) t).2.1,.bool (yQ (qx.map (·.x)) (ks.map (·.k)) t).2.2,.int .i64 0]:=by
 have S:=Qcw hc;have hp:qx.length≤32:=by have:=S.xl;simpa using this
 have hs:ks.length≤32:=by have:=S.kl;simpa using this
 refine QM.of_W func73 O ntmps73 results73 (by simp) ?_;refine Qd<|xl O<|QS (us:=[vs,vx,vk]) O λb2 w1 U h4 hg=>x Qe<|x Qe<|x Qe<|Qf<|Qg<|Qd<|x (Qo hg O O)<|Qb<|xl O<|xf<|(jh (hS.ext U) (J.ext U) (Z.ext U) (ht.ext U) hc h).mono ?_;rintro r2 w2 ⟨rfl,hh⟩;refine Qf<|Qd<|Qb<|x (Zj O O)<|xe<|ZW rfl ?_;refine Qj ?_;have ha:=U.trans hh;have hj:=hg.ext hh
 refine Qd<|x (Qo hj O O)<|xl O<|xf<|(Qis (J.ext ha) (Z.ext ha) hp hs).mono ?_;rintro r3 w3 ⟨hk,cds,hL,hb⟩;have Y:=ha.trans hk;have h5:cds.length=qx.length+ks.length:=by have:=congrArg List.length hb;simpa using this
 have hu:∀i,i<t.length→0≤cget t i∧cget t i≤4096:=λi hi=>by
  have h1:=h.2 i hi;have h2:i<sz.length:=by rw[←h.1];exact hi
  have h3:=S.s _ (Lj h2);rw[Q5 h2] at h3;omega
 have hl:∀c∈cds,c.src∈qx.map Sum.inl++ks.map Sum.inr:=λc hm=>by rw[←hb];exact LX hm
 have hv:∀c∈cds,CdA w3.heap c:=λc hm=>by
  have h1:=hl c hm;have h2:=(hL.bx c hm).1;cases c with
  | ex b q =>
   have hq:q∈qx:=by simpa[Cd.src] using h1
   exact ⟨h2,(J.each q hq).ext Y⟩
  | co b q =>
   have hq:q∈ks:=by simpa[Cd.src] using h1
   exact ⟨h2,(Z.each q hq).ext Y⟩
 have hw:∀c∈cds,c.rg t.length:=λc hm=>by
  have h1:=hl c hm;rw[h.1];cases c with
  | ex b q =>
   have hq:q∈qx:=by simpa[Cd.src] using h1
   exact S.x q.x (LX hq)
  | co b q =>
   have hq:q∈ks:=by simpa[Cd.src] using h1
   exact S.k q.k (LX hq)
 have hy:=Qkr t hb;have g1:=Qds (VJ t) (qx.map (·.x)) 0;have g2:=Qds (UF t) (ks.map (·.k)) 0;simp only[List.length_map] at g1 g2;refine Qb<|xl O<|xf<|(Qbe (QW (L:=[]) hL.own (by omega) (by simp)) hv (ht.ext Y) hw hu).mono ?_;rintro r4 w4 ⟨rfl,hn⟩;rw[hy];have V:=Y.trans hn;refine Zs (yQ (qx.map (·.x)) (ks.map (·.k)) t) λP G=>?_;rw[G];unfold yQ at G
 refine Zs (fix (VJ t) 0 (qx.map (·.x))) λH he=>?_;refine Zs (fix (UF t) 0 (ks.map (·.k))) λi2 hf=>?_;rw[he,hf] at G;rw[he] at g1;rw[hf] at g2;refine Zs (if 0≤H then H else if 0≤i2 then i2+(qx.length:Int) else -1) λr E=>?_
 rw[he,hf,E];refine Qf<|Qh<|Qd<|Qb<|x (QD O O)<|Qf<|Zc O (λhz=>?_) (λhz=>?_)
 ·have n1:¬0≤H:=λh=>by rw[if_pos h] at E;omega
  have n2:¬0≤i2:=λh=>by rw[if_neg n1,if_pos h] at E;omega
  refine Qd<|x Qe<|x Qe<|x Qe<|Qf ?_;exact Qs ⟨[_,_,_,_],⟨O,O,O,O,La⟩,V,Qlw (by rw[←G,if_neg n1,if_neg n2])⟩
 have ho:=(hj.ext hk).ext hn;refine Qd<|Qb<|x (Qa O)<|x (Qc ho O O)<|x (Qw (J.ext V).arr O)<|x (QD O O)<|Qf<|Zc O (λh0=>?_) (λh0=>?_)
 ·have p1:0≤H:=by
   refine Lt.1 λn1=>?_;by_cases h:0≤i2
   ·rw[if_neg n1,if_pos h] at E;omega
   rw[if_neg n1,if_neg h] at E;omega
  have e:r=H:=by rw[if_pos p1] at E;exact E.symm
  refine Qd<|Qb<|x Qe<|x Qe<|x Qe<|Qf ?_;exact Qs ⟨[_,_,_,_],⟨O,O,O,O,La⟩,V,Qlw (by rw[←G,if_pos p1,e])⟩
 have n1:¬0≤H:=λh=>by rw[if_pos h] at E;omega
 have p2:0≤i2:=by
  refine Lt.1 λn2=>?_;rw[if_neg n1,if_neg n2] at E;omega
 have e:r - (qx.length:Int)=i2:=by rw[if_neg n1,if_pos p2] at E;omega
 refine Qg<|QV (Step [] w4) [(0,true),(1,true),(2,true),(3,true),(4,true),(5,true),(6,true),(7,true),(8,true)] mixed (by rfl) (by kernel_rfl) (Step.drew _ _) ?_;refine p (λ_=>Ql)<|p (λ_=>Qa O)<|pq (λ_ hc=>Qc (ho.ext hc) O O)<|p (λ_=>Qw (J.ext V).arr O) <|
  p (λ_=>JF O O ⟨by omega,by omega⟩)<|p (λ_=>Qe)<|p (λ_=>Qe)<|p (λ_=>Qe)<|p (λ_=>Qe) <|
  pe ?_
 exact Qs ⟨[_,_,_,_],⟨O,O,O,O,La⟩,V.trans (Step.drew _ _),Qlw (by rw[←G,if_neg n1,if_pos p2,←e])⟩
def Yy (base:Nat) (av:LN) (H:Array Obj) (v:Value) (n sz:Nat) (cs:LV):Prop:=∀L:LN,(∀b∈L,b<base∨b∈av)→Zz L H v n sz cs
theorem Yy.ext {base:Nat}{av:LN}{w w':World}{v:Value}{n sz:Nat}{cs:LV}(h:Yy base av w.heap v n sz cs) (hs:Step [] w w'):Yy base av w'.heap v n sz cs:=λL E=>(h L E).ext hs
theorem Yy.app {base:Nat}{av E:LN}{w w':World}{v:Value}{n sz:Nat}{cs:LV}(h:Yy base av w.heap v n sz cs) (hs:Step av w w') (G:∀b∈E,b∈av∨w.heap.size≤b):Yy base E w'.heap v n sz cs:=by
 intro L H;have h1:Zz (av++L.filter λb=>decide (b<base)) w.heap v n sz cs:=h _ (λb hb=>by
  rcases Lp.1 hb with hb | hb
  ·exact .inr hb
  exact .inl (by simpa using (LH.1 hb).2))
 refine h1.grow hs (λb hb=>Lp.2 (.inl hb)) λb hb=>?_;rcases H b hb with h2 | h2
 ·exact .inl (Lp.2 (.inr (LH.2 ⟨hb,by simpa using h2⟩)))
 rcases G b h2 with h3 | h3
 ·exact .inl (Lp.2 (.inl h3))
 exact .inr h3
theorem Yy.of_own {base N:Nat}{av:LN}{w:World}{v:Value}{e n sz:Nat}{cs:LV}(h:w.ownsRow N e sz v n cs) (E:n≤1099511627776) (hb:base≤N) (G:∀b∈av,b<N):Yy base av w.heap v n sz cs:=λL H =>
 QW h E λb hb J=>by
  have h1:=(Qm h b hb).1;rcases H b J with h2 | h2
  ·omega
  have:=G b h2;omega
structure Kf {α:Type}(g:α→LV) (sz T:Nat) (p:α→Value×Nat×Nat×LV) (base:Nat) (w:World) (v:Value) (l:List α):Prop where
 own:w.ownsRow base T sz v l.length (l.flatMap g)
 each:∀q∈l,Yy base (ob v) w.heap (p q).1 (p q).2.1 (p q).2.2.1 (p q).2.2.2
theorem Kf.nil {α:Type}{g:α→LV}{sz T:Nat}{p:α→Value×Nat×Nat×LV}{base:Nat}{w:World}:Kf g sz T p base w (nS) []:=⟨QR _ _ _ _,λq hq=>by cases hq⟩
theorem Kf.app {α:Type}{g:α→LV}{sz T:Nat}{p:α→Value×Nat×Nat×LV}{base N e:Nat}{w E G:World}{v H:Value}{l:List α}{q:α}(h:Kf g sz T p base w v l) (hs:Step [] w E)
  (hq:E.ownsRow N e (p q).2.2.1 (p q).1 (p q).2.1 (p q).2.2.2) (U:(p q).2.1≤1099511627776) (Z:w.heap.size≤N) (hb:base≤w.heap.size)
  (V:G.ownsRow base T sz H (l.length+1) (l.flatMap g++g q)) (J:Step (ob v) E G) (S:∀b∈ob H,b∈ob v∨E.heap.size≤b):Kf g sz T p base G H (l++[q]):=by
 have Y:=QY h.own;refine ⟨?_,λd hd=>?_⟩
 ·rw[Lk,LL];simpa using V
 rcases Lp.1 hd with hd | hd
 ·exact ((h.each d hd).ext hs).app J S
 simp only[List.mem_singleton] at hd;subst hd;exact (Yy.of_own hq U (by omega) (λb hb=>by have:=Y b hb;omega)).app J S
theorem Qjd {L L':LN}{w:World}{va vm ve hb hc he:Value}{a b:QE}(h:Zi L w.heap va vm ve a) (h':Zi L' w.heap hb hc he b) :
  QM prog 25 [.agg #[va,.int .i64 a.st,vm,ve],.agg #[hb,.int .i64 b.st,hc,he]] w λr w'=>r=.bool (decide (a.st=b.st∧a.al=b.al∧a.mr=b.mr∧a.ed=b.ed))∧Step [] w w':=by
 refine QM.of_W func25 O ntmps25 results25 (by simp) ?_;refine Qd<|xl O<|QS (us:=[va,.int .i64 a.st,vm,ve]) O λb2 w1 hj hn hk=>xl O<|QS (us:=[hb,.int .i64 b.st,hc,he]) O λb3 w2 hf E H=>Qf ?_;have J:=hj.trans hf;have S:=hk.ext hf;refine Q0 (α:=Bool) [(4,30)] (λz=>[(4,.bool z)]) (λz w'=>Step [] w w'∧z=decide (a.st=b.st∧a.al=b.al∧a.mr=b.mr∧a.ed=b.ed)) (by rfl) ?_ ?_
 ·refine Qx<|x (Qa O)<|x (Qc S O O)<|x (Qa O)<|x (Qc H O O)<|xb (Zf O O) (λh9=>?_) (λh9=>?_)
  ·refine Qb<|x (Qa O)<|x (Qc S O O)<|x (Qa O)<|x (Qc H O O)<|xl O<|xf<|(UU (h.al.ext J) (h'.al.ext J)).mono ?_;rintro r3 w3 ⟨U,V⟩;have Y:=J.trans V;refine Qid (decide (a.al=b.al)) (λE=>?_) (λE=>?_)
   ·rw[E] at U;subst U;refine x (Qp O)<|Qb<|x (Qa O)<|x (Qc (S.ext V) O O)<|x (Qa O)<|x (Qc (H.ext V) O O)<|xl O<|xf<|(UU (h.mr.ext Y) (h'.mr.ext Y)).mono ?_;rintro r4 w4 ⟨Z,hg⟩;have ha:=Y.trans hg;have hh:=V.trans hg;refine Qid (decide (a.mr=b.mr)) (λG=>?_) (λG=>?_)
    ·rw[G] at Z;subst Z;refine x (Qp O)<|Qb<|x (Qa O)<|x (Qc (S.ext hh) O O)<|x (Qa O)<|x (Qc (H.ext hh) O O)<|xl O<|xf<|(Qf4 (h.ed.ext ha) (h'.ed.ext ha)).mono ?_;rintro r5 w5 ⟨rfl,hl⟩;refine x (Qp O)<|Qf ?_;exact ⟨_,Lb,ha.trans hl,bD ⟨λe=>⟨h9,of_decide_eq_true E,of_decide_eq_true G,e⟩,λe=>e.2.2.2⟩⟩
    rw[G] at Z;subst Z;refine x (Qp O)<|Qb<|xs O<|xs O<|xs O<|xs O<|xs O<|x (Qp O)<|Qf ?_;exact ⟨_,Lb,ha,bF (λe=>of_decide_eq_false G e.2.2.1)⟩
   rw[E] at U;subst U;refine x (Qp O)<|Qb<|xs O<|xs O<|xs O<|xs O<|xs O<|x (Qp O)<|Qb<|xs O<|xs O<|xs O<|xs O<|xs O<|x (Qp O) <|
    Qf ?_
   exact ⟨_,Lb,Y,bF (λe=>of_decide_eq_false E e.2.1)⟩
  refine Qb<|xs O<|xs O<|xs O<|xs O<|xs O<|x (Qp O)<|Qb<|xs O<|xs O<|xs O<|xs O<|xs O<|x (Qp O) <|
   Qb<|xs rfl<|xs O<|xs O<|xs O<|xs O<|x (Qp O)<|Qf ?_
  exact ⟨_,Lb,J,bF (λe=>h9 e.1)⟩
 rintro z g w6 ⟨hm,rfl⟩;exact Qs ⟨[_],Lb,O,hm⟩
theorem Qi9 {L:LN}{w:World}{va vm ve:Value}{a:QE}(h:Zi L w.heap va vm ve a) :
  QM prog 163 [.agg #[va,.int .i64 a.st,vm,ve]] w λr w'=>r=.bool (KY a)∧Step [] w w':=by
 refine QM.of_W func163 O ntmps163 results163 (by simp) ?_;refine Qd<|xl O<|QS (us:=[va,.int .i64 a.st,vm,ve]) O λb1 E ha hf G=>Qf<|Q0 (α:=Bool) [(2,11)] (λz=>[(2,.bool z)]) (λz w'=>Step [] w w'∧z=KY a) (by rfl) ?_ ?_
 ·refine QV (Step [] E) [(0,true),(1,false),(2,true),(3,true),(4,true),(5,true),(6,false),(7,false),(8,true),(9,true)] mixed (by rfl) (by kernel_rfl) (Step.drew _ _) ?_;have U:=ha.trans (Step.drew [] E);refine pq (λ_ hc=>Qo (G.step hc (by simp)) rfl rfl)<|pk<|xf<|(Xk (h.ext U)).mono ?_;rintro r2 w2 ⟨rfl,V⟩;have H:=U.trans V;have J:=(Step.drew [] E).trans V
  refine ⟨J,?_⟩;refine pb (λ_=>Zf O O) (λh5=>?_) (λh5=>?_)
  ·have hc:XW a=0:=h5;refine p (λ_=>Ql)<|pq (λ_ hc=>Qo (G.step hc (by simp)) rfl rfl)<|pq (λ_ hc=>Qo (G.step hc (by simp)) rfl rfl) <|
    pk<|xf<|(Uv (h.ext H) ((Zp a).1 hc)).mono ?_
   rintro r3 w3 ⟨S,hg,hh,hj,rfl,hb⟩;have Y:=H.trans S;refine ⟨J.trans S,?_⟩;refine pk<|xf<|(Qjd (h.ext Y) (hb [] (by simp))).mono ?_;rintro r4 w4 ⟨rfl,Z⟩;refine ⟨(J.trans S).trans Z,?_⟩;refine p (λ_=>Qp O)<|p (λ_=>Qe)<|pe ?_;refine ⟨_,Lb,Y.trans Z,?_⟩;unfold KY;rw[decide_eq_true hc,NA]
   exact bD ⟨λe=>⟨e.1.symm,e.2.1.symm,e.2.2.1.symm,e.2.2.2.symm⟩,λe=>⟨e.1.symm,e.2.1.symm,e.2.2.1.symm,e.2.2.2.symm⟩⟩
  have hc:¬XW a=0:=h5;refine p (λ_=>Ql)<|ps<|ps<|ps<|ps<|p (λ_=>Qp O)<|p (λ_=>Qe)<|pe ?_;exact ⟨_,Lb,H,by unfold KY;rw[decide_eq_false hc];rfl⟩
 rintro z g w5 ⟨he,rfl⟩;exact Qs ⟨[_],Lb,O,he⟩
section
variable {P:Program} {f:Fr} {w:World} {d:Option Nat} {ty:Nat} {ps:String} {af:Array Edge} {gd:Option (Nat×Bool)}
theorem Xd {t sz:Nat}[Ag P t sz] {x:Operand}{b T o:Nat}{cs us:LV}(h:QX w.heap b T cs) (hx:ev f x=.pointer (some ⟨b,o,none⟩)) (hl:us.length=sz) (hu:(cs.drop o).take sz=us) :
  (execOp (ev f) ⟨d,.load t x,ty,ps,af,gd⟩).run P w=.ok (.value (.agg us.toArray)) w:=qR hx hl λj v E=>by
 rw[XN,Ji,h.cell];rw[←hu,Ma] at E;split at E
 ·simpa using E
 cases E
end
theorem Qdo {L:LN}{w:World}{v:Value}{qs:List IV}(h:U7 L w.heap v qs) :
  QM prog 75 [v] w λr w'=>Step [] w w'∧w'.ownsRow w.heap.size 58 4 r (qs.map (·.p)).length ((qs.map (·.p)).flatMap Zg):=by
 have hr:=h.arr.le;refine QM.of_W func75 O ntmps75 results75 (by simp) ?_;refine Qd<|Qf<|Qd<|Qf<|Qg<|Qd<|Qb<|x (Qw h.arr O)<|Qb<|xe<|Qh<|QC (α:=Nat×Value) [(3,3),(5,5),(8,17)] (λz=>[(3,z.2),(8,.int .i64 z.1)]) (λz w'=>z.1≤qs.length∧Step [] w w'∧w'.ownsRow w.heap.size 58 4 z.2 z.1 (((qs.take z.1).map (·.p)).flatMap Zg)) (λz=>qs.length - z.1) (by rfl) (0,nS) ⟨O,O,La⟩
  ⟨Lm _,Step.refl _ _,QR _ _ _ _⟩ ?_
 rintro ⟨k,vo⟩ g w1 ⟨hk,H,J⟩;simp only[] at hk J;refine Qd<|x (QD O O)<|xe<|Qg<|QI O (λU=>?_) (λU=>?_)
 ·refine Qy ?_;have he:k=qs.length:=by have S:¬(k:Int)<(qs.length:Int):=U;omega
  subst he;rw[Lq (Lv _)] at J;refine Qd<|Qb<|Qf ?_;exact Qs ⟨[_],Lb,H,by rw[Lo];exact J⟩
 have E:k<qs.length:=by have S:(k:Int)<(qs.length:Int):=U;omega
 have Z:=Lj E;have ha:qs.take (k+1)=qs.take k++[qs[k]'E]:=Ll E;refine Qj<|Qg<|Qh<|Qd<|xig US (h.arr.ext H) O O E λhs S=>?_;refine Zs (qs[k]'E) λq hq=>?_;rw[hq] at S Z ha;have G:=h.each q Z
 refine x (QQ S O O)<|xl O<|Qu (us:=[.string .empty,nS,.int .i64 0,nS,nS]) O λb5 w2 hf hg V=>xl O<|Qq (us:=Z5 q) V O O O O ⟨O,G.al.one,O,G.mr.one,G.ed.one,La⟩ λw3 hh V =>
  xe ?_
 have hj:Step [] w1 w3:=hf.then1 hh hg;refine Qx<|Qb<|x (Qa O)<|x (Xd (us:=Zg q.p) V O O O)<|xl O<|QL (us:=[Zg q.p]) O O (by decide) (by simp) ⟨rfl,rfl,La⟩ λb15 w4 hl ht hm=>?_;have Y:=hj.trans hl;have hc:=Qt J Y;have hv:=(H.trans Y).size;have hn:∀u∈Zg q.p,u.oneCell'=true:=by
  intro u hu;simp only[List.mem_cons,List.not_mem_nil,or_false] at hu;rcases hu with rfl | rfl | rfl | rfl
  ·exact G.al.one
  ·rfl
  ·exact G.mr.one
  exact G.ed.one
 refine xl rfl<|QZ (news:=Zg q.p) (L:=[]) hc O O O (hm.at (by simp)) hn (by omega) (by omega) λv5 w5 ho hp hw=>Qf ?_;have hge:=Qm hc;refine Qx<|QN O O<|Qb<|xe<|⟨(k+1,v5),by simp only[];omega,⟨O,O,La⟩,E,(H.trans Y).then hp (λb hb=>.inr (hge b hb).1),?_⟩;simp only[];rw[ha,LA,LL];simpa using ho
theorem QhP {L:LN}{w:World}{r:Value}{base e:Nat}{ps:List AV}(h:w.ownsRow base e 4 r ps.length (ps.flatMap Zg)) (E:ps.length≤1099511627776) (G:∀b∈L,b<base) (he:∀p∈ps,Zi L w.heap p.va p.vm p.ve p.a):JA L w.heap r ps :=
 ⟨QW h E (λb hb H=>by have:=(Qm h b hb).1;have:=G b H;omega),he⟩
theorem QhO {w:World}{b:Nat}{n m:Int}(E:QX w.heap b 3 [.int .i64 m]) :
  QM prog 164 ([.int .i64 n]++[.pointer (some ⟨b,0,none⟩)]) w λr w'=>r=.bool (decide (m≤n))∧Step [] w w':=by
 refine QM.of_W func164 O ntmps164 results164 (by simp) ?_;refine Qd<|Qf<|Qd<|Qb<|x (Qc E O O)<|x (Yg O O)<|Qf ?_;exact Qs ⟨[_],Lb,O,Step.refl _ _⟩
abbrev Uf (n:Int):LV:=[.int .i64 n]
theorem Qmg (n:Int):(Uf n).length=1:=rfl
theorem Qlg:∀l:LI,l.flatMap Uf=l.map (.int .i64)
 | []=>rfl
 | a::l=>by rw[LM,Qlg l];rfl
theorem QO.fl {L:LN}{H:Array Obj}{v:Value}{l:LI}(h:QO L H v l):Zz L H v l.length 1 (l.flatMap Uf):=by
 rw[Qlg l];exact h
theorem QhN {gp:Nat}{fn:Func}[Fu prog gp fn] {cap:LV}{q:Int→Bool}{L:LN}{w:World}{v:Value}{l:LI}(h:Zz L w.heap v l.length 1 (l.flatMap Uf))
  (hk:∀e∈l,∀(G:World),Step [] w G→QM prog gp ([.int .i64 e]++cap) G λr w'=>r=.bool (q e)∧Step [] G w') :
  QM prog 131 [v,.func (.func gp) #[] cap.toArray] w λr w'=>r=.int .i64 (fix q 0 l)∧Step [] w w':=by
 have hc:=h.le;refine QM.of_W func131 O ntmps131 results131 (by simp) ?_;refine Qd<|Qf<|Qg<|Qd<|Qb<|x (Qw h O)<|Qb<|xe<|Qh<|QC (α:=Nat) [(4,5),(8,18)] (λz=>[(8,.int .i64 z)]) (λz w'=>z≤l.length∧Step [] w w'∧fix q z (l.drop z)=fix q 0 l) (λz=>l.length - z) (by rfl) 0 Lb
  ⟨Lm _,Step.refl _ _,O⟩ ?_
 rintro k g G ⟨hk1,H,E⟩;refine Qd<|x (QD O O)<|xe<|Qg<|QI O (λS=>?_) (λS=>?_)
 ·refine Qy ?_;have ha:l.length≤k:=by have hb:¬(k:Int)<(l.length:Int):=S;omega
  rw[Lr ha] at E;refine Qd<|Qf ?_;exact Qs ⟨[_],Lb,by rw[←E];rfl,H⟩
 have J:k<l.length:=by have hb:(k:Int)<(l.length:Int):=S;omega
 rw[Q9 J,Z3] at E;have V:=Lj J;refine Qj<|Qg<|Qh<|Qd<|Qb<|Qf<|Qd<|Qb<|Qb<|Qb<|xig Qmg (h.ext H) O O J λhf Y=>?_;refine Zs (l[k]'J) λe he=>?_;rw[he] at Y E V;refine x (Qv Y O)<|xl O<|xc (first:=[]) (capt:=cap) O<|(hk e V G H).mono ?_;rintro r2 w2 ⟨rfl,Z⟩;refine xe<|Q8 rfl (λU=>?_) (λU=>?_)
 ·rw[if_pos U] at E;refine Qd<|Qb<|Qf ?_;exact Qs ⟨[_],Lb,by rw[←E];rfl,H.trans Z⟩
 rw[if_neg (by rw[U];decide)] at E;refine Qj<|Qx<|QN O O<|Qb<|xe ?_;exact ⟨k+1,by omega,Lb,J,H.trans Z,E⟩
theorem Qmz {gp:Nat}{fn:Func}[Fu prog gp fn] {cap:LV}{q:Int→Bool}{L:LN}{w:World}{v:Value}{l:LI}(h:Zz L w.heap v l.length 1 (l.flatMap Uf))
  (hk:∀e∈l,∀(E:World),Step [] w E→QM prog gp ([.int .i64 e]++cap) E λr w'=>r=.bool (q e)∧Step [] E w') :
  QM prog 135 [v,.func (.func gp) #[] cap.toArray] w λr w'=>r=.bool (l.any q)∧Step [] w w':=by
 refine QM.of_W func135 O ntmps135 results135 (by simp) ?_;refine Qd<|Qf<|Qd<|Qb<|Qb<|xl O<|xf<|(QhN h hk).mono ?_;rintro H E ⟨rfl,G⟩;refine x (Yg O O)<|Qf ?_;exact Qs ⟨[_],Lb,congrArg Value.bool (QaK q l 0),G⟩
theorem QeN {L L':LN}{w:World}{q:IV}{nev:Nat}{vg:Value}{amg:LI}{bm:Nat}{seen:List ByteArray}(hA:Zi L w.heap q.p.va q.p.vm q.p.ve q.p.a) (h2:nmB q.nm) (hg:QO L' w.heap vg amg) (hF:amg.length≤4096) (hm:ZE Jp w.heap bm (nmM seen)) (h3:bm∈L) (h4:bm∈L') :
  QM prog 95 [.agg (Z5 q).toArray,.int .i64 nev,vg,.map (some bm)] w λr w'=>r=.int .i64 (Yj nev amg seen q.it)∧Step [bm] w w'∧(Yj nev amg seen q.it=0→ZE Jp w'.heap bm (nmM (seen++[q.nm]))):=by
 have E:Yj nev amg seen q.it=(if Y3 q.nm=false then 7 else if q.nm∈seen then 8 else if XW q.p.a≠0 then XW q.p.a else if KY q.p.a=false then 6 else if q.p.a.st=0 then 12 else
  if (q.p.a.al.any λe=>decide ((nev:Int)≤e))=true then 2 else if (mns q.p.a.al amg).length≠0 then 9 else 0):=rfl
 refine Zs (Yj nev amg seen q.it) λR hR=>?_;rw[hR] at E ⊢;refine QM.of_W func95 O ntmps95 results95 (by simp) ?_;refine Qd<|xl O<|QS (us:=Z5 q) O λb4 w1 hu hG h5=>xl O<|QS (us:=[.int .i64 nev]) O λb5 w2 V hH h6=>Qf ?_;have Y:=hu.trans V;have Z:=h5.ext V;refine Qg<|Qh<|Qd<|x (Qa O)<|x (Qc Z O O)<|xl O<|xf<|(U8 q.nm h2 w2).mono ?_;rintro r3 w3 ⟨rfl,rfl⟩
 refine x (Zh O)<|Qf<|Q8 O (λhj=>?_) (λhj=>?_)
 ·have G:Y3 q.nm=false:=by simpa using hj
  rw[if_pos G] at E;subst E;refine Qd<|Qf ?_;exact Qs ⟨[_],Lb,O,Y.any,λe=>absurd e (by decide)⟩
 have G:¬Y3 q.nm=false:=by simpa using hj
 rw[if_neg G] at E;have hv:=hm.ext Y;refine Qd<|Qb<|x (Qa O)<|x (Qc Z O O)<|x (QbC hv O O)<|Qf<|Zc O (λha=>?_) (λha=>?_)
 ·rw[if_pos ha] at E;subst E;refine Qd<|Qf ?_;exact Qs ⟨[_],Lb,O,Y.any,λe=>absurd e (by decide)⟩
 rw[if_neg ha] at E;refine Qj ?_;have hI:=hm.lt;refine Qd<|Qb<|x (Qa O)<|x (Qc Z O O)<|xl O<|Yx (k:=q.nm) hv O O λw4 hk hw=>xe ?_;rw[show ev _ _=Value.bool true from rfl,Qez ha] at hw;have H:Step [bm] w w4:=Y.any.trans' hk;have hJ:=hu.size;have hc:=Z.step hk (by simp;omega);have h7:=h6.step hk (by simp;omega)
 have hf:Zi L w4.heap q.p.va q.p.vm q.p.ve q.p.a:=hA.st (H.mono (λb hb=>by simp at hb;subst hb;exact h3));have h8:QO L' w4.heap vg amg:=hg.st (H.mono (λb hb=>by simp at hb;subst hb;exact h4));refine Qg<|Qd<|x (Qa O)<|x (Xd (us:=Zg q.p) hc O O O)<|xl O<|xf<|(Xk hf).mono ?_;rintro r5 w5 ⟨rfl,hh⟩;refine Qf<|Qd<|Qb<|x (Zj O O)<|xe<|Zc rfl (λJ=>?_) (λJ=>?_)
 ·rw[if_pos J] at E;subst E;refine Qd<|Qb<|Qf ?_;exact Qs ⟨[_],Lb,O,H.trans hh,λe=>absurd e J⟩
 rw[if_neg J] at E;have h9:=(Zp q.p.a).1 (Lt.1 J);refine Qj<|Qg<|Qh<|Qd<|x (Qa O)<|x (Xd (us:=Zg q.p) (hc.ext hh) O O O)<|xl O<|xf<|(Qi9 (hf.ext hh)).mono ?_;rintro r6 w6 ⟨rfl,hB⟩;have S:=hh.trans hB;have hy:=H.trans S;have hz:=hc.ext S;refine x (Zh O)<|Qf<|Q8 O (λhl=>?_) (λhl=>?_)
 ·have G:KY q.p.a=false:=by simpa using hl
  rw[if_pos G] at E;subst E;refine Qd<|Qf ?_;exact Qs ⟨[_],Lb,O,hy,λe=>absurd e (by decide)⟩
 have G:¬KY q.p.a=false:=by simpa using hl
 rw[if_neg G] at E;refine Qd<|x (Qa O)<|x (Qa O)<|x (Qc hz O O)<|x (Zf O O)<|Qf<|Zc O (λho=>?_) (λho=>?_)
 ·have hp:q.p.a.st=0:=ho;rw[if_pos hp] at E;subst E;refine Qd<|Qf ?_;exact Qs ⟨[_],Lb,O,hy,λe=>absurd e (by decide)⟩
 have hp:¬q.p.a.st=0:=ho;rw[if_neg hp] at E;refine Qd<|x (Qa O)<|x (Qa O)<|x (Qc hz O O)<|x ZF<|xl O<|xf<|(Qmz (q:=λe=>decide ((nev:Int)≤e)) (cap:=[.pointer (some ⟨b5,0,none⟩)]) (QO.fl (hf.al.ext S)) (λe he w2 V=>QhO ((h7.ext S).ext V))).mono ?_;rintro r7 w7 ⟨rfl,hC⟩;have U:=S.trans hC;have hD:=H.trans U;refine Qf<|Q8 O (λhq=>?_) (λhq=>?_)
 ·rw[if_pos hq] at E;subst E;refine Qd<|Qf ?_;exact Qs ⟨[_],Lb,O,hD,λe=>absurd e (by decide)⟩
 rw[if_neg (by rw[hq];decide)] at E;have hK:=h9.al_le;refine Qd<|x (Qa O)<|x (Qa O)<|x (Qc (hc.ext U) O O)<|Qb<|xl O<|xf<|(U5 (hf.al.ext U) (h8.ext U) (by omega)).mono ?_;rintro r8 w8 ⟨hE,rfl⟩;have h0:=U.trans hE;have h1:=H.trans h0;refine x (zu O)<|Qf<|Zc O (λhs=>?_) (λhs=>?_)
 ·have ht:(mns q.p.a.al amg).length≠0:=λe=>hs (Ln e);rw[if_pos ht] at E;subst E;refine Qd<|Qf ?_;exact Qs ⟨[_],Lb,O,h1,λe=>absurd e (by decide)⟩
 have ht:¬(mns q.p.a.al amg).length≠0:=λe=>hs (λh=>e (by rw[show mns q.p.a.al amg=[] from h];rfl));rw[if_neg ht] at E;subst E;refine Qj<|Qd<|Qf ?_;exact Qs ⟨[_],Lb,O,h1,λ_=>hw.ext h0⟩
theorem Qgb {L:LN}{w:World}{v:Value}{l:List (Int×Int)}(h:P2s L w.heap v l) :
  QM prog 173 [v] w λr w'=>Step [] w w'∧w'.ownsRow w.heap.size 124 2 r l.length (l.flatMap Za):=by
 have Z:=h.le;refine QM.of_W func173 O ntmps173 results173 (by simp) ?_;refine Qd<|Qf ?_;obtain ⟨ao,cap,E⟩:=h.shape;refine Qg<|Qd<|Qb<|x (Qat (show ev _ _=_ from E) O)<|xe<|Q8 rfl (λh4=>?_) (λh4=>?_)
 ·refine Qd<|Qf<|Qs ⟨[nS],Lb,Step.refl _ _,?_⟩;rcases h.2.2 with ⟨h1,h2⟩ | ⟨a,c,h1,_⟩
  ·have:l=[]:=Ln h2;subst this;exact QR _ _ _ _
  rw[h1] at E;cases E;cases h4
 rcases h.2.2 with ⟨h1,h2⟩ | ⟨a,c,h1,h2,h3⟩
 ·rw[h1] at E;injection E with e1;subst e1;cases h4
 refine Qj<|Qd ?_;have S:∀u∈l.flatMap Za,u.oneCell'=true:=by
  intro u hu;obtain ⟨p,_,hp⟩:=MP.1 hu;simp only[List.mem_cons,List.not_mem_nil,or_false] at hp;rcases hp with rfl | rfl <;> rfl
 refine xl rfl<|Qay λb5 w1 G H J=>Qb<|xl O<|QZ (base:=w.heap.size) (J.own (n:=0) (sz:=2) O (by omega) H) O (show ev _ _=_ from h1) h.1 (h3.ext G) S (by omega) (by have:=J.lt;omega) λU w2 V Y ha=>Qf<|Qs ⟨[U],Lb,G.then1 Y H,?_⟩;simpa[tup] using V
theorem Qga {L:LN}{w:World}{v:Value}{l:List (Int×Int)}(h:P2s L w.heap v l) :
  QM prog 174 [v] w λr w'=>Step [] w w'∧w'.ownsRow w.heap.size 129 2 r l.length (l.flatMap Za):=by
 have Z:=h.le;refine QM.of_W func174 O ntmps174 results174 (by simp) ?_;refine Qd<|Qf ?_;obtain ⟨ao,cap,E⟩:=h.shape;refine Qg<|Qd<|Qb<|x (Qat (show ev _ _=_ from E) O)<|xe<|Q8 rfl (λh4=>?_) (λh4=>?_)
 ·refine Qd<|Qf<|Qs ⟨[nS],Lb,Step.refl _ _,?_⟩;rcases h.2.2 with ⟨h1,h2⟩ | ⟨a,c,h1,_⟩
  ·have:l=[]:=Ln h2;subst this;exact QR _ _ _ _
  rw[h1] at E;cases E;cases h4
 rcases h.2.2 with ⟨h1,h2⟩ | ⟨a,c,h1,h2,h3⟩
 ·rw[h1] at E;injection E with e1;subst e1;cases h4
 refine Qj<|Qd ?_;have S:∀u∈l.flatMap Za,u.oneCell'=true:=by
  intro u hu;obtain ⟨p,_,hp⟩:=MP.1 hu;simp only[List.mem_cons,List.not_mem_nil,or_false] at hp;rcases hp with rfl | rfl <;> rfl
 refine xl rfl<|Qay λb5 w1 G H J=>Qb<|xl O<|QZ (base:=w.heap.size) (J.own (n:=0) (sz:=2) O (by omega) H) O (show ev _ _=_ from h1) h.1 (h3.ext G) S (by omega) (by have:=J.lt;omega) λU w2 V Y ha=>Qf<|Qs ⟨[U],Lb,G.then1 Y H,?_⟩;simpa[tup] using V
theorem Yy.low {base:Nat}{av X:LN}{w w':World}{v:Value}{n sz:Nat}{cs:LV}(h:Yy base av w.heap v n sz cs) (hs:Step X w w') (E:∀b∈X,b<base):Yy base av w'.heap v n sz cs:=by
 intro L G;have h1:Zz (X++L) w.heap v n sz cs:=h _ (λb hb=>by
  rcases Lp.1 hb with hb | hb
  ·exact .inl (E b hb)
  exact G b hb)
 exact (h1.step hs (λb hb=>Lp.2 (.inl hb))).up (λb hb=>.inl (Lp.2 (.inr hb)))
theorem Kf.low {α:Type}{g:α→LV}{sz T:Nat}{p:α→Value×Nat×Nat×LV}{base:Nat}{X:LN}{w w':World}{v:Value}{l:List α}(h:Kf g sz T p base w v l) (hs:Step X w w') (E:∀b∈X,b<base):Kf g sz T p base w' v l :=
 ⟨Qi h.own hs (λb hb hm=>by have:=(Qm h.own b hb).1;have:=E b hm;omega),λq hq=>(h.each q hq).low hs E⟩
theorem Kf.arr {α:Type}{g:α→LV}{sz T:Nat}{p:α→Value×Nat×Nat×LV}{base:Nat}{w:World}{v:Value}{l:List α}{L:LN}(h:Kf g sz T p base w v l) (E:l.length≤1099511627776) (G:∀b∈L,b<base):Zz L w.heap v l.length sz (l.flatMap g) :=
 QW h.own E (λb hb H=>by have:=(Qm h.own b hb).1;have:=G b H;omega)
abbrev xvP (q:XV):Value×Nat×Nat×LV:=(q.v,q.ls.length,2,q.ls.flatMap Za)
abbrev kvP (q:KV):Value×Nat×Nat×LV:=(q.v,q.ts.length,2,q.ts.flatMap Za)
abbrev XvN (base:Nat) (w:World) (v:Value) (l:List XV):Prop:=Kf ZJ 2 122 xvP base w v l
abbrev KvN (base:Nat) (w:World) (v:Value) (l:List KV):Prop:=Kf ZV 3 127 kvP base w v l
theorem XvN.xcs {base:Nat}{w:World}{v:Value}{l:List XV}{qs:List XV}{L:LN}(h:XvN base w v l) (he:l.map (·.x)=qs.map (·.x)) (hq:∀q∈qs,nmB q.nm) (H:l.length≤1099511627776) (E:∀b∈L,b<base):Xcs L w.heap v l:=by
 refine ⟨h.arr H E,λq hq=>h.each q hq L (λb hb=>.inl (E b hb)),λq hm=>?_⟩;have h1:q.x∈qs.map (·.x):=by rw[←he];exact LX hm
 obtain ⟨G,J,e⟩:=Lz.1 h1;have h2:=hq G J;have h3:G.nm=q.nm:=congrArg Exc.nm e;rw[h3] at h2;exact h2
theorem KvN.kcs {base:Nat}{w:World}{v:Value}{l:List KV}{qs:List KV}{L:LN}(h:KvN base w v l) (he:l.map (·.k)=qs.map (·.k)) (hq:∀q∈qs,nmB q.nm) (H:l.length≤1099511627776) (E:∀b∈L,b<base):yP L w.heap v l:=by
 refine ⟨h.arr H E,λq hq=>h.each q hq L (λb hb=>.inl (E b hb)),λq hm=>?_⟩;have h1:q.k∈qs.map (·.k):=by rw[←he];exact LX hm
 obtain ⟨G,J,e⟩:=Lz.1 h1;have h2:=hq G J;have h3:G.nm=q.nm:=congrArg Kh.nm e;rw[h3] at h2;exact h2
theorem Q3 {w:World}{base e sz n:Nat}{v:Value}{cs:LV}(h:w.ownsRow base e sz v n cs):v.oneCell'=true:=by
 rcases h.2 with ⟨h1,_⟩ | ⟨g,cap,cur,h1,_⟩ <;> subst h1 <;> rfl
theorem ZI {w:World}{base e sz n:Nat}{v:Value}{cs:LV}(h:w.ownsRow base e sz v n cs):v.cells=[v].toArray:=by
 rcases h.2 with ⟨h1,_⟩ | ⟨g,cap,cur,h1,_⟩ <;> subst h1 <;> rfl
theorem QdZ {q:XV}(h:q.v.oneCell'=true):∀u∈ZJ q,u.oneCell'=true:=by
 intro u hu;simp only[List.mem_cons,List.not_mem_nil,or_false] at hu;rcases hu with rfl | rfl
 ·rfl
 exact h
theorem Qkb {q:KV}(h:q.v.oneCell'=true):∀u∈ZV q,u.oneCell'=true:=by
 intro u hu;simp only[List.mem_cons,List.not_mem_nil,or_false] at hu;rcases hu with rfl | rfl | rfl
 ·rfl
 ·exact h
 rfl
def Qoa (N:Nat) (w:World) (r:Value) (sz:LI) (ex:List Exc) (cs:List Kh):Prop:=∃vs vx vk qx ks,r=.agg #[vs,vx,vk]∧qx.map (·.x)=ex∧ks.map (·.k)=cs∧∀L:LN,(∀b∈L,b<N)→QO L w.heap vs sz∧Xcs L w.heap vx qx∧yP L w.heap vk ks
set_option maxHeartbeats 4000000 in
theorem j7 {L:LN}{w:World}{c:CL}(h:Jz L w.heap c) :
  QM prog 98 [c.val] w λr w'=>Step [] w w'∧Qoa w.heap.size w' r (szs c.cel.co) c.cel.ex c.cel.cs:=by
 have m9:=h.co.arr.le;have pa:=h.ex.arr.le;have pc:=h.cs.arr.le;refine QM.of_W func98 O ntmps98 results98 (by simp) ?_;refine Qd<|xl O<|QS (us:=c.cells) O λb1 w1 hZ pd ga=>xl O<|Qu (us:=[nS,nS,nS]) O λb2 w2 hG pf gc=>xe ?_;have pg:=hZ.size;have ph:=hG.size;have pj:=ga.lt;have pn:=gc.lt
 refine Qd<|x (QG La)<|xl O<|Qu (us:=[nS,nS,nS]) O λb3 w3 g8 g9 h2=>xl O<|Qq (us:=[nS,nS,nS]) h2 O O O O ⟨O,O,O,La⟩ λw4 ka h2 =>
  xe ?_
 have pp:=h2.lt;have V:Step [] w2 w4:=g8.then1 ka g9;have hH:Step [] w w4:=(hZ.trans hG).trans V;have pt:=hH.size;have ge:=(ga.ext hG).ext V;have kb:=gc.ext V;have h4:=h.ext hH;have pu:b1<b3:=by omega
 have pw:b2<b3:=by omega
 have kc:w.heap.size≤b3:=by omega
 have hI:∀{wa wb:World},Step [b3] wa wb→Step [] w wa→Step [] w wb:=λha hb=>hb.then1 ha kc;refine Qg<|Qd<|x (Qa O)<|x (Qc ge O O)<|x (Qw h4.co.arr O)<|Qb<|xe ?_
 refine Qh<|QC (α:=Nat×Value) [(5,5),(14,26)] (λz=>[(14,.int .i64 z.1)]) (λz w'=>z.1≤c.co.length∧Step [b3] w4 w'∧QX w'.heap b3 151 [z.2,nS,nS]∧Qn 3 w4.heap.size w' z.2 ((c.co.take z.1).map (·.p.a.st))) (λz=>c.co.length - z.1) (by rfl) (0,nS) Lb
  ⟨Lm _,Step.refl _ _,h2,QR _ _ _ _⟩ ?_
 rintro ⟨k,vs⟩ g w5 ⟨hk,hs,h3,G⟩;simp only[] at hk h3 G;have gg:=hI hs hH;have h5:=h.ext gg;have gh:=ge.step hs (by simp;omega);have ke:=kb.step hs (by simp;omega);have pz:=hs.size;refine Qd<|x (QD O O)<|xe<|Qg<|QI O (λhJ=>?_) (λhJ=>?_)
 ·refine Qy ?_;have kf:c.co.length≤k:=by have J:¬(k:Int)<(c.co.length:Int):=hJ;omega
  rw[Lq kf] at G;refine Qg<|Qd<|x (Qa O)<|x (Qc gh O O)<|x (Qw h5.ex.arr O)<|Qb<|xe<|Qh<|QC (α:=Nat×Value×List XV) [(7,7),(30,45)] (λz=>[(30,.int .i64 z.1)]) (λz w'=>z.1≤c.ex.length∧Step [b3] w5 w'∧QX w'.heap b3 151 [vs,z.2.1,nS]∧XvN w5.heap.size w' z.2.1 z.2.2∧z.2.2.map (·.x)=(c.ex.take z.1).map (·.x)) (λz=>c.ex.length - z.1) (by rfl) (0,nS,[]) Lb
   ⟨Lm _,Step.refl _ _,h3,Kf.nil,O⟩ ?_
  rintro ⟨j,vx,qx⟩ g w6 ⟨hj,Y,hK,Z,hf⟩;simp only[] at hj hK Z hf;have gi:=hI Y gg;have h6:=h.ext gi;have kg:=gh.step Y (by simp;omega);have kh:=ke.step Y (by simp;omega);have p0:=Y.size;have p1:qx.length=j:=by have:=congrArg List.length hf;simp at this;omega
  refine Qd<|x (QD O O)<|xe<|Qg<|QI O (λhM=>?_) (λhM=>?_)
  ·refine Qy ?_;have ki:c.ex.length≤j:=by have J:¬(j:Int)<(c.ex.length:Int):=hM;omega
   rw[Lq ki] at hf;refine Qg<|Qd<|x (Qa O)<|x (Qc kg O O)<|x (Qw h6.cs.arr O)<|Qb<|xe<|Qh<|QC (α:=Nat×Value×List KV) [(9,9),(49,66)] (λz=>[(49,.int .i64 z.1)]) (λz w'=>z.1≤c.cs.length∧Step [b3] w6 w'∧QX w'.heap b3 151 [vs,vx,z.2.1]∧KvN w6.heap.size w' z.2.1 z.2.2∧z.2.2.map (·.k)=(c.cs.take z.1).map (·.k)) (λz=>c.cs.length - z.1) (by rfl) (0,nS,[]) Lb
    ⟨Lm _,Step.refl _ _,hK,Kf.nil,O⟩ ?_
   rintro ⟨i,vk,ks⟩ g w7 ⟨hi,hg,hN,hh,hn⟩;simp only[] at hi hN hh hn;have gj:=hI hg gi;have h7:=h.ext gj;have kj:=kh.step hg (by simp;omega);have p2:=hg.size;have p3:ks.length=i:=by have:=congrArg List.length hn;simp at this;omega
   refine Qd<|x (QD O O)<|xe<|Qg<|QI O (λhO=>?_) (λhO=>?_)
   ·refine Qy ?_;have kk:c.cs.length≤i:=by have J:¬(i:Int)<(c.cs.length:Int):=hO;omega
    rw[Lq kk] at hn;have p4:=(G.1);have kn:Y0 [vs,vx,vk]:=⟨Q3 G,Q3 Z.own,Q3 hh.own,La⟩;refine Qd<|x (Qo hN O O)<|xl O<|Qq (us:=[vs,vx,vk]) kj O O O O kn λw8 ht ko=>xe ?_;have p5:Step [b2] w7 w8:=ht;refine Qs ⟨[.agg #[vs,vx,vk]],⟨⟨_,O,QF O (ko.at (L:=[]) (by simp)).cells⟩,La⟩,gj.then1 ht (by omega),?_⟩
    have kq:=Qi ((Qi G Y (λb hb hm=>by have:=(Qm G b hb).1;simp at hm;omega))) hg (λb hb hm=>by have:=(Qm G b hb).1;simp at hm;omega);have kr:=Qi kq ht (λb hb hm=>by have:=(Qm G b hb).1;simp at hm;omega);have kt:=(Kf.low Z hg (by simp;omega)).low ht (by simp;omega);have ku:=Kf.low hh ht (by simp;omega)
    refine ⟨vs,vx,vk,qx,ks,O,hf,hn,λL hL=>⟨?_,XvN.xcs kt hf h.ex.nm (by omega) (λb hb=>by have:=hL b hb;omega),KvN.kcs ku hn h.cs.nm (by omega) (λb hb=>by have:=hL b hb;omega)⟩⟩;have he:szs c.cel.co=c.co.map (·.p.a.st):=by show ((c.co.map IV.it).map _)=_;rw[MW];rfl
    rw[he];exact Qn.ints kr (by rw[Lo];omega) (λb hb=>by have:=hL b hb;omega)
   have ho:i<c.cs.length:=by have J:(i:Int)<(c.cs.length:Int):=hO;omega
   have gk:=Lj ho;have gl:c.cs.take (i+1)=c.cs.take i++[c.cs[i]'ho]:=Ll ho;refine Qj<|Qg<|Qh<|Qd<|xig zQ h7.cs.arr O O ho λp6 gm=>?_;refine Zs (c.cs[i]'ho) λq hq=>?_;rw[hq] at gm gk gl;have E:=h7.cs.each q gk
   refine x (QQ gm O O)<|xl O<|Qu (us:=[.string .empty,nS,.int .i64 0]) O λb9 w9 kv kw hu=>xl O<|Qq (us:=ZV q) hu O O O O ⟨O,E.one,O,La⟩ λS kx hu =>
    xe ?_
   have h8:Step [] w7 S:=kv.then1 kx kw;have gn:=hN.ext h8;have hP:=Qm hh.own;have H:b3∉ob vk:=λhm=>by have:=(hP b3 hm).1;omega
   have hQ:b9∉ob vk:=λhm=>by have:=(hP b9 hm).2;omega
   refine QV (Step (ob vk) S) [(0,true),(1,true),(2,true),(3,true),(4,true),(5,true),(7,true),(8,true),(6,false),(9,true),(10,false),(11,false),(12,true),(13,false)] mixed (by rfl) (by kernel_rfl) (Step.drew _ _) ?_;have kz:=h8.trans (Step.drew [] S);refine p (λ_=>Qa O)<|pq (λ_ hc=>Qc (gn.step hc H) O O)<|p (λ_=>Qa O)<|pq (λ_ hc=>Qc (hu.step hc hQ) O O) <|
    p (λ_=>Qa O)<|pq (λ_ hc=>Qc (hu.step hc hQ) O O)<|p (λ_=>Qa O)<|pq (λ_ hc=>Qc (hu.step hc hQ) O O) <|
    pk<|xf<|(Qga (E.ext kz)).mono ?_
   rintro hv p7 ⟨k0,hR⟩;have hw:=(Step.drew [] S).trans k0;refine ⟨hw.any,?_⟩;refine p (λ_=>QG ⟨O,ZI hR,O,La⟩)<|pk<|QL (us:=[ZV ⟨q.nm,hv,q.ts,q.bd⟩]) O O (by decide) (by simp) ⟨rfl,rfl,La⟩ λp8 p9 hy qa k4=>⟨(hw.trans hy).any,?_⟩;have h9:=(h8.trans hw).trans hy;have hS:S.heap.size=({ S with drawn:=S.drawn+1 }:World).heap.size:=rfl
   have qe:=h8.size;have qf:=h9.size;refine pk<|QZ (news:=ZV ⟨q.nm,hv,q.ts,q.bd⟩) (L:=[]) (Qt hh.own h9) O O O (k4.at (by simp)) (Qkb (q:=⟨q.nm,hv,q.ts,q.bd⟩) (Q3 hR)) (by omega) (by omega) λhT gq gr hA k5=>⟨((hw.trans hy).any (L:=ob vk)).trans' hA,?_⟩
   have k6:KvN w6.heap.size gq hT (ks++[⟨q.nm,hv,q.ts,q.bd⟩]):=Kf.app hh h9 (Qt hR hy) E.le (by rw[←hS];omega) (by omega) gr hA k5;have k7:=(gn.step ((hw.trans hy).any (L:=ob vk)) H).step hA H;refine p (λ_=>Qa O)<|pkl (hl:=by kernel_rfl)<|QH (j:=2) (u:=hT) k7 O O (by simp) (Q3 gr) λql gs k8=>pe ?_
   have k9:Step [b3] w6 gq:=(hg.trans h9).then hA (λb hb=>.inr (hP b hb).1);refine Qx<|QN O O<|Qb<|xe<|⟨(i+1,hT,ks++[⟨q.nm,hv,q.ts,q.bd⟩]),by simp only[];omega,Lb,ho,?_,k8,Kf.low k6 gs (by simp;omega),?_⟩
   ·exact k9.trans' gs
   simp only[];rw[LA,hn,gl,LA];rfl
  have hp:j<c.ex.length:=by have J:(j:Int)<(c.ex.length:Int):=hM;omega
  have gt:=Lj hp;have gu:c.ex.take (j+1)=c.ex.take j++[c.ex[j]'hp]:=Ll hp;refine Qj<|Qg<|Qh<|Qd<|xig zc h6.ex.arr O O hp λqm gv=>?_;refine Zs (c.ex[j]'hp) λq hq=>?_;rw[hq] at gv gt gu;have E:=h6.ex.each q gt
  refine x (QQ gv O O)<|xl O<|Qu (us:=[.string .empty,nS]) O λb7 q0 ma mc hB=>xl O<|Qq (us:=ZJ q) hB O O O O ⟨O,E.one,La⟩ λU mf hB =>
   xe ?_
  have hC:Step [] w6 U:=ma.then1 mf mc;have gx:=hK.ext hC;have hU:=Qm Z.own;have H:b3∉ob vx:=λhm=>by have:=(hU b3 hm).1;omega
  have gy:b7∉ob vx:=λhm=>by have:=(hU b7 hm).2;omega
  refine QV (Step (ob vx) U) [(0,true),(1,true),(2,true),(3,true),(4,true),(5,true),(6,false),(7,true),(8,false),(9,false),(10,true),(11,false)] mixed (by rfl) (by kernel_rfl) (Step.drew _ _) ?_;have mg:=hC.trans (Step.drew [] U);refine p (λ_=>Qa O)<|pq (λ_ hc=>Qc (gx.step hc H) O O)<|p (λ_=>Qa O)<|pq (λ_ hc=>Qc (hB.step hc gy) O O) <|
   p (λ_=>Qa O)<|pq (λ_ hc=>Qc (hB.step hc gy) O O)<|pk<|xf<|(Qgb (E.ext mg)).mono ?_
  rintro hz q1 ⟨mh,hV⟩;have h0:=(Step.drew [] U).trans mh;refine ⟨h0.any,?_⟩;refine p (λ_=>QG ⟨O,ZI hV,La⟩)<|pk<|QL (us:=[ZJ ⟨q.nm,hz,q.ls⟩]) O O (by decide) (by simp) ⟨rfl,rfl,La⟩ λq2 q3 h1 q4 mj=>⟨(h0.trans h1).any,?_⟩;have hD:=(hC.trans h0).trans h1;have hS:U.heap.size=({ U with drawn:=U.drawn+1 }:World).heap.size:=rfl
  have q5:=hC.size;have j1:=hD.size;refine pk<|QZ (news:=ZJ ⟨q.nm,hz,q.ls⟩) (L:=[]) (Qt Z.own hD) O O O (mj.at (by simp)) (QdZ (q:=⟨q.nm,hz,q.ls⟩) (Q3 hV)) (by omega) (by omega) λhW gz g0 hE mo=>⟨((h0.trans h1).any (L:=ob vx)).trans' hE,?_⟩
  have mq:XvN w5.heap.size gz hW (qx++[⟨q.nm,hz,q.ls⟩]):=Kf.app Z hD (Qt hV h1) E.le (by rw[←hS];omega) (by omega) g0 hE mo;have ms:=(gx.step ((h0.trans h1).any (L:=ob vx)) H).step hE H;have mt:Step [b3] w5 gz:=(Y.trans hD).then hE (λb hb=>.inr (hU b hb).1)
  refine p (λ_=>Qa O)<|pkl (hl:=by kernel_rfl)<|QH (j:=1) (u:=hW) ms O O (by simp) (Q3 g0) λj2 g1 mu=>pe ?_;refine Qx<|QN O O<|Qb<|xe<|⟨(j+1,hW,qx++[⟨q.nm,hz,q.ls⟩]),by simp only[];omega,Lb,hp,?_,mu,Kf.low mq g1 (by simp;omega),?_⟩
  ·exact mt.trans' g1
  simp only[];rw[LA,hf,gu,LA];rfl
 have hr:k<c.co.length:=by have J:(k:Int)<(c.co.length:Int):=hJ;omega
 have g2:=Lj hr;have g3:c.co.take (k+1)=c.co.take k++[c.co[k]'hr]:=Ll hr;have za:((c.co.take k).map (·.p.a.st)).length=k:=by simp;omega
 refine Qj<|Qg<|Qh<|Qd<|xig US h5.co.arr O O hr λzb J=>?_;refine Zs (c.co[k]'hr) λq hq=>?_;rw[hq] at J g2 g3;have E:=h5.co.each q g2;refine x (QQ J O O)<|xl O<|Qu (us:=[.string .empty,nS,.int .i64 0,nS,nS]) O λb5 z0 mv mw hX=>xl O<|Qq (us:=Z5 q) hX O O O O ⟨O,E.al.one,O,E.mr.one,E.ed.one,La⟩ λmy mz hX =>
  xe ?_
 have g4:Step [] w5 my:=mv.then1 mz mw;have m0:=h3.ext g4;refine Qx<|x (Qa O)<|x (Qc m0 O O)<|x (Qa O)<|x (Qa O)<|x (Qc hX O O)<|xl O<|QL (us:=[[.int .i64 q.p.a.st]]) O O (by decide) (by simp) ⟨rfl,rfl,La⟩ λz1 z2 m2 z3 m3=>?_;have hF:=g4.trans m2;have z4:=hF.size;have g5:=Qm G;have H:b3∉ob vs:=λhm=>by have:=(g5 b3 hm).1;omega
 refine xl rfl<|QZ (news:=[.int .i64 q.p.a.st]) (L:=[]) (Qt G hF) O O O (m3.at (by simp)) (by simp[Value.oneCell']) (by omega) (by omega) λg6 m4 hY V z5=>?_;have m5:=(h3.ext hF).step V H;have m6:Step [b3] w4 m4:=(hs.trans hF).then V (λb hb=>.inr (g5 b hb).1);refine x (Qa O)<|xl O<|QH (j:=0) (u:=g6) m5 O O (by simp) (Q3 hY) λz6 g7 m7 =>
  xe ?_
 have m8:=Qi hY g7 (λb hb hm=>by have:=(Qm hY b hb).1;simp at hm;omega);refine Qx<|QN O O<|Qb<|xe<|⟨(k+1,g6),by simp only[];omega,Lb,hr,m6.trans' g7,m7,?_⟩;simp only[];rw[g3,LA];exact Qn.snoc (n:=q.p.a.st) m8
theorem Qgw (n:Nat):VX (n+1)=VX n++[(n:Int)]:=by unfold VX;rw[List.range_succ,LA];rfl
theorem Qjs (n:Nat):(VX n).length=n:=by unfold VX;simp
theorem KW {k:Nat}{l:List IV}(h:k<l.length):(l.drop k).map (·.it)=(l[k]'h).it::(l.drop (k+1)).map (·.it):=by rw[Q9 h];rfl
theorem yB {n:Nat}{u:LI}{s:List ByteArray}{x:Kx}(h:Yj n u s x=0):QK x.a:=by
 unfold Yj at h;split at h
 ·cases h
 split at h
 ·cases h
 split at h
 ·rename_i h1 h2;exact absurd h h2
 rename_i h1;exact (Zp _).1 (Lt.1 h1)
theorem VN {n:Nat}{al:LI}{s:List ByteArray}{u:LI}{x:Kx}{l:List Kx}:Ym n al s u (x::l)=if Yj n al s x≠0 then (Yj n al s x,s,u) else Ym n al (s++[x.nm]) (mrg (· || ·) u x.a.al) l:=rfl
theorem yz {n:Nat}{u:LI}{s:List ByteArray}{x:Kx}{l:List Kx}:Kc n u s (x::l)=if Yj n u s x≠0 then Yj n u s x else Kc n u (s++[x.nm]) l:=rfl
set_option maxHeartbeats 4000000 in
theorem Qge {L:LN}{w:World}{c:CL}(h:Jz L w.heap c) :
  QM prog 37 [c.val] w λr w'=>r=.int .i64 (Yn c.cel)∧Step [] w w':=by
 have kh:=h.co.arr.le;have ki:=h.rq.arr.le;have E:Yn c.cel=(if JT c.ev≠0 then JT c.ev else if c.co.length=0 then 12 else if 8<c.co.length∨12<c.co.length+c.rq.length then 3 else
  if (Ym c.ev.length (VX c.ev.length) [] [] (c.co.map (·.it))).1≠0 then (Ym c.ev.length (VX c.ev.length) [] [] (c.co.map (·.it))).1 else
  if Kc c.ev.length (Ym c.ev.length (VX c.ev.length) [] [] (c.co.map (·.it))).2.2 (Ym c.ev.length (VX c.ev.length) [] [] (c.co.map (·.it))).2.1 (c.rq.map (·.it))≠0 then Kc c.ev.length (Ym c.ev.length (VX c.ev.length) [] [] (c.co.map (·.it))).2.2 (Ym c.ev.length (VX c.ev.length) [] [] (c.co.map (·.it))).2.1 (c.rq.map (·.it)) else
  YT (szs c.cel.co) c.cel.ex c.cel.cs):=by
  unfold Yn;rw[show c.cel.co.length=c.co.length from Lo ..,show c.cel.rq.length=c.rq.length from Lo ..];rfl
 refine Zs (Yn c.cel) λR hR=>?_;rw[hR] at E ⊢;refine Zs (Ym c.ev.length (VX c.ev.length) [] [] (c.co.map (·.it))) λCO hA=>?_;rw[hA] at E;refine QM.of_W func37 O ntmps37 results37 (by simp) ?_;refine Qd<|xl O<|QS (us:=c.cells) O λb1 w1 hw kj hy=>Qf ?_;have kk:=hw.size;have kn:=hy.lt;refine Qg<|Qd<|x (Qa O)<|x (Qc hy O O)<|xl O<|xf<|(yo (h.ev.ext hw)).mono ?_;rintro r2 w2 ⟨rfl,hB⟩
 refine Qf ?_;have ha:=hw.trans hB;have ho:=hy.ext hB;have h2:=h.ext ha;refine Qd<|Qb<|x (Zj O O)<|xe<|Zc rfl (λhp=>?_) (λhp=>?_)
 ·rw[if_pos hp] at E;subst E;refine Qd<|Qb<|Qf ?_;exact Qs ⟨[_],Lb,O,ha⟩
 rw[if_neg hp] at E;have ko:c.ev.length≤32:=by
  refine Lt.1 λhn=>?_;apply hp;unfold JT;rw[if_pos (by omega)];decide
 refine Qj<|Qg<|Qd<|x (Qa O)<|x (Qc ho O O)<|x (Qw h2.co.arr O)<|Qf<|Qh<|Qd<|Qb<|x (Zf O O)<|Qf<|Zc O (λhz=>?_) (λhz=>?_)
 ·have h0:c.co.length=0:=by have hZ:(c.co.length:Int)=0:=hz;omega
  rw[if_pos h0] at E;subst E;refine Qd<|Qf ?_;exact Qs ⟨[_],Lb,O,ha⟩
 have h0:¬c.co.length=0:=by have hZ:¬(c.co.length:Int)=0:=hz;omega
 rw[if_neg h0] at E;refine Q0 (α:=Bool) [(27,37)] (λz=>[(27,.bool z)]) (λz w'=>w'=w2∧z=decide (8<c.co.length∨12<c.co.length+c.rq.length)) (by rfl) ?_ ?_
 ·refine Qx<|Qb<|xb (ZL O O) (λga=>?_) (λga=>?_)
  ·refine Qb<|xs O<|xs O<|xs O<|xs O<|xs O<|xs O<|x (Qp O)<|Qf ?_;exact ⟨_,Lb,O,bT (.inl (by omega))⟩
  refine Qb<|Qb<|x (Qa O)<|x (Qc ho O O)<|x (Qw h2.rq.arr O)<|x (X1 O O ⟨by omega,by omega⟩) <|
   x (ZL rfl O)<|x (Qp O)<|Qf ?_
  exact ⟨_,Lb,O,bD (by omega)⟩
 rintro z g w3 ⟨rfl,rfl⟩;refine Zc rfl (λh1=>?_) (λh1=>?_)
 ·rw[if_pos h1] at E;subst E;refine Qd<|Qf ?_;exact Qs ⟨[_],Lb,O,ha⟩
 rw[if_neg h1] at E;refine Qj<|Qd<|xl O<|ZM Jp λbm w4 hC kq hD=>Qf ?_;have kr:=hD.lt;have kt:=ho.lt;have ku:=ha.size;have hE:=ha.trans hC;have hG:=ho.ext hC;have hH:b1≠bm:=by omega
 have hge:w.heap.size≤bm:=by omega
 have hM:Jz [bm] w.heap c:=h.up (λb hb=>.inr (by simp at hb;omega));have hI:=hM.ext hE;refine Qd<|x Qe<|Qf<|Qg<|Qd<|x (Qa O)<|x (Qc hG O O)<|x (Qw hI.ev.arr O)<|Qb<|xe<|Qh<|QC (α:=Nat×Value) [(6,6),(8,8),(42,49)] (λz=>[(6,z.2),(42,.int .i64 z.1)]) (λz w'=>z.1≤c.ev.length∧Step [] w4 w'∧Qn 3 w4.heap.size w' z.2 (VX z.1)) (λz=>c.ev.length - z.1) (by rfl) (0,nS) ⟨O,O,La⟩
  ⟨Lm _,Step.refl _ _,QR _ _ _ _⟩ ?_
 rintro ⟨k,vg⟩ g w5 ⟨hk,hc,hs⟩;simp only[] at hk hs;have kv:=Qjs k;refine Qd<|x (QD O O)<|xe<|Qg<|QI O (λh3=>?_) (λh3=>?_)
 ·refine Qy ?_;have he:k=c.ev.length:=by have hf:¬(k:Int)<(c.ev.length:Int):=h3;omega
  subst he;have gc:QO [bm] w5.heap vg (VX c.ev.length):=Qn.ints hs (by omega) (by simp;omega);have ge:=hD.ext hc;have hJ:=hG.ext hc;have hK:=hI.ext hc;have gg:=hE.trans hc;refine Qg<|Qd<|x (Qa O)<|x (Qc hJ O O)<|x (Qw hK.co.arr O)<|Qb<|xe ?_
  refine Qh<|QC (α:=Nat×Value×List ByteArray×LI) [(2,2),(7,7),(10,11),(53,72)] (λz=>[(7,z.2.1),(53,.int .i64 z.1)]) (λz w'=>z.1≤c.co.length∧Step [bm] w5 w'∧ZE Jp w'.heap bm (nmM z.2.2.1)∧QO [bm] w'.heap z.2.1 z.2.2.2∧z.2.2.2.length≤32*z.1∧Ym c.ev.length (VX c.ev.length) z.2.2.1 z.2.2.2 ((c.co.drop z.1).map (·.it))=CO) (λz=>c.co.length - z.1) (by rfl) (0,nS,[],[]) ⟨O,O,La⟩
   ⟨Lm _,Step.refl _ _,ge,Zz.nil _ _ _,by simp,hA⟩ ?_
  rintro ⟨k,vu,sn,u⟩ g w6 ⟨hk,hg,ht,h4,gh,H⟩;simp only[] at hk ht h4 gh H;have hL:Step [] w w6:=gg.then1 hg hge;have h5:=hJ.step hg (by simpa using hH);have V:=hK.st hg;refine Qd<|x (QD O O)<|xe<|Qg<|QI O (λh6=>?_) (λh6=>?_)
  ·refine Qy ?_;have he:k=c.co.length:=by have hf:¬(k:Int)<(c.co.length:Int):=h6;omega
   subst he;rw[Lr (Lv _)] at H;have gi:CO=(0,sn,u):=H.symm;subst gi;rw[if_neg (by simp)] at E;simp only[] at E;refine Zs (Kc c.ev.length u sn (c.rq.map (·.it))) λRQ hN=>?_;rw[hN] at E;refine Qg<|Qd<|x (Qa O)<|x (Qc h5 O O)<|x (Qw V.rq.arr O)<|Qb<|xe ?_
   refine Qh<|QC (α:=Nat×List ByteArray) [(2,2),(13,14),(76,90)] (λz=>[(76,.int .i64 z.1)]) (λz w'=>z.1≤c.rq.length∧Step [bm] w6 w'∧ZE Jp w'.heap bm (nmM z.2)∧Kc c.ev.length u z.2 ((c.rq.drop z.1).map (·.it))=RQ) (λz=>c.rq.length - z.1) (by rfl) (0,sn) Lb
    ⟨Lm _,Step.refl _ _,ht,hN⟩ ?_
   rintro ⟨k,sm⟩ g w7 ⟨hk,hh,hO,J⟩;simp only[] at hk hO J;have hP:Step [] w w7:=hL.then1 hh hge;have hQ:=h5.step hh (by simpa using hH);have hj:=V.st hh;have gj:=h4.st hh;refine Qd<|x (QD O O)<|xe<|Qg<|QI O (λh7=>?_) (λh7=>?_)
   ·refine Qy ?_;have he:c.rq.length≤k:=by have hf:¬(k:Int)<(c.rq.length:Int):=h7;omega
    rw[Lr he] at J;have gk:RQ=0:=J.symm;rw[if_neg (by rw[gk];decide)] at E;refine Qd<|x (Qo hQ O O)<|xl O<|xf<|(j7 hj).mono ?_;rintro r8 w8 ⟨gl,vs,vx,vk,qx,ks,rfl,gm,gn,hF⟩;obtain ⟨gq,gr,gs⟩:=hF [] (by simp);refine xl O<|xf<|(yl gq gr gs).mono ?_;rintro r9 w9 ⟨rfl,gt⟩;rw[gm,gn,←E];refine Qf ?_;exact Qs ⟨[_],Lb,O,(hP.trans gl).trans gt⟩
   have G:k<c.rq.length:=by have hf:(k:Int)<(c.rq.length:Int):=h7;omega
   have U:=Lj G;rw[KW G,yz] at J;refine Qj<|Qg<|Qh<|Qd<|xig US hj.rq.arr O O G λkw hS=>?_;refine Zs (c.rq[k]'G) λq hq=>?_;rw[hq] at hS U J;have S:=hj.rq.each q U
   refine x (QQ hS O O)<|xl O<|Qu (us:=[.string .empty,nS,.int .i64 0,nS,nS]) O λkx kz gu gv h8=>xl O<|Qq (us:=Z5 q) h8 O O O O ⟨O,S.al.one,O,S.mr.one,S.ed.one,La⟩ λgx gy h8 =>
    xe ?_
   have Y:Step [] w7 gx:=gu.then1 gy gv;refine Qd<|x (Qo h8 O O)<|x (Qa O)<|x (Qc (hQ.ext Y) O O)<|x (Qw (hj.ev.ext Y).arr O)<|Qb<|Qb<|xl O<|xf<|(QeN (S.ext Y) (hj.rq.nm q U) (gj.ext Y) (by omega) (hO.ext Y) (by simp) (by simp)).mono ?_;rintro k0 k4 ⟨rfl,hT,gz⟩;refine Qf<|Qd<|Qb<|x (Zj O O)<|xe<|Zc O (λhl=>?_) (λhl=>?_)
   ·rw[if_pos hl] at J;rw[if_pos (by rw[←J];exact hl)] at E;refine Qd<|Qb<|Qf ?_;exact Qs ⟨[_],Lb,by rw[E,←J];rfl,(hP.trans Y).then1 hT hge⟩
   rw[if_neg hl] at J;refine Qj<|Qx<|QN O O<|Qb<|xe ?_;exact ⟨(k+1,sm++[q.nm]),by simp only[];omega,Lb,G,(hh.trans Y).trans' hT,gz (Lt.1 hl),J⟩
  have G:k<c.co.length:=by have hf:(k:Int)<(c.co.length:Int):=h6;omega
  have U:=Lj G;rw[KW G,VN] at H;refine Qj<|Qg<|Qh<|Qd<|xig US V.co.arr O O G λk5 hU=>?_;refine Zs (c.co[k]'G) λq hq=>?_;rw[hq] at hU U H;have S:=V.co.each q U;have g0:=gc.st hg
  refine x (QQ hU O O)<|xl O<|Qu (us:=[.string .empty,nS,.int .i64 0,nS,nS]) O λk6 k7 g1 g2 hu=>xl O<|Qq (us:=Z5 q) hu O O O O ⟨O,S.al.one,O,S.mr.one,S.ed.one,La⟩ λg3 g4 hu =>
   xe ?_
  have Z:Step [] w6 g3:=g1.then1 g4 g2;have k8:=ht.lt;refine Qg<|Qd<|x (Qo hu O O)<|x (Qa O)<|x (Qc (h5.ext Z) O O)<|x (Qw (V.ev.ext Z).arr O)<|Qb<|Qb<|xl O<|xf<|(QeN (S.ext Z) (V.co.nm q U) (g0.ext Z) (by omega) (ht.ext Z) (by simp) (by simp)).mono ?_;rintro k9 g5 ⟨rfl,h9,g6⟩;refine Qf<|Qd<|Qb<|x (Zj O O)<|xe ?_
  refine Zc O (λhm=>?_) (λhm=>?_)
  ·rw[if_pos hm] at H;rw[if_pos (by rw[←H];exact hm)] at E;refine Qd<|Qb<|Qf ?_;exact Qs ⟨[_],Lb,by rw[E,←H];rfl,(hL.trans Z).then1 h9 hge⟩
  rw[if_neg hm] at H;have hV:Yj c.ev.length (VX c.ev.length) sn q.it=0:=Lt.1 hm;have g7:=(yB hV).al_le;have ma:q.p.a.al.length≤32:=g7;refine Qj ?_;have hv:Step [bm] w6 g5:=Z.any.trans' h9;have g8:=h4.st hv;have mc:=hv.size
  refine Qx<|Qb<|x (Qa O)<|x (Qa O)<|x (Qc (hu.step h9 (by simp;omega)) O O)<|xl O<|xf<|(K7 g8 (V.st hv |>.co.each q U |>.al) (by omega)).mono ?_;rintro g9 mf ⟨hW,ka⟩;refine Qf ?_;have mg:=X9 (· || ·) u q.p.a.al;refine Qx<|QN O O<|Qb<|xe ?_
  exact ⟨(k+1,g9,sn++[q.nm],mrg (· || ·) u q.p.a.al),by simp only[];omega,⟨O,O,La⟩,G,(hg.trans' hv).trans hW,(g6 hV).ext hW,Qn.ints ka (by show (mrg _ _ _).length≤_;omega) (by simp;omega),by simp only[];omega,H⟩
 have G:k<c.ev.length:=by have hf:(k:Int)<(c.ev.length:Int):=h3;omega
 refine Qj<|Qg<|Qh<|Qd<|Qb<|Qf<|Qx<|Qb<|Qb<|xl O<|QL (us:=[[.int .i64 k]]) O O (by decide) (by simp) ⟨rfl,rfl,La⟩ λmh mj hX mo kb=>?_;have hY:=hc.trans hX;have mq:=hY.size;have kc:=Qm hs;refine xl rfl<|QZ (news:=[.int .i64 k]) (L:=[]) (Qt hs hX) O O O (kb.at (by simp)) (by simp[Value.oneCell']) (by omega) (by omega) λke ms kf kg mt =>
  Qf<|Qx<|QN O O<|Qb<|xe ?_
 refine ⟨(k+1,ke),by simp only[];omega,⟨O,O,La⟩,G,hY.then kg (λb hb=>.inr (kc b hb).1),?_⟩;simp only[];rw[Qgw];exact Qn.snoc (n:=(k:Int)) kf
end Go.Proofs.YtdffckgdcegpaaaGreatDoor
namespace Go.Lg
theorem Qn1 {P:Program}{ops:List Oper}{K:Fr→World→Prop}{f:Fr}{w:World}{d:Option Nat}{ty:Nat}{ps:String}{af:Array Edge}{gd:Option (Nat×Bool)}{C:World→Prop}{pl:List (Nat×Bool)}{E:Nat}
  {t e sz bys:Nat} {z:Value} {x G J:Operand} {L:LN} {v:Value} {n:Nat} {cs:LV} {H:Array Obj} {k k':IntKind} {hi:Nat} [h:Sl P t e sz bys z]
  (S:Q6 ops E=⟨d,.slice t x none (some G) (some J),ty,ps,af,gd⟩) (U:Zz L H v n sz cs) (hx:ev f x=v) (V:ev f G=.int k hi) (hm:ev f J=.int k' hi) (h1:hi≤n)
  (Y:∀v',Zz L H v' hi sz (cs.take (hi*sz))→XP P ops C K pl (Q4 f d v') w)
  (Z:YD ops f (Q6 ops E)=true:=by rfl):XP P ops C K ((E,true)::pl) f w:=by
 obtain ⟨v',h3,h4⟩:=Qg3 (P:=P) (d:=d) (ty:=ty) (ps:=ps) (af:=af) (gd:=gd) (t:=t) U hx V hm h1;exact Lg.p (λw'=>by rw[S];exact h4 w') (by rw[S];exact Y v' h3) Z
end Go.Lg
namespace Go.Proofs.YtdffckgdcegpaaaGreatDoor
open Go.Proofs.Tryz
open Go.Lg
structure QnJ (c:Yz):Prop where
 ev:c.ev.length≤32
 c0:c.co.length≠0
 c8:c.co.length≤8
 cr:c.co.length+c.rq.length≤12
 co:∀x∈c.co,QK x.a
 rq:∀x∈c.rq,QK x.a
 ce:∀x∈c.co,∀e∈x.a.al,e<(c.ev.length:Int)
 re:∀x∈c.rq,∀e∈x.a.al,e<(c.ev.length:Int)
 cd:YT (szs c.co) c.ex c.cs=0
 e0:JT c.ev=0
theorem Qcs {n:Nat}{u:LI}{s:List ByteArray}{x:Kx}(h:Yj n u s x=0):∀e∈x.a.al,e<(n:Int):=by
 unfold Yj at h;split at h
 ·cases h
 split at h
 ·cases h
 split at h
 ·rename_i h1 h2;exact absurd h h2
 split at h
 ·cases h
 split at h
 ·cases h
 split at h
 ·cases h
 rename_i h1;intro e he;refine Lt.1 λE=>h1 ?_;rw[Mn];exact ⟨e,he,decide_eq_true (by omega)⟩
theorem Qcv {n:Nat}{al:LI}:∀{l:List Kx}{s:List ByteArray}{u:LI},(Ym n al s u l).1=0→∀x∈l,QK x.a∧∀e∈x.a.al,e<(n:Int)
 | [],_,_,_,x,hx=>by cases hx
 | y::l,s,u,h,x,hx=>by
  rw[VN] at h;by_cases h1:Yj n al s y≠0
  ·rw[if_pos h1] at h;exact absurd h h1
  rw[if_neg h1] at h;have h2:Yj n al s y=0:=Lt.1 h1;rcases Li.1 hx with rfl | hx
  ·exact ⟨yB h2,Qcs h2⟩
  exact Qcv h x hx
theorem Qcr {n:Nat}{u:LI}:∀{l:List Kx}{s:List ByteArray},Kc n u s l=0→∀x∈l,QK x.a∧∀e∈x.a.al,e<(n:Int)
 | [],_,_,x,hx=>by cases hx
 | y::l,s,h,x,hx=>by
  rw[yz] at h;by_cases h1:Yj n u s y≠0
  ·rw[if_pos h1] at h;exact absurd h h1
  rw[if_neg h1] at h;have h2:Yj n u s y=0:=Lt.1 h1;rcases Li.1 hx with rfl | hx
  ·exact ⟨yB h2,Qcs h2⟩
  exact Qcr h x hx
theorem Jr {c:Yz}(h:Yn c=0):QnJ c:=by
 unfold Yn at h;by_cases h1:JT c.ev≠0
 ·rw[if_pos h1] at h;exact absurd h h1
 rw[if_neg h1] at h;by_cases h2:c.co.length=0
 ·rw[if_pos h2] at h;cases h
 rw[if_neg h2] at h;by_cases h3:8<c.co.length∨12<c.co.length+c.rq.length
 ·rw[if_pos h3] at h;cases h
 rw[if_neg h3] at h;by_cases h4:(Ym c.ev.length (VX c.ev.length) [] [] c.co).1≠0
 ·rw[if_pos h4] at h;exact absurd h h4
 rw[if_neg h4] at h;by_cases h5:Kc c.ev.length (Ym c.ev.length (VX c.ev.length) [] [] c.co).2.2 (Ym c.ev.length (VX c.ev.length) [] [] c.co).2.1 c.rq≠0
 ·rw[if_pos h5] at h;exact absurd h h5
 rw[if_neg h5] at h;have a4:=Qcv (Lt.1 h4);have E:=Qcr (Lt.1 h5);have G:c.ev.length≤32:=by
  refine Lt.1 λH=>?_;apply h1;unfold JT;rw[if_pos (by omega)];decide
 exact ⟨G,h2,by omega,by omega,λx hx=>(a4 x hx).1,λx hx=>(E x hx).1,λx hx=>(a4 x hx).2,λx hx=>(E x hx).2,h,Lt.1 h1⟩
theorem Ye.e {N:Nat}{H:Array Obj}{aa:List QE}{va vt:Value}{c:Int}(h:Ye N H aa va vt c):c=Qbl aa:=by
 unfold Ye at h;unfold Qbl;by_cases h1:VF aa≠0
 ·rw[if_pos h1] at h ⊢;exact h.1
 rw[if_neg h1] at h ⊢;cases hs:sync aa with
 | none=>rw[hs] at h;exact h.1
 | some z=>rw[hs] at h;exact h.1
theorem Ye.bad {N:Nat}{H:Array Obj}{aa:List QE}{va vt:Value}{c:Int}(h:Ye N H aa va vt c) (hc:c≠0):va=zA∧vt=Zr:=by
 unfold Ye at h;by_cases h1:VF aa≠0
 ·rw[if_pos h1] at h;exact h.2
 rw[if_neg h1] at h;cases hs:sync aa with
 | none=>rw[hs] at h;exact h.2
 | some z=>rw[hs] at h;exact absurd h.1 hc
theorem Ye.good {N:Nat}{H:Array Obj}{aa:List QE}{va vt:Value}{c:Int}(h:Ye N H aa va vt c) (hc:c=0):Xb N H va (yV aa)∧QaZ N H vt (JC aa)∧sync aa=some (yV aa,JC aa)∧VF aa=0:=by
 unfold Ye at h;unfold yV JC;by_cases h1:VF aa≠0
 ·rw[if_pos h1] at h;exact absurd (h.1.symm.trans hc) h1
 rw[if_neg h1] at h;cases hs:sync aa with
 | none=>rw[hs] at h;rw[h.1] at hc;cases hc
 | some z=>rw[hs] at h;exact ⟨h.2.1,h.2.2,O,Lt.1 h1⟩
theorem Ye.st1 {N b:Nat}{w w':World}{aa:List QE}{va vt:Value}{c:Int}(h:Ye N w.heap aa va vt c) (hb:b<N) (hs:Step [b] w w'):Ye N w'.heap aa va vt c:=by
 unfold Ye at *;split
 ·rename_i h1;rw[if_pos h1] at h;exact h
 rename_i h1;rw[if_neg h1] at h;cases hq:sync aa with
 | none=>rw[hq] at h;exact h
 | some z=>rw[hq] at h;exact ⟨h.1,Ju h.2.1 hb hs,QcK h.2.2 hb hs⟩
theorem Ye.mono {N M:Nat}{H:Array Obj}{aa:List QE}{va vt:Value}{c:Int}(h:Ye N H aa va vt c) (E:M≤N):Ye M H aa va vt c:=by
 unfold Ye at *;split
 ·rename_i h1;rw[if_pos h1] at h;exact h
 rename_i h1;rw[if_neg h1] at h;cases hq:sync aa with
 | none=>rw[hq] at h;exact h
 | some z=>rw[hq] at h;exact ⟨h.1,h.2.1.mono E,h.2.2.mono E⟩
theorem Qjy (c:Yz):XZ c=if Yn c≠0 then Yn c else if Qbl (auts c.co)≠0 then Qbl (auts c.co) else Qbl (auts c.co++auts c.rq):=by
 unfold XZ;split
 ·rfl
 have e:Qbl (auts c.co)=if VF (auts c.co)≠0 then VF (auts c.co) else match sync (auts c.co) with | none=>3 | some _=>0:=rfl
 by_cases h1:VF (auts c.co)≠0
 ·rw[if_pos h1] at e;rw[if_pos h1,e,if_pos h1]
 rw[if_neg h1] at e;rw[if_neg h1];cases hs:sync (auts c.co) with
 | none=>rw[hs] at e;simp only[] at e;rw[e];rfl
 | some z=>rw[hs] at e;simp only[] at e;rw[e];rfl
theorem Qfi (c:CL):(c.co.map (·.p)).map (·.a)=auts c.cel.co:=by unfold auts;show _=(c.co.map IV.it).map _;rw[MW,MW];rfl
theorem QkT (c:CL):(c.rq.map (·.p)).map (·.a)=auts c.cel.rq:=by unfold auts;show _=(c.rq.map IV.it).map _;rw[MW,MW];rfl
theorem Qev {ps:List AV}(h:∀p∈ps,QK p.a):∀p∈ps,p.a.st≤4096:=λp hp=>(h p hp).st1
def qv (N:Nat) (H:Array Obj) (c:Yz) (va vt:Value) (e:Int):Prop:=if Yn c≠0 then e=Yn c∧va=zA∧vt=Zr else Ye N H (auts c.co) va vt e
theorem QcM {L:LN}{w:World}{c:CL}(h:Jz L w.heap c) (hh:Kb w 4096) :
  QM prog 28 [c.val] w λr w'=>Step [] w w'∧∃va vt e,r=.tuple #[va,vt,.int .i64 e]∧qv w.heap.size w'.heap c.cel va vt e:=by
 refine QM.of_W func28 O ntmps28 results28 (by simp) ?_;refine Qd<|xl O<|QS (us:=c.cells) O λb1 w1 Z hw hj=>xl O<|Qu (us:=[nS,.int .i64 0,nS,nS]) O λb2 w2 ha hy U=>x Qe<|Qf ?_;have hb:=Z.trans ha;have hz:=Z.size;have hc:=hj.ext ha;refine Qg<|Qd<|x (Qo hc O O)<|xl O<|xf<|(Qge (h.ext hb)).mono ?_;rintro r3 w3 ⟨rfl,E⟩;refine Qf ?_;have V:=hb.trans E;have h0:=U.lt
 refine Qd<|Qb<|x (Zj O O)<|xe<|Zc rfl (λH=>?_) (λH=>?_)
 ·refine Qd<|x (QG La)<|Qb<|xl O<|Qq (us:=[nS,.int .i64 0,nS,nS]) (U.ext E) O O O O ⟨O,O,O,O,La⟩ λw4 hk hl=>x Qe<|Qf ?_;exact Qs ⟨[zA,Zr,.int .i64 (Yn c.cel)],⟨⟨_,O,QF O (hl.at (L:=[]) (by simp)).cells⟩,rfl,rfl,La⟩,V.then1 hk (by omega),zA,Zr,_,rfl,by unfold qv;rw[if_pos H];exact ⟨O,O,O⟩⟩
 have hm:=Jr (Lt.1 H);refine Qj<|Qd ?_;have h3:=h.ext V;refine x (Qa O)<|x (Qc (hc.ext E) O O)<|xl O<|xf<|(Qdo h3.co).mono ?_;rintro r5 w5 ⟨Y,hn⟩;have J:=V.trans Y;have ho:∀p∈c.co.map (·.p),QK p.a:=λp hp=>by
  obtain ⟨q,hq,rfl⟩:=Lz.1 hp;exact hm.co q.it (LX hq)
 have h1:=h.co.arr.le;have hr:JA [] w5.heap r5 (c.co.map (·.p)):=QhP hn (by rw[Lo];omega) (by simp) (λp hp=>by
  obtain ⟨q,hq,rfl⟩:=Lz.1 hp;exact (((h.co.each q hq).up (L':=[]) (by simp)).ext J))
 refine xl rfl<|xf<|(Ux (km:=4096) hr (hh.ext J) (by decide) (Qev ho)).mono ?_;rintro r6 w6 ⟨hf,va,vt,e,rfl,S⟩;rw[Qfi] at S;have hs:=J.trans hf;have ht:=J.size;have hu:∃us,va=.agg us.toArray∧us.length=4∧Y0 us:=by
  by_cases he:e=0
  ·exact XC (S.good he).1
  exact ⟨[nS,.int .i64 0,nS,nS],(S.bad he).1,O,O,O,O,O,La⟩
 refine Exists.elim hu λus G=>?_;refine x (Qk O O)<|x (Qk O O)<|x (Qk O O)<|xl O<|Qq (us:=us) ((U.ext E).ext (Y.trans hf)) O G.1 G.2.1 O G.2.2 λw7 hg hv =>
  x Qe<|Qf<|Qs ⟨[.agg us.toArray,vt,.int .i64 e],⟨⟨_,O,QF G.2.1 (hv.at (L:=[]) (by simp)).cells⟩,rfl,rfl,La⟩,hs.then1 hg (by omega),va,vt,e,by rw[G.1];rfl,?_⟩
 unfold qv;rw[if_neg H];exact (S.st1 (by have:=Y.size;have:=E.size;omega) hg).mono ht
theorem Qfc {L:LN}{w:World}{v:Value}{l:LI}{m:Int}(h:QO L w.heap v l) (J:Kb w m) (hb:∀n∈l,0≤n∧n<m) (hl:l.length≤1000000) :
  QM prog 72 [v] w λr w'=>r=.string ⟨(Jw l).toArray⟩∧Step [] w w':=by
 refine QM.of_W func72 O ntmps72 results72 (by simp) ?_;refine Qd<|Qf<|Qd<|xl O<|Qu (us:=[.pointer none,nS]) O λb3 w1 Z S ha=>xe ?_;refine Qg<|Qd<|Qb<|x (Qw h O)<|Qb<|xe ?_
 refine Qh<|QC (α:=Nat×Value) [(5,5),(8,16)] (λz=>[(8,.int .i64 z.1)]) (λz w'=>z.1≤l.length∧Step [] w w'∧(z.2=.pointer none∨z.2=me b3)∧Bl z.2 b3 (Jw (l.take z.1)) w'∧(Jw (l.take z.1)).length≤8*z.1) (λz=>l.length - z.1) (by rfl) (0,.pointer none) Lb
  ⟨Lm _,Z,.inl O,⟨_,ha,QR _ _ _ _⟩,Lv _⟩ ?_
 rintro ⟨k,p⟩ g w2 ⟨hk,E,hp,G,hc⟩;simp only[] at hk hp G hc;refine Qd<|x (QD O O)<|xe<|Qg<|QI O (λh9=>?_) (λh9=>?_)
 ·refine Qy<|Qd ?_;rw[Lq (by omega)] at G;refine xl O<|xf<|(jn E S hp G).mono ?_;rintro r3 w3 ⟨rfl,he⟩;refine Qf ?_;exact Qs ⟨[.string ⟨(Jw l).toArray⟩],Lb,O,he⟩
 have H:k<l.length:=by omega
 have hm:=hb l[k] (Lj H);obtain ⟨q,hq⟩:∃q:Nat,l[k]=q:=⟨l[k].toNat,by omega⟩;have hf:l[k].toNat=q:=by omega
 have hn:=UZ 7 q (by have:=J.le;omega);have U:Jw (l.take (k+1))=Jw (l.take k)++(Lib.decDigits q++[32]):=by
  rw[Ll H];unfold Jw;rw[LL,List.flatMap_singleton,hf]
 refine Qj<|Qg<|Qh<|Qd<|xii (h.ext E) O O H λho hg=>x (Qv hg O)<|Qf<|Qx<|Qb<|xl O<|xf ?_;refine (show QM _ _ [.int .i64 l[k]] _ _ by rw[hq];exact (QeM q (by omega) w2 (J.ext E))).mono ?_;rintro r4 w4 ⟨rfl,V⟩;have hh:(⟨(Lib.decDigits q).toArray⟩:ByteArray).size+(⟨#[32]⟩:ByteArray).size≤1000000000:=by show (Lib.decDigits q).toArray.size+1≤_;simp;omega
 refine x (X7 O O hh)<|xl O<|xf<|(KM (E.trans V) S hp (G.ext V) ((⟨(Lib.decDigits q).toArray⟩:ByteArray)++(⟨#[32]⟩:ByteArray)) (by rw[ByteArray.size_append];show _+((Lib.decDigits q).toArray.size+1)≤_;simp;omega)).mono ?_;rintro r5 w5 ⟨hj,Y⟩;refine xe<|Qx<|QN O O<|Qb<|xe<|⟨(k+1,me b3),by simp only[];omega,Lb,by simp only[];omega,hj,.inr O,?_,?_⟩
 ·simp only[];rw[U];have e:((⟨(Lib.decDigits q).toArray⟩++⟨#[32]⟩:ByteArray)).data.toList=Lib.decDigits q++[32]:=by rw[ByteArray.data_append];simp
  rw[e] at Y;exact Y
 simp only[];rw[U];simp;omega
structure Sty where
 c:CL
 p:AV
 vq:Value
 qs:List TV
 s:AV
 vt:Value
 ts:List TV
 vs:Value
 vx:Value
 vk:Value
 qx:List XV
 ks:List KV
 bm:Nat
 mm:List (ByteArray×Value)
abbrev Sty.cells (q:Sty):LV:=[q.c.ve,q.c.vc,q.c.vr,q.c.vx,q.c.vk,q.p.va,.int .i64 q.p.a.st,q.p.vm,q.p.ve,q.vq,q.s.va,.int .i64 q.s.a.st,q.s.vm,q.s.ve,q.vt,q.vs,q.vx,q.vk,.map (some q.bm)]
structure K8 (L:LN) (b:Nat) (H:Array Obj) (q:Sty):Prop where
 B:QX H b 154 q.cells
 bL:b∉L
 c:Jz L H q.c
 p:Zi L H q.p.va q.p.vm q.p.ve q.p.a
 s:Zi L H q.s.va q.s.vm q.s.ve q.s.a
 qs:XB L H q.vq q.qs
 ts:XB L H q.vt q.ts
 k1:QO L H q.vs (szs q.c.cel.co)
 k2:Xcs L H q.vx q.qx
 k3:yP L H q.vk q.ks
 mL:q.bm∉L
 m:ZE Jp H q.bm q.mm
theorem K8.ext {L:LN}{b:Nat}{w w':World}{q:Sty}(h:K8 L b w.heap q) (hs:Step [] w w'):K8 L b w'.heap q:=⟨h.B.ext hs,h.bL,h.c.ext hs,h.p.ext hs,h.s.ext hs,h.qs.ext hs,h.ts.ext hs,h.k1.ext hs,h.k2.ext hs,h.k3.ext hs,h.mL,h.m.ext hs⟩
theorem K8.st {L:LN}{b:Nat}{w w':World}{q:Sty}(h:K8 L b w.heap q) (hs:Step L w w'):K8 L b w'.heap q:=⟨h.B.step hs h.bL,h.bL,h.c.st hs,h.p.st hs,h.s.st hs,h.qs.st hs,h.ts.st hs,h.k1.st hs,h.k2.st hs,h.k3.st hs,h.mL,h.m.step hs h.mL⟩
theorem K8.up {L L':LN}{b:Nat}{H:Array Obj}{q:Sty}(h:K8 L b H q) (E:∀b∈L',b∈L∨H.size≤b):K8 L' b H q :=
 ⟨h.B,λhm=>by rcases E _ hm with h1 | h1;exact h.bL h1;have:=h.B.lt;omega,h.c.up E,h.p.up E,h.s.up E,h.qs.up E,h.ts.up E,h.k1.up E,h.k2.up E,h.k3.up E,λhm=>by rcases E _ hm with h1 | h1;exact h.mL h1;have:=h.m.lt;omega,h.m⟩
structure Qn5 (q:Sty):Prop where
 ok:Yn q.c.cel=0
 p:sync (auts q.c.cel.co)=some (q.p.a,q.qs.map (·.2))
 s:sync (auts q.c.cel.co++auts q.c.cel.rq)=some (q.s.a,q.ts.map (·.2))
 ex:q.qx.map (·.x)=q.c.cel.ex
 cs:q.ks.map (·.k)=q.c.cel.cs
 m:U6 q.c.co.length q.mm (q.qs.map (·.2))
theorem XG {l:List Kx}(h:∀x∈l,QK x.a):∀a∈auts l,QK a:=λa ha=>by
 obtain ⟨x,hx,rfl⟩:=Lz.1 ha;exact h x hx
def stp (a:QE) (s v:Int):Int×Bool×Int:=if cks a s≠0 then (0,false,cks a s) else if v∉a.al then (0,false,9) else if 0≤nxt a.ed s v then (nxt a.ed s v,true,0) else (0,false,0)
theorem QiX {L:LN}{w:World}{va vm ve:Value}{a:QE}(h:Zi L w.heap va vm ve a) (s v:Int) :
  QM prog 30 [.agg #[va,.int .i64 a.st,vm,ve],.int .i64 s,.int .i64 v] w λr w'=>r=.tuple #[.int .i64 (stp a s v).1,.bool (stp a s v).2.1,.int .i64 (stp a s v).2.2]∧Step [] w w':=by
 have E:stp a s v=(if cks a s≠0 then (0,false,cks a s) else if v∉a.al then (0,false,9) else if 0≤nxt a.ed s v then (nxt a.ed s v,true,0) else (0,false,0)):=rfl
 refine Zs (stp a s v) λR hR=>?_;rw[hR] at E ⊢;refine QM.of_W func30 O ntmps30 results30 (by simp) ?_;refine Qd<|xl O<|QS (us:=[va,.int .i64 a.st,vm,ve]) O λb3 w1 Z he J=>x Qe<|x Qe<|Qf<|Qg<|Qd<|x (Qo J O O)<|Qb<|xl O<|xf<|(VG (h.ext Z) s).mono ?_;rintro r2 w2 ⟨rfl,S⟩;refine Qf ?_;have G:=Z.trans S;refine Qd<|Qb<|x (Zj O O)<|xe<|Zc rfl (λH=>?_) (λH=>?_)
 ·rw[if_pos H] at E;subst E;refine Qd<|Qb<|x Qe<|x Qe<|Qf ?_;exact Qs ⟨[_,_,_],⟨O,O,O,La⟩,O,G⟩
 rw[if_neg H] at E;refine Qj<|Qg<|Qd<|x (Qa O)<|x (Qc (J.ext S) O O)<|Qb<|xl O<|xf<|(XR (h.al.ext G) v).mono ?_;rintro r3 w3 ⟨rfl,rfl⟩;refine x (zu O)<|xe<|Zc rfl (λU=>?_) (λU=>?_)
 ·rw[if_pos U] at E;subst E;refine Qd<|x Qe<|x Qe<|Qf ?_;exact Qs ⟨[_,_,_],⟨O,O,O,La⟩,O,G⟩
 rw[if_neg U] at E;refine Qj ?_;have hc:cks a s=0:=Lt.1 H;have ha:XW a=0:=by
  unfold cks at hc;refine Lt.1 λV=>?_;rw[if_pos V] at hc;exact V hc
 have hsr:0≤s∧s<a.st:=by
  unfold cks at hc;rw[if_neg (by rw[ha];decide)] at hc;refine Lt.1 λV=>?_;rw[if_pos (by omega)] at hc;cases hc
 refine Qg<|Qd<|x (Qo (J.ext S) O O)<|Qb<|Qb<|xl O<|xf<|(QiW (h.ed.ext G) ((Zp a).1 ha) s v hsr.1 hsr.2).mono ?_;rintro r4 w4 ⟨rfl,hb⟩;refine Qf<|Qd<|Qb<|x (Yg O O)<|xe<|Zc rfl (λY=>?_) (λY=>?_)
 ·rw[if_pos Y] at E;subst E;refine Qd<|Qb<|x Qe<|x Qe<|Qf ?_;exact Qs ⟨[_,_,_],⟨O,O,O,La⟩,O,G.trans hb⟩
 rw[if_neg Y] at E;subst E;refine Qj<|Qd<|x Qe<|x Qe<|Qf ?_;exact Qs ⟨[_,_,_],⟨O,O,O,La⟩,O,G.trans hb⟩
theorem Qhj (es:List Ed) (s v:Int):nxt es s v=(eget es s v).getD (-1):=by
 induction es with
 | nil=>rfl
 | cons e es ih =>
  rw[nxt,eget];by_cases h:e.1=s∧e.2.1=v
  ·rw[if_pos h,if_pos h];rfl
  rw[if_neg h,if_neg h];exact ih
theorem QlA {a:QE}(h:QK a) {s v:Int}(G:0≤s) (h1:s<a.st) (E:v∈a.al):(stp a s v).2.1=(eget a.ed s v).isSome:=by
 have hc:cks a s=0:=by unfold cks;rw[if_neg (by rw[(Zp a).2 h];decide),if_neg (by omega)]
 unfold stp;rw[if_neg (by rw[hc];decide),if_neg (by simpa using E),Qhj];cases he:eget a.ed s v with
 | none=>rfl
 | some t =>
  have:=(h.ed _ (ZR he)).2.2.2.1;rw[Option.getD_some,if_pos (by simpa using this)];rfl
theorem QgT {L L':LN}{w:World}{b:Nat}{q:Sty}{vt:Value}{t:LI}(H:K8 L b w.heap q) (ht:QO L' w.heap vt t) (J:q.c.co.length≤t.length) :
  QM prog 71 [.pointer (some ⟨b,0,none⟩),vt] w λr w'=>Step [] w w'∧∃E G,r=.tuple #[E,G]∧QO L' w'.heap E (t.take q.c.co.length)∧QO L' w'.heap G (t.drop q.c.co.length):=by
 refine QM.of_W func71 O ntmps71 results71 (by simp) ?_;refine Qd<|x Qe<|Qf<|Qd<|Qb<|x (Qr O)<|x (Qa O)<|x (Qa O)<|x (Qc H.B O O)<|x (Qw H.c.co.arr O)<|Qf<|Qg<|QV (Step [] w) [(0,true),(1,true),(2,true),(3,true),(4,true),(5,true),(6,true),(7,true),(8,true)] mixed (by rfl) (by kernel_rfl) (Step.drew _ _) ?_
 refine p (λ_=>Ql)<|p (λ_=>Ql)<|p (λ_=>Ql)<|Qn1 (hi:=q.c.co.length) O ht O O O J λE h1=>p (λ_=>Ql)<|p (λ_=>Ql)<|QlN (lo:=q.c.co.length) O ht O O J λG h2 =>
  p (λ_=>Qe)<|p (λ_=>Qe)<|pe ?_
 refine Qs ⟨[_,_],⟨O,O,La⟩,Step.drew _ _,E,G,O,?_,?_⟩
 ·rw[Nat.mul_one,←List.map_take] at h1;have e:(t.take q.c.co.length).length=q.c.co.length:=by rw[LF];omega
  unfold QO;rw[e];exact h1
 exact QO.drop h2
theorem Qby {v:Int}{i:Nat}{y:Kx}{l:List Kx}{s:Int}{ss:LI}:rfr v i (y::l) (s::ss)=if v∈y.a.al∧(eget y.a.ed s v).isSome=false then (i:Int) else rfr v (i+1) l ss:=rfl
set_option maxHeartbeats 1000000 in
theorem Qc5 {L L':LN}{w:World}{b:Nat}{q:Sty}{vr:Value}{rs:LI}{v:Int}(U:K8 L b w.heap q) (hr:QO L' w.heap vr rs) (hq:∀x∈q.c.rq,QK x.p.a) (hv:Vt (auts q.c.cel.rq) rs) :
  QM prog 152 [.pointer (some ⟨b,0,none⟩),vr,.int .i64 v] w λr w'=>r=.int .i64 (rfr v 0 q.c.cel.rq rs)∧Step [] w w':=by
 have h6:=U.c.rq.arr.le;have h7:rs.length=q.c.rq.length:=by rw[hv.1];unfold auts;show ((q.c.rq.map IV.it).map _).length=_;simp
 refine Zs (rfr v 0 q.c.cel.rq rs) λR hR=>?_;rw[hR];refine QM.of_W func152 O ntmps152 results152 (by simp) ?_;refine Qd<|Qf<|Qg<|Qd<|Qb<|x (Qr O)<|x (Qa O)<|x (Qa O)<|x (Qc U.B O O)<|x (Qw U.c.rq.arr O)<|Qb<|xe ?_
 refine Qh<|QC (α:=Nat) [(6,11),(18,44)] (λz=>[(18,.int .i64 z)]) (λz w'=>z≤q.c.rq.length∧Step [] w w'∧rfr v z ((q.c.rq.drop z).map (·.it)) (rs.drop z)=R) (λz=>q.c.rq.length - z) (by rfl) 0 Lb
  ⟨Lm _,Step.refl _ _,hR⟩ ?_
 rintro k g w1 ⟨hk,J,E⟩;refine Qd<|x (QD O O)<|xe<|Qg<|QI O (λha=>?_) (λha=>?_)
 ·refine Qy ?_;have hs:q.c.rq.length≤k:=by have ht:¬(k:Int)<(q.c.rq.length:Int):=ha;omega
  rw[Lr hs] at E;have hu:R=-1:=E.symm;refine Qd<|Qf ?_;exact Qs ⟨[_],Lb,by rw[hu];rfl,J⟩
 have G:k<q.c.rq.length:=by have ht:(k:Int)<(q.c.rq.length:Int):=ha;omega
 have H:k<rs.length:=by omega
 have hb:=Lj G;rw[KW G,Q9 H,Qby] at E;have S:∀hz:k<(auts q.c.cel.rq).length,0≤rs[k]'H∧rs[k]'H<((auts q.c.cel.rq)[k]'hz).st:=λhz=>hv.2 k H hz;have hh:k<(auts q.c.cel.rq).length:=by unfold auts;show k<((q.c.rq.map IV.it).map _).length;simpa using G
 have S:=S hh;have hw:(auts q.c.cel.rq)[k]'hh=(q.c.rq[k]'G).p.a:=by unfold auts;show ((q.c.rq.map IV.it).map _)[k]'_=_;simp[IV.it]
 rw[hw,Q5 H] at S;rw[Q5 H] at E;refine Qj<|Qg<|Qh<|Qd<|Qb<|xig US (U.c.rq.arr.ext J) O O G λh8 hj=>?_;refine Zs (q.c.rq[k]'G) λy hy=>?_;rw[hy] at hj hb E S;have V:=(U.c.rq.each y hb).ext J;have hl:=hq y hb;refine x (QQ hj O O)<|xl O<|Qu (us:=[.string .empty,nS,.int .i64 0,nS,nS]) O λb8 w2 h0 h1 Z=>x Qe <|
  xl rfl<|Qq (us:=Z5 y) Z O O O O ⟨O,V.al.one,O,V.mr.one,V.ed.one,La⟩ λw3 h2 Z=>xe ?_
 have Y:Step [] w1 w3:=h0.then1 h2 h1;refine Qg<|Qd<|x (Qa O)<|x (Qa O)<|x (Qc Z O O)<|Qb<|xl O<|xf<|(ZX (V.al.ext Y) hl.ali v).mono ?_;rintro r4 w4 ⟨rfl,rfl⟩;refine x (zu O)<|xe<|Zc rfl (λhe=>?_) (λhe=>?_)
 ·rw[if_neg (λe=>he e.1)] at E;refine Qy<|Qx<|QN O O<|Qb<|xe ?_;exact ⟨k+1,by omega,Lb,G,J.trans Y,E⟩
 have hm:v∈y.p.a.al:=Lt.1 he;have hn:=QlA hl S.1 S.2 hm;refine Qj ?_;have h3:=(hr.ext J).ext Y;refine Qg<|QV (Step [] w4) [(0,true),(1,true),(2,true),(3,true),(4,true),(5,true),(6,true),(7,false),(8,true),(9,true),(10,true),(11,true),(12,true),(13,true),(14,true)] mixed (by rfl) (by kernel_rfl) (Step.drew _ _) ?_
 refine p (λ_=>Qa O)<|pq (λ_ hc=>Xd (us:=Zg y.p) (Z.step hc (by simp)) rfl rfl rfl)<|p (λ_=>Ql)<|p (λ_=>Ql)<|pic (i:=k) rfl h3 rfl rfl H λh9 h4 =>
  pq (λ_ hc=>Qv (h4.ext hc) O)<|p (λ_=>Ql)<|pk<|xf<|(QiX ((V.ext Y).ext (Step.drew _ _)) (cget rs k) v).mono ?_
 rintro r5 w5 ⟨rfl,h5⟩;have ho:=(Step.drew [] w4).trans h5;refine ⟨ho,?_⟩;refine p (λ_=>Ql)<|p (λ_=>Qk O O)<|p (λ_=>Qk O O)<|p (λ_=>Qk O O)<|p (λ_=>Qe) <|
  p (λ_=>Qe)<|p (λ_=>Qe)<|pe ?_
 have hp:=(J.trans Y).trans ho;refine Qd<|Qb<|x (Zh O)<|xe<|Q8 rfl (λhf=>?_) (λhf=>?_)
 ·have hg:(eget y.p.a.ed (cget rs k) v).isSome=false:=by rw[←hn];simpa using hf
  rw[if_pos ⟨hm,hg⟩] at E;refine Qd<|Qb<|Qf ?_;exact Qs ⟨[_],Lb,by rw[←E];rfl,hp⟩
 have hg:¬(eget y.p.a.ed (cget rs k) v).isSome=false:=by rw[←hn];simpa using hf
 rw[if_neg (λe=>hg e.2)] at E;refine Qj<|Qx<|QN O O<|Qb<|xe ?_;exact ⟨k+1,by omega,Lb,G,hp,E⟩
end Go.Proofs.YtdffckgdcegpaaaGreatDoor
