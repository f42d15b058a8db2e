/- Merged out of 31 texts. -/
import Derived.Test.YtjcgijbhaemldaaGreatDoorMcc
import Derived.Shelf.SlSortCmp.NoneTotal
import Derived.Ground.SlsfProg
import Derived.Tactics
namespace Go.Lg
theorem At.from {L:LN}{H:Array Obj}{a:Addr}{us:LV}(h:At L H a us)(j:Nat):At L H (a.add j) (us.drop j):=
 ⟨λu hu=>by rw[Z9];exact h.out u (Mz hu),λu hu=>by rw[Z9];exact h.lt u (Mz hu),λi v E=>by
  rw[Addr.add_add];exact h.cell (j+i) v (by rw[←MB];exact E)⟩
end Go.Lg
namespace Go.Proofs.YtjcgijbhaemldaaGreatDoor
open Go.Proofs.Tryz
open Go.Lg
def lwB (l:LI)(n:Int):Nat:=(l.filter λx=>decide (x<n)).length
theorem QlH {l:LI}{n:Int}{i:Nat}(_:Yn l)(hi:i≤l.length)(h1:∀m (hm:m<l.length),m<i→l[m]<n)(h2:∀m (hm:m<l.length),i≤m→n≤l[m]):lwB l n=i:=by
 unfold lwB;have e1:(l.take i).filter (λx=>decide (x<n))=l.take i:=Nc.2 λx hx=>by
  obtain⟨m,hm,rfl⟩:=LF hx;rw[MY];have E:m<i∧m<l.length:=by rw[Ly]at hm;omega
  exact decide_eq_true (h1 m E.2 E.1)
 have e2:(l.drop i).filter (λx=>decide (x<n))=[]:=MC.2 λx hx=>by
  obtain⟨m,hm,rfl⟩:=LF hx;rw[List.getElem_drop];have E:i+m<l.length:=by rw[L5]at hm;omega
  have:=h2 (i+m) E (by omega);simp;omega
 have G:l.filter (λx=>decide (x<n))=l.take i:=by
  conv=>lhs;rw[←Mu i l]
  rw[L2,e1,e2,LK]
 rw[G,Ly];omega
theorem QdD:∀{l:LI}{n:Int},Yn l→n∈l→lwB l n=l.idxOf n
 | [],_,_,h=>by cases h
 | a::l,n,hi,h=>by
  have E:=LW.1 hi;unfold lwB;by_cases e:a=n
  ·subst e;have e2:l.filter (λx=>decide (x<a))=[]:=MC.2 λx hx=>by have:=E.1 x hx;simp;omega
   rw[Ma,if_neg (by simp),e2];simp
  have hm:n∈l:=by
   rcases Lc.1 h with h1|h1
   ·exact absurd h1.symm e
   exact h1
  have ih:=QdD E.2 hm;unfold lwB at ih;have ha:=E.1 n hm;rw[Ma,if_pos (decide_eq_true ha),LG,ih,List.idxOf_cons];have:(a == n)=false:=by simpa using e
  rw[this];rfl
theorem QbF {L:LN}{w:World}{v:Value}{l:LI}(h:QH L w.heap v l)(hi:Yn l)(n:Int):
  QE prog 57 [v,.int .i64 n] w λr w'=>w'=w∧r=.tuple #[.int .i64 (lwB l n),.bool (decide (n∈l))]:=by
 have ht:=h.le;refine QE.of_W func57 O ntmps57 results57 (by simp) ?_;refine Qc<|x Qf<|Qe<|Qc<|Qb<|x (Qr h O)<|Qe<|Qc<|Qb<|x Qf<|Qe<|Qg<|Qh<|QA (α:=Nat×Nat) [(7,9),(13,30)] (λz=>[(7,.int .i64 z.1),(8,.int .i64 z.2)])
  (λz w'=>w'=w∧z.1≤z.2∧z.2≤l.length∧(∀m (hm:m<l.length),m<z.1→l[m]<n)∧(∀m (hm:m<l.length),z.2≤m→n≤l[m])) (λz=>z.2 - z.1) (by rfl) (0,l.length) ⟨O,O,Z⟩
  ⟨O,Ll _,Lt _,λm _ J=>absurd J (Nb m),λm h1 J=>absurd h1 (by simp only[]at J;omega)⟩ ?_
 rintro⟨i,j⟩ g w1 ⟨rfl,hb,hj,E,G⟩;simp only[]at hb hj E G;refine Qg<|Qc<|Qb<|Qb<|x (Qz O O)<|xe<|QC rfl (λhc=>?_) (λhc=>?_)
 ·have e:i=j:=by omega
  subst e;refine Qy<|QX (α:=Bool) [(4,5),(31,53)] (λz=>[(4,.int .i64 i),(5,.bool z)]) (λz w'=>w'=w1∧z=decide (n∈l)) (by rfl) ?_ ?_
  ·refine Qx<|Qb<|Qb<|Qb<|xb (Qz O O) (λhe=>?_) (λhe=>?_)
   ·have H:i<l.length:=by omega
    refine Qb<|Qb<|Qb<|xii h O O H λhu hf=>x (Qv hf O)<|Qb<|xb (Zl O O) (λU=>?_) (λU=>?_)
    ·refine Qb<|xs O<|xs O<|xs O<|xs O<|xs O<|xs O<|xs O<|xs O<|xs O<|x (Qq O)<|x (Qq O)<|x Qf<|Qe ?_;have:n∈l:=by rw[←U];exact Li H
     exact⟨true,⟨O,O,Z⟩,O,by simp[this]⟩
    refine Qb<|Qb<|Qb<|xii h O O H λhv hg=>x (Qv hg O)<|xl O<|xf<|(Qa7 _).mono ?_;rintro r3 w3 ⟨rfl,rfl⟩;refine Qb<|xs O<|xs O<|x (Qq O)<|x (Qq O)<|x (Qq O)<|x Qf<|Qe<|⟨false,⟨O,O,Z⟩,O,?_⟩;have:n∉l:=by
     intro hm;obtain⟨m,I,V⟩:=LF hm;by_cases hk:m<i
     ·have:=E m I hk;omega
     by_cases hl:m=i
     ·subst hl;exact U V
     have:=Yn.get hi I (show i<m by omega);have:=G i H (Lt _);omega
    simp[this]
   refine Qb<|xs O<|xs O<|xs O<|xs O<|xs O<|xs O<|xs O<|xs O<|xs O<|xs O<|xs O<|xs O<|xs O<|xs O<|xs O<|xs O<|xs O <|
    x (Qq rfl)<|x Qf<|Qe<|⟨false,⟨O,O,Z⟩,O,?_⟩
   have:n∉l:=by
    intro hm;obtain⟨m,I,V⟩:=LF hm;have:=E m I (by omega);omega
   simp[this]
  rintro z g w7 ⟨rfl,rfl⟩;exact Qk ⟨[.int .i64 i,.bool (decide (n∈l))],⟨O,O,Z⟩,O,by rw[QlH hi (show i≤l.length by omega) E G];rfl⟩
 refine Qi<|Qh<|Qc<|Qb<|Qb<|QM O O<|x (ZQ O (by exact⟨by omega,by omega⟩))<|x (UH (n:=1) O O (by decide))<|x (ZQ O (by exact⟨by omega,by omega⟩))<|Qe ?_;have hh:(((i:Int)+(j:Int)) / 2 ^ 1)=(((i+j) / 2:Nat):Int):=by omega
 rw[hh];generalize hq:(i+j) / 2=q;have hn:i≤q:=by omega
 have ho:q<j:=by omega
 have Y:q<l.length:=by omega
 refine Qc<|Qb<|Qb<|xii h O O Y λhw hp=>x (Qv hp O)<|Qb<|xl O<|xf<|(QdK _ _).mono ?_;rintro r8 w8 ⟨rfl,rfl⟩;refine xe<|QC rfl (λha=>?_) (λha=>?_)
 ·refine Qx<|Qb<|Qe<|⟨(i,q),by simp only[];omega,⟨O,O,Z⟩,O,hn,by omega,E,λm hm hr=>?_⟩;by_cases e:q=m
  ·subst e;omega
  have:=Yn.get hi hm (show q<m by simp only[]at hr;omega);omega
 refine Qx<|Qb<|QM O O<|Qe<|⟨(q+1,j),by simp only[];omega,⟨O,O,Z⟩,O,ho,hj,λm hm hs=>?_,G⟩;by_cases e:m=q
 ·subst e;exact ha
 have:=Yn.get hi Y (show m<q by simp only[]at hs;omega);omega
theorem zn {L:LN}{w:World}{v:Value}{l:List Ed}(h:Zv L w.heap v l.length 3 (l.flatMap QD)):
  QE prog 51 [v] w λr w'=>Step [] w w'∧w'.ownsRow w.heap.size 129 3 r l.length (l.flatMap QD):=by
 have ha:=h.le;refine QE.of_W func51 O ntmps51 results51 (by simp) ?_;refine Qc<|Qe ?_;obtain⟨ao,cap,E⟩:=h.shape;refine Qg<|Qc<|Qb<|x (VN (show ev _ _=_ from E) O)<|xe<|QY rfl (λh4=>?_) (λh4=>?_)
 ·refine Qc<|Qe<|Qk ⟨[nS],La,Step.refl _ _,?_⟩;rcases h.2.2 with⟨h1,h2⟩|⟨a,c,h1,_⟩
  ·have:l=[]:=Lr h2;subst this;exact QP _ _ _ _
  rw[h1]at E;cases E;cases h4
 rcases h.2.2 with⟨h1,h2⟩|⟨a,c,h1,h2,h3⟩
 ·rw[h1]at E;injection E with e1;subst e1;cases h4
 refine Qi<|Qc ?_;have J:∀u∈l.flatMap QD,u.oneCell'=true:=by
  intro u hu;obtain⟨p,_,hp⟩:=ME.1 hu;simp only[QD,List.mem_cons,List.not_mem_nil,or_false]at hp;rcases hp with rfl|rfl|rfl <;> rfl
 refine xl rfl<|Up λb5 w1 G H I=>Qb<|xl O<|Q5 (base:=w.heap.size) (I.own (n:=0) (sz:=3) O (by omega) H) O (show ev _ _=_ from h1) h.1 (h3.ext G) J (by omega) (by have:=I.lt;omega) λU w2 V Y hb=>Qe<|Qk ⟨[U],La,G.then1 Y H,?_⟩;simpa[tup]using V
theorem QcG {L:LN}{w:World}{v:Value}{l:List Kc}(h:Zv L w.heap v l.length 5 (l.flatMap Zh)):
  QE prog 195 [v] w λr w'=>Step [] w w'∧w'.ownsRow w.heap.size 89 5 r l.length (l.flatMap Zh):=by
 have ha:=h.le;refine QE.of_W func195 O ntmps195 results195 (by simp) ?_;refine Qc<|Qe ?_;obtain⟨ao,cap,E⟩:=h.shape;refine Qg<|Qc<|Qb<|x (VN (show ev _ _=_ from E) O)<|xe<|QY rfl (λh4=>?_) (λh4=>?_)
 ·refine Qc<|Qe<|Qk ⟨[nS],La,Step.refl _ _,?_⟩;rcases h.2.2 with⟨h1,h2⟩|⟨a,c,h1,_⟩
  ·have:l=[]:=Lr h2;subst this;exact QP _ _ _ _
  rw[h1]at E;cases E;cases h4
 rcases h.2.2 with⟨h1,h2⟩|⟨a,c,h1,h2,h3⟩
 ·rw[h1]at E;injection E with e1;subst e1;cases h4
 refine Qi<|Qc ?_;have J:∀u∈l.flatMap Zh,u.oneCell'=true:=by
  intro u hu;obtain⟨p,_,hp⟩:=ME.1 hu;simp only[Zh,List.mem_cons,List.not_mem_nil,or_false]at hp;rcases hp with rfl|rfl|rfl|rfl|rfl <;> rfl
 refine xl rfl<|Up λb5 w1 G H I=>Qb<|xl O<|Q5 (base:=w.heap.size) (I.own (n:=0) (sz:=5) O (by omega) H) O (show ev _ _=_ from h1) h.1 (h3.ext G) J (by omega) (by have:=I.lt;omega) λU w2 V Y hb=>Qe<|Qk ⟨[U],La,G.then1 Y H,?_⟩;simpa[tup]using V
structure Xj {α:Type}(g:α→LV)(sz T:Nat)(ps:α→List (Value×Nat×Nat×LV))(base:Nat)(w:World)(v:Value)(l:List α):Prop where
 own:w.ownsRow base T sz v l.length (l.flatMap g)
 each:∀q∈l,∀t∈ps q,ZY base (ob v) w.heap t.1 t.2.1 t.2.2.1 t.2.2.2
section
variable {α:Type}{g:α→LV}{sz T:Nat}{ps:α→List (Value×Nat×Nat×LV)}{base:Nat}{w w':World}{v:Value}{l:List α}
theorem Xj.nil:Xj g sz T ps base w (nS) []:=⟨QP _ _ _ _,λq hq=>by cases hq⟩
theorem Xj.ext (h:Xj g sz T ps base w v l)(hs:Step [] w w'):Xj g sz T ps base w' v l:=⟨Qs h.own hs,λq hq t ht=>(h.each q hq t ht).ext hs⟩
theorem Xj.low {X:LN}(h:Xj g sz T ps base w v l)(hs:Step X w w')(E:∀b∈X,b<base):Xj g sz T ps base w' v l :=
 ⟨Ql h.own hs (λb hb hm=>by have:=(Qp h.own b hb).1;have:=E b hm;omega),λq hq t ht=>(h.each q hq t ht).low hs E⟩
theorem Xj.app {E G:World}{H:Value}{q:α}(h:Xj g sz T ps base w v l)(hs:Step [] w E)
  (hq:∀t∈ps q,∃N e,E.ownsRow N e t.2.2.1 t.1 t.2.1 t.2.2.2∧t.2.1≤1099511627776∧w.heap.size≤N) (hb:base≤w.heap.size)
  (U:G.ownsRow base T sz H (l.length+1) (l.flatMap g++g q)) (I:Step (ob v) E G) (J:∀b∈ob H,b∈ob v∨E.heap.size≤b):Xj g sz T ps base G H (l++[q]):=by
 have V:=Q3 h.own;refine⟨?_,λd hd t ht=>?_⟩
 ·rw[Lj,LC];simpa using U
 rcases Lq.1 hd with hd|hd
 ·exact((h.each d hd t ht).ext hs).app I J
 simp only[List.mem_singleton]at hd;subst hd;obtain⟨N,e,h1,h2,h3⟩:=hq t ht;exact(ZY.of_own h1 h2 (by omega) (λb hb=>by have:=V b hb;omega)).app I J
end
abbrev QjN (q:IV):List (Value×Nat×Nat×LV):=[(q.p.va,q.p.a.al.length,1,q.p.a.al.map (.int .i64)),(q.p.vm,q.p.a.mr.length,1,q.p.a.mr.map (.int .i64)),(q.p.ve,q.p.a.ed.length,3,q.p.a.ed.flatMap QD)]
abbrev IvP (base:Nat)(w:World)(v:Value)(l:List IV):Prop:=Xj Zi 5 92 QjN base w v l
def K8 (N:Nat)(H:Array Obj)(v:Value)(l:List XC):Prop:=∃qs:List IV,qs.map IV.it=l∧∀L:LN,(∀b∈L,b<N)→Y9 L H v qs
theorem IvP.itms {base:Nat}{w:World}{v:Value}{l:List IV}{L:LN}(h:IvP base w v l)(G:l.length≤1099511627776)(hm:∀q∈l,Uq q.nm)(E:∀b∈L,b<base):Y9 L w.heap v l :=
 ⟨QW h.own G (λb hb H=>by have:=(Qp h.own b hb).1;have:=E b H;omega),λq hq=>⟨h.each q hq (q.p.va,q.p.a.al.length,1,q.p.a.al.map (.int .i64)) (by simp) L (λb hb=>.inl (E b hb)),h.each q hq (q.p.vm,q.p.a.mr.length,1,q.p.a.mr.map (.int .i64)) (by simp) L (λb hb=>.inl (E b hb)),h.each q hq (q.p.ve,q.p.a.ed.length,3,q.p.a.ed.flatMap QD) (by simp) L (λb hb=>.inl (E b hb))⟩,hm⟩
instance:Bw prog 92 [.string .empty,nS,.int .i64 0,nS,nS] [(0,1),(1,4)]:=⟨by kernel_rfl,by decide⟩
set_option maxHeartbeats 4000000 in
theorem zy {L:LN}{w:World}{v vi:Value}{qs:List IV}{ix:LI}(h0:Y9 L w.heap v qs)(hD:QH L w.heap vi ix)(hb:∀i∈ix,0≤i∧i<(qs.length:Int)):
  QE prog 196 [v,vi] w λr w'=>Step [] w w'∧K8 w.heap.size w'.heap r (chs (qs.map IV.it) ix)∧r.oneCell'=true:=by
 have h:Y9 [] w.heap v qs:=h0.up (by simp);have hi:QH [] w.heap vi ix:=hD.up (by simp);have hT:=hi.le;refine QE.of_W func196 O ntmps196 results196 (by simp) ?_;refine Qc<|Qe<|Qc<|Qe<|Qg<|Qc<|Qb<|x (Qr hi O)<|Qb<|xe ?_
 refine Qh<|QA (α:=Nat×Value×List IV) [(5,5),(7,8),(11,41)] (λz=>[(5,z.2.1),(11,.int .i64 z.1)]) (λz w'=>z.1≤ix.length∧Step [] w w'∧IvP w.heap.size w' z.2.1 z.2.2∧z.2.2.map IV.it=chs (qs.map IV.it) (ix.take z.1)∧∀q∈z.2.2,Uq q.nm) (λz=>ix.length - z.1) (by rfl) (0,nS,[]) ⟨O,O,Z⟩
  ⟨Ll _,Step.refl _ _,Xj.nil,O,λq hq=>by cases hq⟩ ?_
 rintro⟨k,vo,qo⟩ g w1 ⟨hk,H,I,hf,hp⟩;simp only[]at hk I hf hp;have hU:qo.length=k:=by have:=congrArg List.length hf;unfold chs at this;rw[Lh,Lh,Ly]at this;omega
 refine Qc<|x (Qz O O)<|xe<|Qg<|QC O (λhr=>?_) (λhr=>?_)
 ·refine Qy ?_;have hE:ix.length≤k:=by have hh:¬(k:Int)<(ix.length:Int):=hr;omega
  rw[Ln hE]at hf;refine Qc<|Qb<|Qe ?_;exact Qk ⟨[_],La,H,⟨qo,hf,λL hL=>I.itms (by omega) hp hL⟩,QK I.own⟩
 refine Qi ?_;have J:k<ix.length:=by have hh:(k:Int)<(ix.length:Int):=hr;omega
 have hF:=hb _ (Li J);have h6:ix.take (k+1)=ix.take k++[ix[k]'J]:=Le J;refine Zb (ix[k]'J) λi h7=>?_;rw[h7]at hF h6;have h8:i=(i.toNat:Int):=by omega
 have U:i.toNat<qs.length:=by omega
 have hA:chs (qs.map IV.it) (ix.take (k+1))=chs (qs.map IV.it) (ix.take k)++[(qs[i.toNat]'U).it]:=by
  rw[h6];unfold chs;rw[Lv];simp[List.getD,U]
 have h1:=h.ext H;have hs:=Li U;refine Zb (qs[i.toNat]'U) λq hq=>?_;rw[hq]at hA hs;have G:=h1.each q hs;have hG:=h1.nm q hs;refine Qg<|Qh<|Qc<|xii (i:=k) (hi.ext H) O O J λhV hh=>?_;rw[h7]at hh;refine x (Qv hh O)<|Qe<|Qc<|Qb<|Qb<|xig (g:=Zi) (i:=i.toNat) Xf h1.arr O (congrArg (Value.int .i64) h8) U λhW hB=>?_;rw[hq]at hB
 refine x (Zg O)<|x (QI (us:=[q.p.va,.int .i64 q.p.a.st,q.p.vm,q.p.ve]) (hB.from 1) O O)<|xl O<|Qu (us:=[nS,.int .i64 0,nS,nS]) O λb8 w2 hH hI V =>
  xl rfl<|Qo (us:=[q.p.va,.int .i64 q.p.a.st,q.p.vm,q.p.ve]) V O O O O ⟨G.al.one,O,G.mr.one,G.ed.one,Z⟩ λE hJ V=>xe ?_
 have hj:Step [] w1 E:=hH.then1 hJ hI;have Y:Step [] E { E with drawn:=E.drawn+1 }:=Step.drew _ _
 have hX:=hj.size;have hY:=H.size;have hv:=Qp I.own;have h3:Y9 (ob vo) E.heap v qs:=(h.up (L':=ob vo) (λb hb=>.inr (hv b hb).1)).ext (H.trans hj);have hl:b8∉ob vo:=λhm=>by have:=(hv b8 hm).2;omega
 have hw:=G.ext hj;refine QV (Step (ob vo) E) [(0,true),(1,true),(2,true),(3,true),(4,true),(5,true),(6,true),(7,true),(9,true),(10,true),(11,true),(12,true),(14,true),(15,true),(8,false),(13,false),(16,false),(17,true),(18,true),(19,false),(20,false),(21,true)] mixed (by rfl) (by kernel_rfl) (Step.drew _ _) ?_
 refine p (λ_=>Qm)<|p (λ_=>Qm)<|p (λ_=>Qm)<|Go.Lg.pig (g:=Zi) (i:=i.toNat) O Xf h3.arr O (congrArg (Value.int .i64) h8) U λhZ hC=>?_;rw[hq]at hC;refine p (λ_=>Zg O)<|pq (λ_ hc=>Qv ((hC.fld 0 (.string q.nm) O).st hc) O)<|p (λ_=>Qa O)<|pq (λ_ hc=>Qd (V.step hc hl) O O)<|p (λ_=>Qa O) <|
  pq (λ_ hc=>Qd (V.step hc hl) O O)<|p (λ_=>Qa O)<|pq (λ_ hc=>Qd (V.step hc hl) O O) <|
  p (λ_=>Qa O)<|pq (λ_ hc=>Qd (V.step hc hl) O O)<|pk<|xf<|(Yv (hw.al.ext Y)).mono ?_
 rintro r4 w4 ⟨ha,hy⟩;refine⟨(Y.trans ha).any,?_⟩;refine pk<|xf<|(Yv ((hw.mr.ext Y).ext ha)).mono ?_;rintro r5 w5 ⟨hg,hz⟩;refine⟨((Y.trans ha).trans hg).any,?_⟩;refine pk<|xf<|(zn (((hw.ed.ext Y).ext ha).ext hg)).mono ?_;rintro r6 w6 ⟨h2,h4⟩;have hn:=((Y.trans ha).trans hg).trans h2;refine⟨hn.any,?_⟩
 refine p (λ_=>QN ⟨Zo hy,O,Zo hz,Zo h4,Z⟩)<|p (λ_=>Zx [(0,[.string q.nm]),(1,[r4,.int .i64 q.p.a.st,r5,r6])] ⟨O,O,O,O,Z⟩)<|pk<|QF (us:=[Zi ⟨q.nm,⟨r4,r5,r6,q.p.a⟩⟩]) O O (by decide) (by simp) ⟨rfl,rfl,Z⟩ λga w7 he gb hK=>⟨(hn.trans he).any,?_⟩;have ho:=(hj.trans hn).trans he;have gc:=ho.size;have ge:({ E with drawn:=E.drawn+1 }:World).heap.size=E.heap.size:=rfl
 have gg:=ha.size;have gh:=hg.size;refine pk<|Q5 (m:=1) (news:=Zi ⟨q.nm,⟨r4,r5,r6,q.p.a⟩⟩) (L:=[]) (Qs I.own ho) O O O (hK.at (by simp)) (λu hu=>by
   simp only[List.mem_cons,List.not_mem_nil,or_false]at hu;rcases hu with rfl|rfl|rfl|rfl|rfl
   ·rfl
   ·exact QK hy
   ·rfl
   ·exact QK hz
   exact QK h4) (by omega) (by omega) λv8 w8 hM h5 hN=>⟨(hn.trans he).any.trans' h5,?_⟩
 refine p (λ_=>Qf)<|pe ?_;have hO:=G.al.le;have hP:=G.mr.le;have hQ:=G.ed.le;have hR:IvP w.heap.size w8 v8 (qo++[⟨q.nm,⟨r4,r5,r6,q.p.a⟩⟩]):=I.app ho (λt ht=>by
  simp only[List.mem_cons,List.not_mem_nil,or_false]at ht;rcases ht with rfl|rfl|rfl
  ·exact⟨_,_,Qs (Qs (Qs hy hg) h2) he,hO,by omega⟩
  ·exact⟨_,_,Qs (Qs hz h2) he,hP,by omega⟩
  exact⟨_,_,Qs h4 he,hQ,by omega⟩) (by omega) hM h5 hN
 refine Qx<|QM O O<|Qb<|xe<|⟨(k+1,v8,_),by simp only[];omega,⟨O,O,Z⟩,J,(H.trans ho).then h5 (λb hb=>.inr (hv b hb).1),hR,?_,λq' hS=>?_⟩
 ·simp only[];rw[hA,Lv,hf];rfl
 rcases Lq.1 hS with h9|h9
 ·exact hp q' h9
 simp only[List.mem_singleton]at h9;subst h9;exact hG
theorem yo {L:LN}{w:World}{bp bm:Nat}{G H I J:Value}{co:LI}{mi:Bool}(U:QT w.heap bp 281 [G,H,I,J])(hm:QT w.heap bm 4 [.bool mi])(V:QH L w.heap G co)(hi:Yn co)(n:Int):
  QE prog 197 [.int .i64 n,.pointer (some ⟨bp,0,none⟩),.pointer (some ⟨bm,0,none⟩)] w λr w'=>Step [bm] w w'∧r=.int .i64 (lwB co n)∧QT w'.heap bm 4 [.bool (mi || !decide (n∈co))]:=by
 refine QE.of_W func197 O ntmps197 results197 (by simp) ?_;refine Qc<|Qe<|Qc<|x (Qa O)<|x (Qd U O O)<|Qb<|xl O<|xf<|(QbF V hi n).mono ?_;rintro r1 Y ⟨rfl,rfl⟩;refine Qb<|x (Qj O O)<|x (Qj O O)<|x Qf<|Qe<|QX (α:=Bool) [(14,18)] (λz=>[]) (λz w'=>Step [bm] Y w'∧QT w'.heap bm 4 [.bool (mi || !decide (n∈co))]) (by rfl) ?_ ?_
 ·refine Qx<|xB (Qd hm O O) (λE=>?_) (λE=>?_)
  ·refine Qb<|xs O<|xs O<|x (Qq O)<|xl O<|QB (j:=0) (u:=.bool true) hm O O (by simp) rfl λw2 ha hb=>xe ?_;exact⟨true,Z,ha,by rw[E];exact hb⟩
  refine Qb<|Qb<|x (Zq O)<|x (Qq O)<|xl O<|QB (j:=0) (u:=.bool (!decide (n∈co))) hm O O (by simp) rfl λw3 hc he=>xe ?_;exact⟨true,Z,hc,by rw[E];exact he⟩
 rintro z g w4 ⟨hf,hg⟩;refine Qc<|Qb<|Qe ?_;exact Qk ⟨[_],La,hf,O,hg⟩
theorem ZY.of_lt {base N:Nat}{av:LN}{H:Array Obj}{v:Value}{n sz:Nat}{cs:LV}(h:∀L:LN,(∀b∈L,b<N)→Zv L H v n sz cs)(hb:base≤N)(E:∀b∈av,b<N):ZY base av H v n sz cs:=λL G =>
 h L (λb I=>(G b I).elim (λh=>by omega) (E b))
theorem XJ (L:LN)(H:Array Obj):QH L H (nS) []:=Zv.nil L H 1
end Go.Proofs.YtjcgijbhaemldaaGreatDoor
namespace Go.Lg
open Go.RowKit
def zJ (P:Program)(all:List Oper)(C:World→Prop)(K:LN→Fr→World→Prop):List (Nat×Bool)→LN→Fr→World→Prop
 | [],own,f,w=>K own f w
 | (j,true)::l,own,f,w=>Z6 all f (QL all j)=true∧∃v,(∀w',(zT (QL all j)=true→C w')→(execOp (ev f) (QL all j)).run P w'=.ok (.value v) w')∧zJ P all C K l own (QZ f (QL all j).dst v) w
 | (j,false)::l,own,f,w=>Z6 all f (QL all j)=true∧∀w1,Step [] w w1→C w1→XO P (QL all j) f w1 λE w'=>C w'∧∃own',Step own w1 w'∧(∀b∈own',b∈own∨(w1.heap.size≤b∧b<w'.heap.size))∧zJ P all C K l own' E w'
section
variable {P:Program}{n:Nat}{f:Fr}{w:World}{all:List Oper}{C:World→Prop}{K:Fr→World→Prop}{KF:LN→Fr→World→Prop}
theorem zJ.ext (E:∀own f w w',KF own f w→Step [] w w'→KF own f w'):∀{l:List (Nat×Bool)}{own:LN}{f:Fr}{w w':World},zJ P all C KF l own f w→Step [] w w'→zJ P all C KF l own f w'
 | [],_,_,_,_,h,hs=>E _ _ _ _ h hs
 | (_,true)::_,_,_,_,_,h,hs=>by
  obtain⟨G,v,H,hx⟩:=h;exact⟨G,v,H,zJ.ext E hx hs⟩
 | (_,false)::_,_,_,_,_,h,hs=>⟨h.1,λI h1 hc=>h.2 I (hs.trans h1) hc⟩
structure Fl2 (P:Program)(all:List Oper)(C:World→Prop)(K:Fr→World→Prop)(KF:LN→Fr→World→Prop)(i d:Nat)(rest:List (Nat×Bool))(Φ:Value→World→Prop)(Dc:List (Nat×Nat))(f1:Fr):Prop where
 stab:∀v (own:LN) w w',Φ v w→Step own w w'→(∀b∈ow v,b∉own)→Φ v w'
 spec:∀f w,(∀t,Y8 Dc t=false→f t=f1 t)→C w→XO P (QL all i) f w λf' w'=>Step [] w w'∧C w'∧Φ (f' d) w'∧∀b∈ow (f' d),w.heap.size≤b∧b<w'.heap.size
 fin:∀own f w,KF own f w→∀v,C w→Φ v w→(∀b∈ow v,b∉own∧b<w.heap.size)→XP P all C K rest (QZ f (some d) v) w
 mono:∀own f w w',KF own f w→Step [] w w'→KF own f w'
attribute [local semireducible] XP in
theorem UB {i d:Nat}{rest:List (Nat×Bool)}{Φ:Value→World→Prop}{Dc:List (Nat×Nat)}{f1:Fr}(G:Fl2 P all C K KF i d rest Φ Dc f1)(hs:Region.noSelect all.toArray=true){v:Value}:∀(l:List (Nat×Bool)) (own:LN) (f:Fr) (w:World),Yg all d l=true→zJ P all C KF l own f w→C w→Φ v w →
  (∀b∈ow v,b∉own∧b<w.heap.size)→XP P all C K (l++rest) (QZ f (some d) v) w
 | [],own,f,w,_,h,hC,H,hb=>G.fin own f w h v hC H hb
 | (j,q)::l,own,f,w,hfr,h,hC,H,hb=>by
  simp only[Yg,List.all_cons,Bool.and_eq_true,Bool.not_eq_true',List.contains_eq_mem,decide_eq_false_iff_not,beq_eq_false_iff_ne,ne_eq]at hfr;obtain⟨⟨h1,h2⟩,hfr⟩:=hfr;have I:Yg all d l=true:=by simpa[Yg]using hfr
  have T:∀cs b,(QL all j).op≠.select cs b:=by
   intro cs b;cases J:all[j]? with
   | none =>
    have:QL all j=default:=by
     clear h h1 h2 hfr I;have key:∀(l:List Oper) (j:Nat),l[j]?=none→QL l j=default:=by
      intro l;induction l with
      | nil=>intro j _;rfl
      | cons a l ih=>intro j hj;cases j with|zero=>simp at hj|succ j=>exact ih j (by simpa using hj)
     exact key all j J
    rw[this];intro e;cases e
   | some o=>rw[Zd J];exact Region.noSelect_spec hs j o cs b (by simpa using J)
  have hd:∀e,some d=some e→e∉(QL all j).looksAt all.toArray:=λe he=>by cases he;exact h1
  cases q with
  | true =>
   obtain⟨Y,u,hu,hx⟩:=h;simp only[List.cons_append,XP];rw[JD (QL all j) f (some d) v hd,Y,cond_true,cond_true];refine⟨u,λw' hc=>?_,?_⟩
   ·rw[Xw (all:=all) T f (some d) v hd];exact hu w' hc
   rw[KP f v u (λe he=>by cases he;exact h2)];exact UB G hs l own _ w I hx hC H hb
  | false =>
   simp only[List.cons_append,XP];rw[JD (QL all j) f (some d) v hd,h.1,cond_true,cond_false];refine Qep (all:=all) T h1 h2 (λu w' hx=>?_) (h.2 w (Step.refl _ _) hC);obtain⟨U,own',V,ha,hx⟩:=hx;refine⟨.inr (.inr U),UB G hs l own' _ w' I hx U (G.stab v own w w' H V (λb E=>(hb b E).1)) (λb E=>⟨λhm=>?_,L4 (hb b E).2 V.size⟩)⟩
   rcases ha b hm with h3|h3
   ·exact(hb b E).1 h3
   exact Nat.lt_irrefl _ (L4 (hb b E).2 h3.1)
theorem QcS {i d:Nat}{rest:List (Nat×Bool)}{Φ:Value→World→Prop}{Dc:List (Nat×Nat)}{f1:Fr}(G:Fl2 P all C K KF i d rest Φ Dc f1)(hs:Region.noSelect all.toArray=true)(J:(QL all i).guard=none)(hd:(QL all i).dst=some d):∀(l:List (Nat×Bool)) (ls:Array Bool) (own:LN) (f:Fr) (w:World),ls.size=all.length→Yg all d l=true→Yd all Dc l=true→(∀t,Y8 Dc t=false→f t=f1 t) →
  zJ P all C KF l own f w→C w→(∀b∈own,b<w.heap.size)→zc all.toArray i rest l ls=true→XA P all C K (l.length+1+rest.length) ls f w
 | [],ls,own,f,w,U,hfr,H,hk1,h,hC,T,hp=>by
  simp only[zc,Bool.and_eq_true,beq_iff_eq]at hp;obtain⟨I,hp⟩:=hp;rw[show([]:List (Nat×Bool)).length+1+rest.length=rest.length+1 by simp;omega];refine YP (λh0=>(by rw[h0]at I;cases I)) ?_;rw[I];intro k hk o E;have Y:k=i:=by simpa using hk
  subst Y;have V:=Zd E;have hx:=G.spec f w hk1 hC;rw[V]at J hd hx;rw[X1 J,cond_true];refine hx.mono λv w' hx=>?_;rw[hd]at hx ⊢;obtain⟨h1,h2,h3,h4⟩:=hx;simp only[QZ,YG]at h3 h4
  refine⟨.inr (.inr h2),Zy hs rest _ _ _ (by simpa using U) (.inl h2) hp (G.fin own f w' (G.mono own f w w' h h1) v h2 h3 (λb hb=>⟨λhm=>Nat.lt_irrefl _ (L4 (T b hm) (h4 b hb).1),(h4 b hb).2⟩))⟩
 | (j,true)::l,ls,own,f,w,U,hfr,H,hk1,h,hC,T,hp=>by
  simp only[zc,Bool.and_eq_true]at hp;obtain⟨⟨I,hf⟩,ha⟩:=hp;have hh:j∈Region.ready .any all.toArray ls:=by simpa using I
  have e:(List.length ((j,true)::l))+1+rest.length=(l.length+1+rest.length)+1:=by simp;omega
  rw[e];have hc:Yg all d l=true:=by simp only[Yg,List.all_cons,Bool.and_eq_true]at hfr;exact hfr.2
  simp only[Yd,List.all_cons,Bool.and_eq_true]at H;have he:Yd all Dc l=true:=H.2;cases E:all[j]? with
  | none =>
   exfalso;obtain⟨_,o,ht,_⟩:=mem_ready.1 hh;simp[E]at ht
  | some o =>
   obtain⟨hi,v,hv,hx⟩:=h;rw[Zd E]at hi hv hx;have hu:∀(j:Nat) (o:Oper) cs b,all[j]?=some o→o.op≠.select cs b:=λj o cs b hj=>Region.noSelect_spec hs j o cs b (by simpa using hj);have hw:=λk ok hk=>Region.free_spec (ops:=all.toArray) (md:=.any) (i:=j) (oi:=o) (listed:=ls) (by simpa using E) hf k ok (by simpa using hk)
   exact Xx (v:=v) (D:=λw=>zT o=true→C w) E (λ_ h=>h) hu _ ls f w (λ_=>hC) hw hh (.inl ⟨hi,hv⟩) (QcS G hs J hd l _ own _ w (by simpa using U) hc he (by have:=Kr (v:=v) H.1 hk1;rw[Zd E]at this;exact this) hx hC T ha)
 | (j,false)::l,ls,own,f,w,U,hfr,H,hk1,h,hC,T,hp=>by
  simp only[zc,Bool.and_eq_true,List.all_eq_true,Bool.or_eq_true,beq_iff_eq,Bool.not_eq_true']at hp;obtain⟨⟨⟨hl,I⟩,hy⟩,ha⟩:=hp;have e:(List.length ((j,false)::l))+1+rest.length=(l.length+1+rest.length)+1:=by simp;omega
  rw[e];have hc:Yg all d l=true:=by simp only[Yg,List.all_cons,Bool.and_eq_true]at hfr;exact hfr.2
  simp only[Yd,List.all_cons,Bool.and_eq_true]at H;have he:Yd all Dc l=true:=H.2;refine YP (λh0=>(by rw[h0]at hl;cases hl)) ?_;intro k hk o E;have V:=Zd E;have hn:(ls.setIfInBounds k true).size=all.length:=by simpa using U
  by_cases Y:k=i
  ·subst Y;have hx:=G.spec f w hk1 hC;rw[V]at J hd hx;rw[X1 J,cond_true];refine hx.mono λv w' hx=>?_;rw[hd]at hx ⊢;obtain⟨h1,h2,h3,h4⟩:=hx;simp only[QZ,YG]at h3 h4;refine⟨.inr (.inr h2),?_⟩;have hx:=UB G hs ((j,false)::l) own f w' hfr (zJ.ext G.mono h h1) h2 h3 (λb hb=>⟨λhm=>Nat.lt_irrefl _ (L4 (T b hm) (h4 b hb).1),(h4 b hb).2⟩)
   have:=Zy hs ((j,false)::(l++rest)) _ _ _ hn (.inl h2) hy hx;rw[show((j,false)::(l++rest)).length=l.length+1+rest.length by simp;omega]at this;exact this
  have hz:k=j:=(I k hk).resolve_right Y;subst hz;have h1:=h.1;have h2:=h.2 w (Step.refl _ _) hC;rw[V]at h1 h2;rw[h1,cond_true];refine h2.mono λv w' hx=>?_;obtain⟨hq,own',h5,h6,hx⟩:=hx;refine⟨.inr (.inr hq),QcS G hs J hd l _ own' _ w' hn hc he (by have:=Kr (v:=v) H.1 hk1;rw[V]at this;exact this) hx hq (λb hb=>?_) ha⟩;rcases h6 b hb with h3|h3
  ·exact L4 (T b h3) h5.size
  exact h3.2
theorem zJ.keeps {D:List (Nat×Nat)}{f0:Fr}:∀(l:List (Nat×Bool)) (own:LN) (f:Fr) (w:World),Yd all D l=true→(∀t,Y8 D t=false→f t=f0 t)→zJ P all C KF l own f w→zJ P all C (λo G w'=>(∀t,Y8 D t=false→G t=f0 t)∧KF o G w') l own f w
 | [],own,f,w,_,E,h=>⟨E,h⟩
 | (j,true)::l,own,f,w,hd,E,h=>by
  simp only[Yd,List.all_cons,Bool.and_eq_true]at hd;obtain⟨H,v,I,hx⟩:=h;exact⟨H,v,I,zJ.keeps l own _ _ hd.2 (Kr hd.1 E) hx⟩
 | (j,false)::l,own,f,w,hd,E,h=>by
  simp only[Yd,List.all_cons,Bool.and_eq_true]at hd;refine⟨h.1,λJ h1 hc=>XO.mono (λv w' hx=>?_) (h.2 J h1 hc)⟩;obtain⟨T,own',U,V,hx⟩:=hx;exact⟨T,own',U,V,zJ.keeps l own' _ _ hd.2 (Kr hd.1 E) hx⟩
theorem f2p {j:Nat}{l:List (Nat×Bool)}{own:LN}{v:Value}(E:∀w',(execOp (ev f) (QL all j)).run P w'=.ok (.value v) w')(h:zJ P all C KF l own (QZ f (QL all j).dst v) w)
  (G:Z6 all f (QL all j)=true:=by rfl):zJ P all C KF ((j,true)::l) own f w:=⟨G,v,λw' _=>E w',h⟩
theorem f2k {j:Nat}{l:List (Nat×Bool)}{own:LN}(h:∀w1,Step [] w w1→C w1→XO P (QL all j) f w1 λE w'=>C w'∧∃own',Step own w1 w'∧(∀b∈own',b∈own∨(w1.heap.size≤b∧b<w'.heap.size))∧zJ P all C KF l own' E w')
  (G:Z6 all f (QL all j)=true:=by rfl):zJ P all C KF ((j,false)::l) own f w:=⟨G,h⟩
theorem f2e {own:LN}(h:KF own f w):zJ P all C KF [] own f w:=h
theorem jd {Q:Exit→Fr→World→Prop}{id:Nat}{α:Type}(C:World→Prop)(pre l:List (Nat×Bool))(i d:Nat)(rest:List (Nat×Bool))(own:LN)(D Dc:List (Nat×Nat))(S:α→List (Nat×Value))(I:α→LN→World→Prop)(Φ:Value→World→Prop)(hm:P.follows .mixedOrders=true)(T:Xb n all=true)
  (hp:Qhf all pre l i rest=true) (G:(Yd all D pre && Yd all D l && Yd all Dc l)=true) (hd:(QL all i).dst=some d) (hC:C { w with drawn:=w.drawn+1 }) (U:∀b∈own,b<w.heap.size)
  (stab:∀v (own:LN) w w',Φ v w→Step own w w'→(∀b∈ow v,b∉own)→Φ v w') (mono:∀z own w w',I z own w→Step [] w w'→I z own w')
  (fin:∀z g own w v,I z own w→C w→Φ v w→(∀b∈ow v,b∉own∧b<w.heap.size)→XP P all C (λf w=>Q .normal f w) rest (QZ (Vg (S z) (mix D f g)) (some d) v) w)
  (h:XP P all C (λf1 _=>(∀g w,C w→XO P (QL all i) (mix Dc f1 g) w λE w'=>Step [] w w'∧C w'∧Φ (E d) w'∧∀b∈ow (E d),w.heap.size≤b∧b<w'.heap.size)∧zJ P all C (λo E w'=>∃z,YL E (S z)∧I z o w') l own f1 { w with drawn:=w.drawn+1 }) pre f { w with drawn:=w.drawn+1 }):W P n (.region id all.toArray true) Q f w:=by
 rw[Lu,Lu]at G;simp only[Qhf,Bool.and_eq_true,beq_iff_eq,Option.isNone_iff_eq_none]at hp;obtain⟨⟨⟨⟨⟨hs,hl⟩,hq⟩,V⟩,Y⟩,hfr⟩:=hp;rw[hd]at hfr;refine YW C hm T ?_;have h1:=ZM (K:=λf w=>Q .normal f w) (m:=l.length+1+rest.length) hs pre (Array.replicate all.length false) f _ hC hq
  (B:=λf1 _=>Fl2 P all C (λf w=>Q .normal f w) (λo E w'=>(∀t,Y8 D t=false→E t=f t)∧∃z,YL E (S z)∧I z o w') i d rest Φ Dc f1∧zJ P all C (λo E w'=>(∀t,Y8 D t=false→E t=f t)∧∃z,YL E (S z)∧I z o w') l own f1 { w with drawn:=w.drawn+1 })
  (λf1 J=>QcS J.1 hs Y hd l (Zt pre (Array.replicate all.length false)) own f1 _ (by rw[ZK];simp) hfr G.2 (λ_ _=>rfl) J.2 hC U V)
  (XP.keeps_mono _ _ _ (XP.keeps pre f _ G.1.1 (λ_ _=>O) h) (λf1 w1 hx=>⟨⟨stab,?_,?_,?_⟩,zJ.keeps l own _ _ G.1.2 hx.1 hx.2.2⟩))
 ·rw[hl]at h1;exact h1
 ·intro E w' hk H;have:=hx.2.1 E w' H;rw[Y4 hk]at this;exact this
 ·rintro o E w' ⟨hk,z,hs,hi⟩ v H hv hb;have:=fin z E o w' v hi H hv hb;rw[Y4 hk,Ym hs]at this;exact this
 rintro o E w' hc ⟨hk,z,hs,hi⟩ ha;exact⟨hk,z,hs,mono z o _ _ hi ha⟩
end
attribute [irreducible] zJ
end Go.Lg
namespace Go.Proofs.YtjcgijbhaemldaaGreatDoor
open Go.Lg
abbrev YR:LV:=[nS,nS,nS,nS,nS]
abbrev VP:LV:=[nS,.int .i64 0,nS,nS]
theorem YZ {a:Array UInt8}(h:a.size≤100):(⟨a⟩:ByteArray).size≤9223372036854775807:=by
 show a.size≤_;omega
def rgB (N M:Nat):LN:=(List.range M).filter λb=>decide (N≤b)
theorem Ji {N M b:Nat}:b∈rgB N M↔N≤b∧b<M:=by
 unfold rgB;rw[LP,MU,decide_eq_true_iff];exact And.comm
open Go.Proofs.Tryz
def Vb (co:LI)(ls:List (Int×Int)):List (Int×Int):=ls.map λl=>((lwB co l.1:Int),l.2)
theorem QdN {co:LI}(hi:Yn co){ls:List (Int×Int)}(h:mis co ls=false):Vb co ls=ixP co ls:=by
 unfold Vb ixP;refine Nu λl hl=>?_;unfold mis at h;have h1:=Nr.1 h l hl;have hm:l.1∈co:=by simpa using h1
 rw[QdD hi hm]
abbrev exG (c:ZA)(i:Int):Exc:=c.ex.getD i.toNat ⟨.empty,[]⟩
abbrev csG (c:ZA)(i:Int):Jt:=c.cs.getD i.toNat ⟨.empty,[],0⟩
def exB (c:ZA)(co ix:LI):List Exc:=ix.map λi=>⟨(exG c i).nm,Vb co (exG c i).ls⟩
def csB (c:ZA)(co ix:LI):List Jt:=ix.map λi=>⟨(csG c i).nm,Vb co (csG c i).ts,(csG c i).bd⟩
def exM (c:ZA)(co ix:LI):Bool:=ix.any λi=>mis co (exG c i).ls
def csM (c:ZA)(co ix:LI):Bool:=ix.any λi=>mis co (csG c i).ts
theorem Qi4 (c:ZA)(p:Prt):QmY c p=(exM c p.co p.ex || csM c p.co p.cs):=rfl
theorem Qka {c:ZA}{p:Prt}(hi:Yn p.co)(h:exM c p.co p.ex=false):exB c p.co p.ex=Qi3 c p:=by
 unfold exB Qi3;refine Nu λi E=>?_;rw[QdN hi (by have:=Nr.1 h i E;simpa using this)]
theorem Qkh {c:ZA}{p:Prt}(hi:Yn p.co)(h:csM c p.co p.cs=false):csB c p.co p.cs=Qi5 c p:=by
 unfold csB Qi5;refine Nu λi E=>?_;rw[QdN hi (by have:=Nr.1 h i E;simpa using this)]
def ck4:List (Value×LI×Int)→Int
 | []=>0
 | (_,s,n)::l=>if Y0 n none s≠0 then Y0 n none s else ck4 l
abbrev skC (x:Value×LI×Int):LV:=[x.1,.int .i64 x.2.2]
theorem Qln (x:Value×LI×Int):(skC x).length=2:=rfl
theorem Qbz:∀{l:List (Value×LI×Int)},ck4 l=0→∀x∈l,Y0 x.2.2 none x.2.1=0
 | [],_,x,hx=>by cases hx
 | (v,s,n)::l,h,x,hx=>by
  rw[ck4]at h;by_cases h1:Y0 n none s≠0
  ·rw[if_pos h1]at h;exact absurd h h1
  rw[if_neg h1]at h;rcases Lc.1 hx with rfl|hx
  ·exact Lm.1 h1
  exact Qbz h x hx
theorem Z5.app2 {α:Type}{g:α→LV}{sz T:Nat}{p:α→Value×Nat×Nat×LV}{base N e:Nat}{E G:World}{v H:Value}{l:List α}{q:α}(h:Z5 g sz T p base E v l)
  (hq:E.ownsRow N e (p q).2.2.1 (p q).1 (p q).2.1 (p q).2.2.2) (U:(p q).2.1≤1099511627776) (hb:base≤N) (V:∀b∈ob v,b<N)
  (Y:G.ownsRow base T sz H (l.length+1) (l.flatMap g++g q)) (I:Step (ob v) E G) (J:∀b∈ob H,b∈ob v∨E.heap.size≤b):Z5 g sz T p base G H (l++[q]):=by
 refine⟨?_,λd hd=>?_⟩
 ·rw[Lj,LC];simpa using Y
 rcases Lq.1 hd with hd|hd
 ·exact(h.each d hd).app I J
 simp only[List.mem_singleton]at hd;subst hd;exact(ZY.of_own hq U hb V).app I J
instance:Bw prog 37 [nS,nS,nS,nS,nS] [(0,1),(1,1),(2,1),(3,1),(4,1)]:=⟨by kernel_rfl,by decide⟩
theorem XQ {v:Value}(h:v.oneCell'=true):v.cells=[v].toArray:=by
 cases v <;> first|rfl|cases h
theorem QgY {N M:Nat}{w':World}{v:Value}{qs:List IV}(h:∀L:LN,(∀b∈L,b<N)→Y9 L w'.heap v qs)(H:w'.heap.size=M){L:LN}(E:∀b∈L,b∉rgB N M):Y9 L w'.heap v qs:=by
 refine(h (L.filter λb=>decide (b<N)) (λb hb=>by have:=(LP.1 hb).2;exact of_decide_eq_true this)).up (λb hb=>?_);by_cases G:b<N
 ·exact .inl (LP.2 ⟨hb,decide_eq_true G⟩)
 refine .inr ?_;have:=E b hb;rw[Ji]at this;omega
structure EiA (L:LN)(H:Array Obj)(z:Value×Value×Value)(ev:List Kc)(qc qr:List IV):Prop where
 ev:J9 L H z.1 ev
 co:Y9 L H z.2.1 qc
 rq:Y9 L H z.2.2 qr
theorem EiA.ext {L:LN}{w w':World}{z:Value×Value×Value}{ev:List Kc}{qc qr:List IV}(h:EiA L w.heap z ev qc qr)(hs:Step [] w w'):EiA L w'.heap z ev qc qr:=⟨h.ev.ext hs,h.co.ext hs,h.rq.ext hs⟩
theorem EiA.st {L:LN}{w w':World}{z:Value×Value×Value}{ev:List Kc}{qc qr:List IV}(h:EiA L w.heap z ev qc qr)(hs:Step L w w'):EiA L w'.heap z ev qc qr:=⟨h.ev.st hs,h.co.st hs,h.rq.st hs⟩
theorem EiA.up {L L':LN}{H:Array Obj}{z:Value×Value×Value}{ev:List Kc}{qc qr:List IV}(h:EiA L H z ev qc qr)(E:∀b∈L',b∈L∨H.size≤b):EiA L' H z ev qc qr:=⟨h.ev.up E,h.co.up E,h.rq.up E⟩
set_option maxRecDepth 4096 in
set_option maxHeartbeats 16000000 in
theorem QcM {L:LN}{w:World}{c:CL}{v0 v1 v2 v3:Value}{p:Prt}(H:ZJ L w.heap c)(hc0:QH L w.heap v0 p.co)(hr0:QH L w.heap v1 p.rq)(hx0:QH L w.heap v2 p.ex)(hk0:QH L w.heap v3 p.cs):
  QE prog 158 [c.val,.agg #[v0,v1,v2,v3]] w λr w'=>Step [] w w'∧∃us,r=.tuple #[.agg us.toArray,.int .i64 (jp c.cel p)]∧us.length=5∧ZH us∧(jp c.cel p≠0→us=YR)∧(jp c.cel p=0→Qiq w.heap.size w'.heap (.agg us.toArray) (QeA c.cel p)):=by
 have h:=H.up (L':=[]) (by simp);have hc:=hc0.up (L':=[]) (by simp);have hr:=hr0.up (L':=[]) (by simp);have hx:=hx0.up (L':=[]) (by simp);have hk:=hk0.up (L':=[]) (by simp)
 have I:jp c.cel p=if Zk c.cel≠0 then Zk c.cel else if ck4 [(v0,p.co,(c.co.length:Int)),(v1,p.rq,(c.rq.length:Int)),(v2,p.ex,(c.ex.length:Int)),(v3,p.cs,(c.cs.length:Int))]≠0 then ck4 [(v0,p.co,(c.co.length:Int)),(v1,p.rq,(c.rq.length:Int)),(v2,p.ex,(c.ex.length:Int)),(v3,p.cs,(c.cs.length:Int))]
   else if(exM c.cel p.co p.ex || csM c.cel p.co p.cs)=true then 13 else Zk (QeA c.cel p):=by
  have e1:c.cel.co.length=c.co.length:=Lh ..;have e2:c.cel.rq.length=c.rq.length:=Lh ..;have e3:c.cel.ex.length=c.ex.length:=Lh ..;have e4:c.cel.cs.length=c.cs.length:=Lh ..;unfold jp;rw[e1,e2,e3,e4,Qi4];simp only[ck4];by_cases q0:Zk c.cel≠0
  ·rw[if_pos q0,if_pos q0]
  rw[if_neg q0,if_neg q0];by_cases q1:Y0 (c.co.length:Int) none p.co≠0
  ·simp only[if_pos q1]
  simp only[if_neg q1];by_cases q2:Y0 (c.rq.length:Int) none p.rq≠0
  ·simp only[if_pos q2]
  simp only[if_neg q2];by_cases q3:Y0 (c.ex.length:Int) none p.ex≠0
  ·simp only[if_pos q3]
  simp only[if_neg q3];by_cases q4:Y0 (c.cs.length:Int) none p.cs≠0
  ·simp only[if_pos q4]
  simp only[if_neg q4];simp
 refine Zb (jp c.cel p) λE hE=>?_;rw[hE]at I ⊢;refine Zb [(v0,p.co,(c.co.length:Int)),(v1,p.rq,(c.rq.length:Int)),(v2,p.ex,(c.ex.length:Int)),(v3,p.cs,(c.cs.length:Int))] λG gg=>?_;rw[gg]at I;have hl4n:G.length=4:=by rw[←gg];rfl
 have hl4i:∀x∈G,QH [] w.heap x.1 x.2.1:=by
  rw[←gg];intro x hm;simp only[List.mem_cons,List.not_mem_nil,or_false]at hm;rcases hm with rfl|rfl|rfl|rfl
  ·exact hc
  ·exact hr
  ·exact hx
  exact hk
 have hl4z:ck4 G=0→Y0 (c.co.length:Int) none p.co=0∧Y0 (c.rq.length:Int) none p.rq=0∧Y0 (c.ex.length:Int) none p.ex=0∧Y0 (c.cs.length:Int) none p.cs=0:=by
  intro H;have h1:=Qbz H;rw[←gg]at h1;exact⟨h1 (v0,p.co,_) (by simp),h1 (v1,p.rq,_) (by simp),h1 (v2,p.ex,_) (by simp),h1 (v3,p.cs,_) (by simp)⟩
 have hxl:=hx.le;have hkl:=hk.le;refine QE.of_W func158 O ntmps158 results158 (by simp) ?_;refine Qc<|xl O<|QQ (us:=c.cells) O λb2 w1 hs1 hb2 ms=>xl O<|QQ (us:=[v0,v1,v2,v3]) O λb3 w2 mt hb3 j4=>xl O<|Qu (us:=YR) O λb4 w3 kb hb4 za=>Qe ?_;have hl2:=ms.lt;have hl3:=j4.lt;have hl4':=za.lt;have zb:=(hs1.trans mt).trans kb
 refine Qg<|Qc<|x (Qn ((ms.ext mt).ext kb) O O)<|xl O<|xf<|(Xi (h.ext zb)).mono ?_;rintro r4 w4 ⟨rfl,gh⟩;refine Qe ?_;have mu:=zb.trans gh;have hz4:=gh.size;have gi:=((ms.ext mt).ext kb).ext gh;have gj:=(j4.ext kb).ext gh;have mv:=za.ext gh;refine Qc<|Qb<|x (Q7 O O)<|xe<|Q4 rfl (λkc=>?_) (λkc=>?_)
 ·rw[if_pos kc]at I;subst I;refine Qc<|x (QN Z)<|Qb<|xl O<|Qo (us:=YR) mv O O O O ⟨O,O,O,O,O,Z⟩ λw5 hs5 hB45=>Qe ?_;exact Qk ⟨[.agg YR.toArray,.int .i64 (Zk c.cel)],⟨⟨_,O,Qw O (hB45.at (L:=[]) (by simp)).cells⟩,rfl,Z⟩,mu.then1 hs5 (by omega),YR,rfl,rfl,⟨rfl,rfl,rfl,rfl,rfl,Z⟩,λ_=>rfl,λH=>absurd H kc⟩
 rw[if_neg kc]at I;refine Qi ?_;have h4:=h.ext mu;refine Qg<|Qc<|x (Qa O)<|x (Qd gj O O)<|x (Qa O)<|x (Qd gi O O)<|x (Qr h4.co.arr O)<|x (QN ⟨hc.cells,O,Z⟩) <|
  x (Qa rfl)<|x (Qd gj O O)<|x (Qa O)<|x (Qd gi O O)<|x (Qr h4.rq.arr O)<|x (QN ⟨hr.cells,O,Z⟩) <|
  x (Qa rfl)<|x (Qd gj O O)<|x (Qa O)<|x (Qd gi O O)<|x (Qr h4.ex.arr O)<|x (QN ⟨hx.cells,O,Z⟩) <|
  x (Qa rfl)<|x (Qd gj O O)<|x (Qa O)<|x (Qd gi O O)<|x (Qr h4.cs.arr O)<|x (QN ⟨hk.cells,O,Z⟩) <|
  xl rfl<|QF (us:=[skC (v0,p.co,(c.co.length:Int)),skC (v1,p.rq,(c.rq.length:Int)),skC (v2,p.ex,(c.ex.length:Int)),skC (v3,p.cs,(c.cs.length:Int))]) O O (by decide) (by simp) ⟨rfl,rfl,rfl,rfl,rfl,rfl,rfl,rfl,Z⟩ λb54 w6 hR hb54 hB54=>?_
 have z0:Zv [] w6.heap (.slice (some ⟨b54,0,none⟩) 4 4) G.length 2 (G.flatMap skC):=by
  have:=hB54.arr (L:=[]) (by simp) (n:=4) (cap:=4) (sz:=2) (by rfl) (by omega) (Lt _);rw[hl4n,←gg];exact this
 refine x (Qr z0 O)<|Qb<|xe ?_;have hs06:=mu.trans hR;have hz6:=hR.size;refine Qh<|QA (α:=Nat) [(5,5),(8,9),(56,69)] (λz=>[(56,.int .i64 z)]) (λz w'=>z≤G.length∧Step [] w6 w'∧ck4 (G.drop z)=ck4 G) (λz=>G.length - z) (by rfl) 0 La ⟨Ll _,Step.refl _ _,O⟩ ?_;rintro k g T ⟨hkl4,hz,hck⟩;have gk:=hs06.trans hz;have hz7:=hz.size;refine Qc<|x (Qz O O)<|xe ?_
 refine Qg<|QC O (λmw=>?_) (λmw=>?_)
 ·refine Qy ?_;have hke:G.length≤k:=by have hh:¬(k:Int)<(G.length:Int):=mw;omega
  rw[Ls hke]at hck;have z2:ck4 G=0:=hck.symm;rw[if_neg (λH=>H z2)]at I;obtain⟨zco,zrq,zex,zcs⟩:=hl4z z2;have gl:=(Z7 _ _ _).1 zco;have hrq:=(Z7 _ _ _).1 zrq;have hexz:=(Z7 _ _ _).1 zex;have hcsz:=(Z7 _ _ _).1 zcs;have h7:=h.ext gk;have ke:QT T.heap b2 37 c.cells:=(gi.ext hR).ext hz;have mx:QT T.heap b3 281 [v0,v1,v2,v3]:=(gj.ext hR).ext hz
  have hB47:QT T.heap b4 37 YR:=(mv.ext hR).ext hz;have hsd:Step [] T { T with drawn:=T.drawn+1 }:=Step.drew _ _
  refine QX (α:=Nat×(Value×Value×Value)×List IV×List IV) [(70,83),(10,10)] (λz=>[(10,.pointer (some ⟨z.1,0,none⟩))]) (λz w'=>Step [] T w'∧T.heap.size≤z.1∧QT w'.heap z.1 37 [z.2.1.1,z.2.1.2.1,z.2.1.2.2,nS,nS] ∧
   z.2.2.1.map IV.it=chs c.cel.co p.co∧z.2.2.2.map IV.it=chs c.cel.rq p.rq∧ZH [z.2.1.1,z.2.1.2.1,z.2.1.2.2]∧∀L:LN,(∀b∈L,b<T.heap.size∨b=z.1)→EiA L w'.heap z.2.1 c.ev z.2.2.1 z.2.2.2) (by rfl) ?_ ?_
  ·refine jd (α:=(Value×Value×Value)×List IV×List IV) (Step [] T) [(0,true),(1,true),(3,true),(4,true),(5,true),(6,true),(8,true),(9,true),(10,true),(11,true)] [(2,false),(7,false),(12,false),(13,true)] 14 10 [(15,false)] []
    [(70,83)] [(72,72),(77,77),(82,83)] (λz=>[(83,.agg [z.1.1,z.1.2.1,z.1.2.2,nS,nS].toArray)])
    (λz own w'=>(∀b∈own,T.heap.size≤b)∧z.2.1.map IV.it=chs c.cel.co p.co∧z.2.2.map IV.it=chs c.cel.rq p.rq∧ZH [z.1.1,z.1.2.1,z.1.2.2]∧∀L:LN,(∀b∈L,b∉own)→EiA L w'.heap z.1 c.ev z.2.1 z.2.2)
    (λv w'=>∃b,v=.pointer (some ⟨b,0,none⟩)∧T.heap.size≤b∧QT w'.heap b 37 YR) mixed (by rfl) (by kernel_rfl) (by rfl) O hsd (by simp) ?_ ?_ ?_ ?_
   ·rintro v own wa wb ⟨b,rfl,hb,hB⟩ hs hn;exact⟨b,O,hb,hB.step hs (hn b (by simp[ow]))⟩
   ·rintro z own wa wb ⟨h1,h2,h3,h4,h5⟩ hs;exact⟨h1,h2,h3,h4,λL hL=>(h5 L hL).ext hs⟩
   ·rintro⟨zv,qc,qr⟩ g own wz v ⟨i1,i2,i3,i4,i5⟩ hCz ⟨b10,rfl,kf,hB10⟩ hbo;simp only[]at i2 i3 i4 i5;have z3:=(hbo b10 (by simp[ow])).1;refine pkl (hl:=by kernel_rfl)<|Qo (us:=[zv.1,zv.2.1,zv.2.2,nS,nS]) hB10 O O O O ⟨i4.1,i4.2.1,i4.2.2.1,O,O,Z⟩ λw8 hS hB108=>pe ?_;refine⟨(b10,zv,qc,qr),La,hCz.then1 hS kf,kf,hB108,i2,i3,i4,λL hL=>?_⟩;have h1:=i5 (b10::L) (λb hb=>by
     rcases Lc.1 hb with rfl|hb
     ·exact z3
     rcases hL b hb with h2|h2
     ·exact λh3=>by have:=i1 b h3;omega
     subst h2;exact z3)
    exact(h1.st (hS.mono (by simp))).up (λb hb=>.inl (by simp[hb]))
   refine Go.Lg.p (λ_=>Qa O)<|pq (λ_ hc=>Qd (ke.ext hc) O O)<|Go.Lg.p (λ_=>Qa O)<|pq (λ_ hc=>Qd (ke.ext hc) O O) <|
    Go.Lg.p (λ_=>Qa O)<|pq (λ_ hc=>Qd (mx.ext hc) O O)<|Go.Lg.p (λ_=>Qa O)<|pq (λ_ hc=>Qd (ke.ext hc) O O) <|
    Go.Lg.p (λ_=>Qa O)<|pq (λ_ hc=>Qd (mx.ext hc) O O)<|pe ⟨λg wf z4=>Qu (us:=YR) O λb wf' z5 z9 hBf=>⟨z5,z4.trans z5,⟨b,O,LJ z4.size z9,hBf⟩,λx hx=>?_⟩,?_⟩
   ·have hxe:x=b:=by
     have hx':x∈[b]:=hx;simpa using hx'
    subst hxe;exact⟨z9,hBf.lt⟩
   refine f2k λx1 p1 c1=>xf<|(QcG (h7.ev.ext c1).arr).mono ?_;rintro my y1 ⟨hs1',hT⟩;refine⟨c1.trans hs1',rgB x1.heap.size y1.heap.size,hs1'.any,λb hb=>.inr (Ji.1 hb),?_⟩;refine f2k λx2 p2 c2=>xf<|(zy (h7.co.ext c2) (hc.ext (gk.trans c2)) (λi hi=>gl.1 i hi)).mono ?_;rintro r77 y2 ⟨mz,⟨qc,kg,hqcI⟩,kh⟩
   refine⟨c2.trans mz,rgB x1.heap.size y1.heap.size++rgB x2.heap.size y2.heap.size,mz.any,λb hb=>(Lq.1 hb).imp id λhb=>Ji.1 hb,?_⟩;refine f2k λx3 p3 c3=>xf<|(zy (h7.rq.ext c3) (hr.ext (gk.trans c3)) (λi hi=>hrq.1 i hi)).mono ?_;rintro r82 y3 ⟨ki,⟨qr,kj,hqrI⟩,kk⟩
   refine⟨c3.trans ki,(rgB x1.heap.size y1.heap.size++rgB x2.heap.size y2.heap.size)++rgB x3.heap.size y3.heap.size,ki.any,λb hb=>(Lq.1 hb).imp id λhb=>Ji.1 hb,?_⟩;refine f2p (λ_=>Zx [(0,[my]),(1,[r77]),(2,[r82])] ⟨Zo hT,O,XQ kh,O,XQ kk,O,Z⟩)<|f2e ?_;refine⟨((my,r77,r82),qc,qr),La,λb hb=>?_,kg,kj,⟨QK hT,kh,kk,Z⟩,λL hL=>?_⟩
   ·have e1:=c1.size;have e2:=c2.size;have e3:=c3.size;rcases Lq.1 hb with hb|hb
    ·rcases Lq.1 hb with hb|hb
     ·have:=Ji.1 hb;omega
     have:=Ji.1 hb;omega
    have:=Ji.1 hb;omega
   have hL1:∀b∈L,b∉rgB x1.heap.size y1.heap.size:=λb hb hm=>hL b hb (by simp[hm]);have hL2:∀b∈L,b∉rgB x2.heap.size y2.heap.size:=λb hb hm=>hL b hb (by simp[hm]);have hL3:∀b∈L,b∉rgB x3.heap.size y3.heap.size:=λb hb hm=>hL b hb (by simp[hm]);have hev1:J9 L y1.heap my c.ev:=⟨QW hT h.ev.arr.le (λb hb hm=>hL1 b hm (Ji.2 (Qp hT b hb))),h.ev.nm⟩
   exact⟨(((hev1.ext p2).ext mz).ext p3).ext ki,((QgY hqcI O hL2).ext p3).ext ki,QgY hqrI O hL3⟩
  rintro⟨b10,zv,qc,qr⟩ g wc ⟨hsc,kf,m0,kg,kj,kn,hEi⟩;simp only[]at kf m0 kg kj kn hEi;have hl10:=m0.lt;refine Qc<|xl O<|Qu (us:=[.bool false]) O λb11 w8 hS hb11 hB11=>xl O<|QB (j:=0) (u:=.bool false) hB11 O O (by simp) rfl λw9 m1 ko=>xe ?_;have kp:Step [] wc w9:=hS.then1 m1 hb11;have h6:=hsc.trans kp;have gm:=gk.trans h6;have hz9:=kp.size
  have hl11:=ko.lt;have hB109:=m0.ext kp;have hB29:=ke.ext h6;have hB39:=mx.ext h6;have hB49:=hB47.ext h6;have hn10:b10≠b11:=by omega
  have hup:∀b∈[b10,b11],w.heap.size≤b:=λb hb=>by simp only[List.mem_cons,List.not_mem_nil,or_false]at hb;omega
  have kq:∀b∈[b10,b11],b<w9.heap.size:=λb hb=>by simp only[List.mem_cons,List.not_mem_nil,or_false]at hb;omega
  have hn2:b2∉[b10,b11]:=λhb=>by simp only[List.mem_cons,List.not_mem_nil,or_false]at hb;omega
  have hn3:b3∉[b10,b11]:=λhb=>by simp only[List.mem_cons,List.not_mem_nil,or_false]at hb;omega
  have hn4:b4∉[b10,b11]:=λhb=>by simp only[List.mem_cons,List.not_mem_nil,or_false]at hb;omega
  have kr:∀b∈[b10],b∈[b10,b11]:=λb hb=>by simp only[List.mem_singleton]at hb;simp[hb]
  have kt:∀b∈[b11],b∈[b10,b11]:=λb hb=>by simp only[List.mem_singleton]at hb;simp[hb]
  have hT:=kn.1;have kh:=kn.2.1;have kk:=kn.2.2.1;refine Qc<|x (Zn (l:=[]) (l':=[_,_]))<|Qe<|Qg<|Qc<|x (Qa O)<|x (Qd hB39 O O)<|x (Qr (hx.ext gm) O)<|Qb<|xe<|Qh<|QA (α:=Nat×Bool×Value×List XV) [(14,15),(17,17),(88,129)] (λz=>[(88,.int .i64 z.1)]) (λz w'=>z.1≤p.ex.length∧Step [b10,b11] w9 w'∧QT w'.heap b10 37 [zv.1,zv.2.1,zv.2.2,z.2.2.1,nS]∧QT w'.heap b11 4 [.bool z.2.1] ∧
   XvN w9.heap.size w' z.2.2.1 z.2.2.2∧z.2.2.2.map (·.x)=exB c.cel p.co (p.ex.take z.1)∧z.2.1=exM c.cel p.co (p.ex.take z.1)∧∀q∈z.2.2.2,Uq q.nm) (λz=>p.ex.length - z.1) (by rfl) (0,false,nS,[]) La
   ⟨Ll _,Step.refl _ _,hB109,ko,Z5.nil,O,O,λq hq=>by cases hq⟩ ?_
  rintro⟨k,mi,vx,qx⟩ g U ⟨hk10,hD,m2,gn,ku,go,kv,m3⟩;simp only[]at hk10 m2 gn ku go kv m3;have gq:Step [] w U:=gm.then hD (λb hb=>.inr (hup b hb));have m4:=h.ext gq;have m5:=hB29.step hD hn2;have m6:=hB39.step hD hn3;have m7:=hB49.step hD hn4;have hz10:=hD.size
  have hqxl:qx.length=k:=by have:=congrArg List.length go;unfold exB at this;rw[Lh,Lh,Ly]at this;omega
  refine Qc<|x (Qz O O)<|xe<|Qg<|QC O (λhF=>?_) (λhF=>?_)
  ·refine Qy ?_;have m8:p.ex.length≤k:=by have hh:¬(k:Int)<(p.ex.length:Int):=hF;omega
   rw[Ln m8]at go kv;have hlt10:∀b∈[b10,b11],b<U.heap.size:=λb hb=>by have:=kq b hb;omega
   refine Qg<|Qc<|x (Qa O)<|x (Qd m6 O O)<|x (Qr (hk.ext gq) O)<|Qb<|xe<|Qh<|QA (α:=Nat×Bool×Value×List KV) [(19,20),(22,22),(133,180)] (λz=>[(133,.int .i64 z.1)]) (λz w'=>z.1≤p.cs.length∧Step [b10,b11] U w'∧QT w'.heap b10 37 [zv.1,zv.2.1,zv.2.2,vx,z.2.2.1]∧QT w'.heap b11 4 [.bool z.2.1] ∧
    KvN U.heap.size w' z.2.2.1 z.2.2.2∧z.2.2.2.map (·.k)=csB c.cel p.co (p.cs.take z.1)∧z.2.1=(mi || csM c.cel p.co (p.cs.take z.1))∧∀q∈z.2.2.2,Uq q.nm) (λz=>p.cs.length - z.1) (by rfl) (0,mi,nS,[]) La
    ⟨Ll _,Step.refl _ _,m2,gn,Z5.nil,O,by simp[csM],λq hq=>by cases hq⟩ ?_
   rintro⟨k,mk,vk,kx⟩ g hf ⟨hkk10,h8,kB1010,kB1110,kX10,gr,kw,m9⟩;simp only[]at hkk10 kB1010 kB1110 kX10 gr kw m9;have gs:Step [] w hf:=gq.then h8 (λb hb=>.inr (hup b hb));have kz:=h.ext gs;have kB210:=m5.step h8 hn2;have kB310:=m6.step h8 hn3;have kB410:=m7.step h8 hn4;have kz10:=h8.size
   have hkxl:kx.length=k:=by have:=congrArg List.length gr;unfold csB at this;rw[Lh,Lh,Ly]at this;omega
   refine Qc<|x (Qz O O)<|xe<|Qg<|QC O (λhF=>?_) (λhF=>?_)
   ·refine Qy ?_;have m8:p.cs.length≤k:=by have hh:¬(k:Int)<(p.cs.length:Int):=hF;omega
    rw[Ln m8]at gr kw;have hmm:mk=(exM c.cel p.co p.ex || csM c.cel p.co p.cs):=by rw[kw,kv]
    rw[←hmm]at I;have kXu:XvN w9.heap.size hf vx qx:=Z5.low ku h8 kq;refine Qg<|Qc<|x (Qd kB1110 O O)<|xe<|QY O (λk0=>?_) (λk0=>?_)
    ·rw[if_pos k0]at I;subst I;refine Qc<|x (QN Z)<|xl O<|Qo (us:=YR) kB410 O O O O ⟨O,O,O,O,O,Z⟩ λu11 k4 kB411=>Qe ?_;exact Qk ⟨[.agg YR.toArray,.int .i64 13],⟨⟨_,O,Qw O (kB411.at (L:=[]) (by simp)).cells⟩,rfl,Z⟩,gs.then1 k4 (by omega),YR,rfl,rfl,⟨rfl,rfl,rfl,rfl,rfl,Z⟩,λ_=>rfl,λH=>absurd H (by decide)⟩
    rw[if_neg (by rw[k0];simp)]at I;refine Qi ?_;have hmf:(exM c.cel p.co p.ex || csM c.cel p.co p.cs)=false:=by rw[←hmm];exact k0
    have hmf2:=MA.1 hmf;have hE1:qx.map (·.x)=Qi3 c.cel p:=go.trans (Qka gl.2.1 hmf2.1);have hE2:kx.map (·.k)=Qi5 c.cel p:=gr.trans (Qkh gl.2.1 hmf2.2);have hcel:(CL.mk zv.1 zv.2.1 zv.2.2 vx vk c.ev qc qr qx kx).cel=QeA c.cel p:=by
     show ZA.mk c.ev (qc.map IV.it) (qr.map IV.it) (qx.map (·.x)) (kx.map (·.k))=ZA.mk c.cel.ev _ _ _ _;rw[kg,kj,hE1,hE2];rfl
    have hCu:∀L:LN,(∀b∈L,b<w.heap.size)→ZJ (b4::L) hf.heap (CL.mk zv.1 zv.2.1 zv.2.2 vx vk c.ev qc qr qx kx):=by
     intro L hL;have e1:=hEi (b4::b10::L) (λb hb=>by
      rcases Lc.1 hb with rfl|hb
      ·exact .inl (by omega)
      rcases Lc.1 hb with rfl|hb
      ·exact .inr O
      have:=hL b hb;exact .inl (by omega))
     have e2:EiA (b11::b4::b10::L) wc.heap zv c.ev qc qr:=e1.up (λb hb=>by
      rcases Lc.1 hb with rfl|hb
      ·exact .inr hb11
      exact .inl hb)
     have hm2:∀b∈[b10,b11],b∈b11::b4::b10::L:=λb hb=>by
      simp only[List.mem_cons,List.not_mem_nil,or_false]at hb;rcases hb with rfl|rfl <;> simp
     have e3:=((e2.ext kp).st (hD.mono hm2)).st (h8.mono hm2);have e4:EiA (b4::L) hf.heap zv c.ev qc qr:=e3.up (λb hb=>by
      rcases Lc.1 hb with rfl|hb
      ·exact .inl (by simp)
      exact .inl (by simp[hb]))
     have hqx40:qx.length≤1099511627776:=by omega
     have hkx40:kx.length≤1099511627776:=by omega
     have pa:∀b∈b4::L,b<w9.heap.size:=λb hb=>by
      rcases Lc.1 hb with rfl|hb
      ·omega
      have:=hL b hb;omega
     have hLt10:∀b∈b4::L,b<U.heap.size:=λb hb=>by have:=pa b hb;omega
     exact⟨e4.ev,e4.co,e4.rq,⟨Z5.arr kXu hqx40 pa,λq hq=>kXu.each q hq _ (λb hb=>.inl (pa b hb)),m3⟩,⟨Z5.arr kX10 hkx40 hLt10,λq hq=>kX10.each q hq _ (λb hb=>.inl (hLt10 b hb)),m9⟩⟩
    rw[←hcel]at I;subst I;refine Qg<|Qc<|x (Qn kB1010 O O)<|xl O<|xf<|(Xi (hCu [] (by simp))).mono ?_;rintro r12 hG ⟨rfl,hU⟩;refine Qe ?_;have gt:=gs.trans hU;have kB412:=kB410.ext hU;refine Qc<|Qb<|x (Q7 O O)<|xe<|Q4 O (λk5=>?_) (λk5=>?_)
    ·refine Qc<|x (QN Z)<|Qb<|xl O<|Qo (us:=YR) kB412 O O O O ⟨O,O,O,O,O,Z⟩ λh9 k6 kB413=>Qe ?_;exact Qk ⟨[.agg YR.toArray,.int .i64 (Zk (CL.mk zv.1 zv.2.1 zv.2.2 vx vk c.ev qc qr qx kx).cel)],⟨⟨_,O,Qw O (kB413.at (L:=[]) (by simp)).cells⟩,rfl,Z⟩,gt.then1 k6 (by omega),YR,rfl,rfl,⟨rfl,rfl,rfl,rfl,rfl,Z⟩,λ_=>rfl,λH=>absurd H k5⟩
    refine Qi ?_;have hone5:ZH [zv.1,zv.2.1,zv.2.2,vx,vk]:=⟨hT,kh,kk,QK kXu.own,QK kX10.own,Z⟩
    refine Qc<|x (Qn (kB1010.ext hU) O O)<|xl O<|Qo (us:=[zv.1,zv.2.1,zv.2.2,vx,vk]) kB412 O O O O hone5 λh9 k6 kB413=>Qe<|Qk ⟨[.agg [zv.1,zv.2.1,zv.2.2,vx,vk].toArray,.int .i64 0],⟨⟨_,O,Qw O (kB413.at (L:=[]) (by simp)).cells⟩,rfl,Z⟩,gt.then1 k6 (by omega),[zv.1,zv.2.1,zv.2.2,vx,vk],?_,rfl,hone5,λH=>absurd H k5,λ_=>⟨(CL.mk zv.1 zv.2.1 zv.2.2 vx vk c.ev qc qr qx kx),rfl,hcel,λL hL=>?_⟩⟩
    ·have H:Zk (CL.mk zv.1 zv.2.1 zv.2.2 vx vk c.ev qc qr qx kx).cel=0:=Lm.1 k5;rw[H];rfl
    exact((((hCu L hL).ext hU).st (k6.mono (by simp)))).up (λb hb=>.inl (by simp[hb]))
   refine Qi ?_;have V:k<p.cs.length:=by have hh:(k:Int)<(p.cs.length:Int):=hF;omega
   have hH:p.cs.take (k+1)=p.cs.take k++[p.cs[k]'V]:=Le V;have pc:=hcsz.1 _ (Li V);refine Zb (p.cs[k]'V) λi gu=>?_;rw[gu]at hH pc;have hV:i=(i.toNat:Int):=by omega
   have J:i.toNat<c.cs.length:=by omega
   have ho:=Li J;have hI:csG c.cel i=(c.cs[i.toNat]'J).k:=by
    show(c.cs.map (·.k)).getD i.toNat ⟨.empty,[],0⟩=_;simp[List.getD,J]
   refine Zb (c.cs[i.toNat]'J) λq hq=>?_;rw[hq]at ho hI;have gv:=kz.cs.each q ho;have pd:=kz.cs.nm q ho;have hql:=gv.le;have hcsB:csB c.cel p.co (p.cs.take (k+1))=csB c.cel p.co (p.cs.take k)++[⟨q.nm,Vb p.co q.ts,q.bd⟩]:=by
    rw[hH];unfold csB;rw[Lv,Mo,hI];rfl
   have hcsM:csM c.cel p.co (p.cs.take (k+1))=(csM c.cel p.co (p.cs.take k) || mis p.co q.ts):=by
    rw[hH];unfold csM;rw[List.any_append,List.any_cons,List.any_nil,Bool.or_false,hI];rfl
   refine Qg<|Qh<|Qc<|xii (i:=k) (hk.ext gs) O O V λa90 gx=>?_;rw[gu]at gx;refine x (Qv gx O)<|Qe<|Qg<|QV (Step [] hf) [(0,true),(1,true),(2,true),(3,true),(4,true),(5,true),(6,true),(7,true),(8,true),(9,true),(10,true),(11,true),(12,true),(13,false),(14,false)] mixed (by rfl) (by kernel_rfl) (Step.drew _ _) ?_
   refine Go.Lg.p (λ_=>Qa O)<|pq (λ_ hc=>Qd (kB210.ext hc) O O)<|Go.Lg.p (λ_=>Qm)<|Go.Lg.pig (g:=ZD) (i:=i.toNat) O JQ kz.cs.arr O (congrArg (Value.int .i64) hV) J λa140 h140=>?_;rw[hq]at h140
   refine Go.Lg.p (λ_=>Zg O)<|pq (λ_ hc=>Qv ((h140.fld 0 (.string q.nm) O).st hc) O)<|Go.Lg.p (λ_=>Qa O)<|pq (λ_ hc=>Qd (kB210.ext hc) O O)<|Go.Lg.p (λ_=>Qm)<|Go.Lg.pig (g:=ZD) (i:=i.toNat) O JQ kz.cs.arr O (congrArg (Value.int .i64) hV) J λa146 h146=>?_;rw[hq]at h146
   refine Go.Lg.p (λ_=>Zg O)<|pq (λ_ hc=>Qv ((h146.fld 2 (.int .i64 q.bd) O).st hc) O)<|Go.Lg.p (λ_=>QN ⟨O,O,Z⟩)<|pk<|Qu (us:=[.string .empty,nS,.int .i64 0]) O λY u11 k4 hp kB15=>⟨(Step.drew [] hf).trans k4,?_⟩;refine pkl (hl:=by kernel_rfl)<|Qo (us:=[.string q.nm,nS,.int .i64 q.bd]) kB15 O O O O ⟨O,O,O,Z⟩ λhG hU kB15=>pe ?_;have hp:hf.heap.size≤Y:=hp
   have hA:Step [] hf hG:=((Step.drew [] hf).trans k4).then1 hU hp;have gt:=gs.trans hA;have k12:=h.ext gt;have kB212:=kB210.ext hA;have kz12:=hA.size;have hl15:=kB15.lt;have pf:=gv.ext hA;refine Qg<|Qc<|x (Qa O)<|x (Qd kB212 O O)<|Qb<|xig (g:=ZD) (i:=i.toNat) JQ k12.cs.arr O (congrArg (Value.int .i64) hV) J λa102 gy=>?_;rw[hq]at gy
   refine x (Zg O)<|x (Qv (gy.fld 1 q.v O) O)<|x (Qr pf O)<|Qb<|xe ?_;have pg:∀b∈[Y,b11],w.heap.size≤b:=λb hb=>by simp only[List.mem_cons,List.not_mem_nil,or_false]at hb;omega
   have ph:b3∉[Y,b11]:=λhb=>by simp only[List.mem_cons,List.not_mem_nil,or_false]at hb;omega
   have hn1510:b10∉[Y,b11]:=λhb=>by simp only[List.mem_cons,List.not_mem_nil,or_false]at hb;omega
   refine Qh<|QA (α:=Nat×Bool×Value) [(22,22),(157,173)] (λz=>[(157,.int .i64 z.1)]) (λz w'=>z.1≤q.ts.length∧Step [Y,b11] hG w'∧QT w'.heap Y 153 [.string q.nm,z.2.2,.int .i64 q.bd]∧QT w'.heap b11 4 [.bool z.2.1] ∧
    w'.ownsRow hG.heap.size 155 2 z.2.2 z.1 ((Vb p.co (q.ts.take z.1)).flatMap QU)∧z.2.1=(mk || mis p.co (q.ts.take z.1))) (λz=>q.ts.length - z.1) (by rfl) (0,mk,nS) La
    ⟨Ll _,Step.refl _ _,kB15,kB1110.ext hA,QP _ _ _ _,by simp[mis]⟩ ?_
   rintro⟨j,mj,vl⟩ g h9 ⟨hj,hW,kB1513,kB1113,kO13,ht⟩;simp only[]at hj kB1513 kB1113 kO13 ht;have ks013:Step [] w h9:=gt.then hW (λb hb=>.inr (pg b hb));have kz13:=hW.size;have hv:=Qp kO13;refine Qc<|x (Qz O O)<|xe<|Qg<|QC O (λhJ=>?_) (λhJ=>?_)
   ·refine Qy ?_;have gz:j=q.ts.length:=by have hh:¬(j:Int)<(q.ts.length:Int):=hJ;omega
    rw[gz,M5]at kO13;rw[gz,M5]at ht;have k7:Step [b11] hf h9:=(hA.any (L:=[b11])).then hW (λb hb=>by
     simp only[List.mem_cons,List.not_mem_nil,or_false]at hb;rcases hb with rfl|rfl
     ·exact .inr hp
     exact .inl (by simp))
    have kB1013:=kB1010.step k7 (by simpa using hn10);have kX13:KvN U.heap.size h9 vk kx:=Z5.low kX10 k7 (λb hb=>hlt10 b (kt b hb));have kXge:=Qp kX10.own;have pj:(Vb p.co q.ts).length=q.ts.length:=Lh ..
    refine Qx<|x (Qa O)<|x (Qd kB1013 O O)<|x (Qn kB1513 O O)<|xl O<|QF (us:=[ZD ⟨q.nm,vl,Vb p.co q.ts,q.bd⟩]) O O (by decide) (by simp) ⟨rfl,rfl,Z⟩ λb126 u14 hw hb126 kB126 =>
     xl rfl<|Q5 (news:=ZD ⟨q.nm,vl,Vb p.co q.ts,q.bd⟩) (L:=[]) (Qs kX13.own hw) O O O (kB126.at (by simp)) (QdL (q:=⟨q.nm,vl,Vb p.co q.ts,q.bd⟩) (QK kO13)) (by omega) (by have:=hw.size;omega) λhK ha g0 hX pn=>?_
    have kX15:KvN U.heap.size ha hK (kx++[⟨q.nm,vl,Vb p.co q.ts,q.bd⟩]):=Z5.app2 (N:=hG.heap.size) (kX13.ext hw) (by show u14.ownsRow _ _ 2 vl (Vb p.co q.ts).length _;rw[pj];exact Qs kO13 hw) (by show(Vb p.co q.ts).length≤_;omega) (by omega) (λb hb=>by have:=kXge b hb;omega) g0 hX pn;have po:b10∉ob vk:=λhm=>by have:=(kXge b10 hm).1;omega
    have pp:b11∉ob vk:=λhm=>by have:=(kXge b11 hm).1;omega
    have ks915:Step [b10,b11] U ha:=((h8.trans' (k7.mono kt)).trans hw).then hX (λb hb=>.inr (kXge b hb).1);have kB1015:=(kB1013.ext hw).step hX po;have kB1115:=(kB1113.ext hw).step hX pp;refine x (Qa O)<|xl O<|QB (j:=4) (u:=hK) kB1015 O O (by simp) (QK g0) λu16 g1 kB1016=>xe ?_;refine Qx<|QM O O<|Qb<|xe ?_
    refine⟨(k+1,mj,hK,kx++[⟨q.nm,vl,Vb p.co q.ts,q.bd⟩]),by simp only[];omega,La,V,ks915.trans' (g1.mono kr),kB1016,kB1115.step g1 (by simp only[List.mem_singleton];omega),Z5.low kX15 g1 (λb hb=>hlt10 b (kr b hb)),?_,?_,?_⟩
    ·simp only[];rw[hcsB,Lv,gr];rfl
    ·simp only[];rw[hcsM,ht,kw,Bool.or_assoc]
    intro q' pt;rcases Lq.1 pt with h9'|h9'
    ·exact m9 q' h9'
    simp only[List.mem_singleton]at h9';subst h9';exact pd
   refine Qi ?_;have hg:j<q.ts.length:=by have hh:(j:Int)<(q.ts.length:Int):=hJ;omega
   have hM:q.ts.take (j+1)=q.ts.take j++[q.ts[j]'hg]:=Le hg;have k7:Step [b11] hf h9:=(hA.any (L:=[b11])).then hW (λb hb=>by
    simp only[List.mem_cons,List.not_mem_nil,or_false]at hb;rcases hb with rfl|rfl
    ·exact .inr hp
    exact .inl (by simp))
   have pu:P2s [] h9.heap q.v q.ts:=(h.ext ks013).cs.each q ho;refine Qg<|Qh<|Qc<|xig (g:=QU) Y3 pu O O hg λa108 g2=>?_;refine Zb (q.ts[j]'hg) λlc pw=>?_;rw[pw]at g2 hM;have pz:Vb p.co (q.ts.take (j+1))=Vb p.co (q.ts.take j)++[((lwB p.co lc.1:Int),lc.2)]:=by
    rw[hM];unfold Vb;rw[Lv];rfl
   have p0:mis p.co (q.ts.take (j+1))=(mis p.co (q.ts.take j) || !decide (lc.1∈p.co)):=by
    rw[hM];unfold mis;rw[List.any_append];simp
   refine x (QI g2 O O)<|xl O<|Qu (us:=[.int .i64 0,.int .i64 0]) O λb22 u14 hw p4 kB17=>xl O<|Qo (us:=QU lc) kB17 O O O O ⟨O,O,Z⟩ λha hX kB17=>xe ?_;have hN:Step [] h9 ha:=hw.then1 hX p4;have ks015:=ks013.trans hN;have kz15:=hN.size;have kB1515:=kB1513.ext hN;have kB1115:=kB1113.ext hN
   have kB315:QT ha.heap b3 281 [v0,v1,v2,v3]:=(((kB310.ext hA).step hW ph)).ext hN;have g3:Y∉b11::ob vl:=λhb=>by
    rcases Lc.1 hb with rfl|hb
    ·omega
    have:=(hv Y hb).1;omega
   have g4:b22∉b11::ob vl:=λhb=>by
    rcases Lc.1 hb with rfl|hb
    ·omega
    have:=(hv b22 hb).2;omega
   have g5:b11∉ob vl:=λhb=>by have:=(hv b11 hb).1;omega
   have p5:Y∉ob vl:=λhb=>g3 (Lk _ hb);refine QV (Step (b11::ob vl) ha) [(0,true),(1,true),(2,true),(3,true),(4,true),(6,true),(7,true),(5,false),(8,true),(9,false),(10,false),(11,true),(12,false)] mixed (by rfl) (by kernel_rfl) (Step.drew _ _) ?_;have k8:Step [] ha { ha with drawn:=ha.drawn+1 }:=Step.drew _ _
   have hzd:({ ha with drawn:=ha.drawn+1 }:World).heap.size=ha.heap.size:=rfl
   refine Go.Lg.p (λ_=>Qa O)<|pq (λ_ hc=>Qd (kB1515.step hc g3) O O)<|Go.Lg.p (λ_=>Qm)<|Go.Lg.p (λ_=>Qa O)<|pq (λ_ hc=>Qd (kB17.step hc g4) O O) <|
    Go.Lg.p (λ_=>Qa O)<|pq (λ_ hc=>Qd (kB17.step hc g4) O O)<|pk<|xc (first:=[]) (capt:=[.pointer (some ⟨b3,0,none⟩),.pointer (some ⟨b11,0,none⟩)]) O<|(yo (kB315.ext k8) (kB1115.ext k8) (hc.ext (ks015.trans k8)) gl.2.1 lc.1).mono ?_
   rintro r16 u16 ⟨g1,rfl,kB1116⟩;have p6:=k8.any.trans' g1;have hO:∀b∈[b11],b∈b11::ob vl:=λb hb=>by simp only[List.mem_singleton]at hb;simp[hb]
   refine⟨p6.mono hO,?_⟩;refine Go.Lg.p (λ_=>QN ⟨O,O,Z⟩)<|pk<|QF (us:=[QU ((lwB p.co lc.1:Int),lc.2)]) O O (by decide) (by simp) ⟨rfl,rfl,Z⟩ λb119 u17 p7 hb119 gn=>⟨(p6.trans p7).mono hO,?_⟩;have g6:=p6.trans p7
   have kO17:u17.ownsRow hG.heap.size 155 2 vl j ((Vb p.co (q.ts.take j)).flatMap QU):=Ql (Qs kO13 hN) g6 (λb hb hm=>by simp only[List.mem_singleton]at hm;subst hm;exact g5 hb);have kz17:=g6.size;refine pk<|Q5 (news:=QU ((lwB p.co lc.1:Int),lc.2)) (L:=[]) kO17 O O O (gn.at (by simp)) (λu hu=>by
    simp only[List.mem_cons,List.not_mem_nil,or_false]at hu;rcases hu with rfl|rfl <;> rfl) (by omega) (by omega) λg7 u18 hP k9 hn18=>⟨(g6.mono hO).trans' (k9.mono (λb hb=>Lk _ hb)),?_⟩
   have kB1518:=((kB1515.step g6 (by simp only[List.mem_singleton];omega))).step k9 p5;have kB1118:=(kB1116.ext p7).step k9 g5;refine Go.Lg.p (λ_=>Qa O)<|pkl (hl:=by kernel_rfl)<|QB (j:=1) (u:=g7) kB1518 O O (by simp) (QK hP) λu19 p8 kB1519=>pe ?_;refine Qx<|QM O O<|Qb<|xe ?_;have p9:∀b∈[b11],b∈[Y,b11]:=λb hb=>by simp only[List.mem_singleton]at hb;simp[hb]
   have qf:∀b∈[Y],b∈[Y,b11]:=λb hb=>by simp only[List.mem_singleton]at hb;simp[hb]
   have ks1218:Step [Y,b11] hG u18:=((hW.trans hN).trans' (g6.mono p9)).then k9 (λb hb=>.inr (hv b hb).1);refine⟨(j+1,mj || !decide (lc.1∈p.co),g7),by simp only[];omega,La,hg,ks1218.trans' (p8.mono qf),kB1519,kB1118.step p8 (by simp only[List.mem_singleton];omega),?_,?_⟩
   ·simp only[];rw[pz,LC];have:=Ql hP p8 (λb hb=>by
     simp only[List.mem_singleton];have:=(Qp hP b hb).1;omega)
    simpa using this
   simp only[];rw[p0,ht,Bool.or_assoc]
  refine Qi ?_;have V:k<p.ex.length:=by have hh:(k:Int)<(p.ex.length:Int):=hF;omega
  have hH:p.ex.take (k+1)=p.ex.take k++[p.ex[k]'V]:=Le V;have pc:=hexz.1 _ (Li V);refine Zb (p.ex[k]'V) λi gu=>?_;rw[gu]at hH pc;have hV:i=(i.toNat:Int):=by omega
  have J:i.toNat<c.ex.length:=by omega
  have ho:=Li J;have hI:exG c.cel i=(c.ex[i.toNat]'J).x:=by
   show(c.ex.map (·.x)).getD i.toNat ⟨.empty,[]⟩=_;simp[List.getD,J]
  refine Zb (c.ex[i.toNat]'J) λq hq=>?_;rw[hq]at ho hI;have gv:=m4.ex.each q ho;have pd:=m4.ex.nm q ho;have hql:=gv.le;have hexB:exB c.cel p.co (p.ex.take (k+1))=exB c.cel p.co (p.ex.take k)++[⟨q.nm,Vb p.co q.ls⟩]:=by
   rw[hH];unfold exB;rw[Lv,Mo,hI];rfl
  have hexM:exM c.cel p.co (p.ex.take (k+1))=(exM c.cel p.co (p.ex.take k) || mis p.co q.ls):=by
   rw[hH];unfold exM;rw[List.any_append,List.any_cons,List.any_nil,Bool.or_false,hI];rfl
  refine Qg<|Qh<|Qc<|xii (i:=k) (hx.ext gq) O O V λa90 gx=>?_;rw[gu]at gx;refine x (Qv gx O)<|Qe<|Qc<|x (Qa O)<|x (Qd m5 O O)<|Qb<|xig (g:=Zs) (i:=i.toNat) Kd m4.ex.arr O (congrArg (Value.int .i64) hV) J λa95 h95=>?_;rw[hq]at h95;refine x (Zg O)<|x (Qv (h95.fld 0 (.string q.nm) O) O)<|x (QN La)<|xl O<|Qu (us:=[.string .empty,nS]) O λb15 w11 ql hp ma =>
   xl rfl<|Qo (us:=[.string q.nm,nS]) ma O O O O ⟨O,O,Z⟩ λhY hs12 ma=>xe ?_
  have hC:Step [] U hY:=ql.then1 hs12 hp;have hs012:=gq.trans hC;have h12:=h.ext hs012;have hB212:=m5.ext hC;have hz12:=hC.size;have hl15:=ma.lt;have pf:=gv.ext hC;refine Qg<|Qc<|x (Qa O)<|x (Qd hB212 O O)<|Qb<|xig (g:=Zs) (i:=i.toNat) Kd h12.ex.arr O (congrArg (Value.int .i64) hV) J λa102 gy=>?_;rw[hq]at gy
  refine x (Zg O)<|x (Qv (gy.fld 1 q.v O) O)<|x (Qr pf O)<|Qb<|xe ?_;have pg:∀b∈[b15,b11],w.heap.size≤b:=λb hb=>by simp only[List.mem_cons,List.not_mem_nil,or_false]at hb;omega
  have ph:b3∉[b15,b11]:=λhb=>by simp only[List.mem_cons,List.not_mem_nil,or_false]at hb;omega
  have hn1510:b10∉[b15,b11]:=λhb=>by simp only[List.mem_cons,List.not_mem_nil,or_false]at hb;omega
  refine Qh<|QA (α:=Nat×Bool×Value) [(17,17),(106,122)] (λz=>[(106,.int .i64 z.1)]) (λz w'=>z.1≤q.ls.length∧Step [b15,b11] hY w'∧QT w'.heap b15 99 [.string q.nm,z.2.2]∧QT w'.heap b11 4 [.bool z.2.1] ∧
   w'.ownsRow hY.heap.size 101 2 z.2.2 z.1 ((Vb p.co (q.ls.take z.1)).flatMap QU)∧z.2.1=(mi || mis p.co (q.ls.take z.1))) (λz=>q.ls.length - z.1) (by rfl) (0,mi,nS) La
   ⟨Ll _,Step.refl _ _,ma,gn.ext hC,QP _ _ _ _,by simp[mis]⟩ ?_
  rintro⟨j,mj,vl⟩ g hZ ⟨hj,ga,qo,q5,gb,ht⟩;simp only[]at hj qo q5 gb ht;have hs013:Step [] w hZ:=hs012.then ga (λb hb=>.inr (pg b hb));have hz13:=ga.size;have hv:=Qp gb;refine Qc<|x (Qz O O)<|xe<|Qg<|QC O (λhJ=>?_) (λhJ=>?_)
  ·refine Qy ?_;have gz:j=q.ls.length:=by have hh:¬(j:Int)<(q.ls.length:Int):=hJ;omega
   rw[gz,M5]at gb;rw[gz,M5]at ht;have mc:Step [b11] U hZ:=(hC.any (L:=[b11])).then ga (λb hb=>by
    simp only[List.mem_cons,List.not_mem_nil,or_false]at hb;rcases hb with rfl|rfl
    ·exact .inr hp
    exact .inl (by simp))
   have hB1013:=m2.step mc (by simpa using hn10);have hX13:XvN w9.heap.size hZ vx qx:=Z5.low ku mc (λb hb=>kq b (kt b hb));have mf:=Qp ku.own;have pj:(Vb p.co q.ls).length=q.ls.length:=Lh ..
   refine Qx<|x (Qa O)<|x (Qd hB1013 O O)<|x (Qn qo O O)<|xl O<|QF (us:=[Zs ⟨q.nm,vl,Vb p.co q.ls⟩]) O O (by decide) (by simp) ⟨rfl,rfl,Z⟩ λb126 w14 hy hb126 hB126 =>
    xl rfl<|Q5 (news:=Zs ⟨q.nm,vl,Vb p.co q.ls⟩) (L:=[]) (Qs hX13.own hy) O O O (hB126.at (by simp)) (U1 (q:=⟨q.nm,vl,Vb p.co q.ls⟩) (QK gb)) (by omega) (by have:=hy.size;omega) λhK he g0 gc pn=>?_
   have hX15:XvN w9.heap.size he hK (qx++[⟨q.nm,vl,Vb p.co q.ls⟩]):=Z5.app2 (N:=hY.heap.size) (hX13.ext hy) (by show w14.ownsRow _ _ 2 vl (Vb p.co q.ls).length _;rw[pj];exact Qs gb hy) (by show(Vb p.co q.ls).length≤_;omega) (by omega) (λb hb=>by have:=mf b hb;omega) g0 gc pn;have po:b10∉ob vx:=λhm=>by have:=(mf b10 hm).1;omega
   have pp:b11∉ob vx:=λhm=>by have:=(mf b11 hm).1;omega
   have hs915:Step [b10,b11] w9 he:=((hD.trans' (mc.mono kt)).trans hy).then gc (λb hb=>.inr (mf b hb).1);have hB1015:=(hB1013.ext hy).step gc po;have q9:=(q5.ext hy).step gc pp;refine x (Qa O)<|xl O<|QB (j:=3) (u:=hK) hB1015 O O (by simp) (QK g0) λw16 g8 hB1016=>xe ?_;refine Qx<|QM O O<|Qb<|xe ?_
   refine⟨(k+1,mj,hK,qx++[⟨q.nm,vl,Vb p.co q.ls⟩]),by simp only[];omega,La,V,hs915.trans' (g8.mono kr),hB1016,q9.step g8 (by simp only[List.mem_singleton];omega),Z5.low hX15 g8 (λb hb=>kq b (kr b hb)),?_,?_,?_⟩
   ·simp only[];rw[hexB,Lv,go];rfl
   ·simp only[];rw[hexM,ht,kv]
   intro q' pt;rcases Lq.1 pt with h9'|h9'
   ·exact m3 q' h9'
   simp only[List.mem_singleton]at h9';subst h9';exact pd
  refine Qi ?_;have hg:j<q.ls.length:=by have hh:(j:Int)<(q.ls.length:Int):=hJ;omega
  have hM:q.ls.take (j+1)=q.ls.take j++[q.ls[j]'hg]:=Le hg;have mc:Step [b11] U hZ:=(hC.any (L:=[b11])).then ga (λb hb=>by
   simp only[List.mem_cons,List.not_mem_nil,or_false]at hb;rcases hb with rfl|rfl
   ·exact .inr hp
   exact .inl (by simp))
  have pu:P2s [] hZ.heap q.v q.ls:=(h.ext hs013).ex.each q ho;refine Qg<|Qh<|Qc<|xig (g:=QU) Y3 pu O O hg λa108 g2=>?_;refine Zb (q.ls[j]'hg) λlc pw=>?_;rw[pw]at g2 hM;have pz:Vb p.co (q.ls.take (j+1))=Vb p.co (q.ls.take j)++[((lwB p.co lc.1:Int),lc.2)]:=by
   rw[hM];unfold Vb;rw[Lv];rfl
  have p0:mis p.co (q.ls.take (j+1))=(mis p.co (q.ls.take j) || !decide (lc.1∈p.co)):=by
   rw[hM];unfold mis;rw[List.any_append];simp
  refine x (QI g2 O O)<|xl O<|Qu (us:=[.int .i64 0,.int .i64 0]) O λb17 w14 hy p4 mg=>xl O<|Qo (us:=QU lc) mg O O O O ⟨O,O,Z⟩ λhe gc mg=>xe ?_;have hQ:Step [] hZ he:=hy.then1 gc p4;have hs015:=hs013.trans hQ;have hz15:=hQ.size;have hB1515:=qo.ext hQ;have q9:=q5.ext hQ
  have hB315:QT he.heap b3 281 [v0,v1,v2,v3]:=(((m6.ext hC).step ga ph)).ext hQ;have g3:b15∉b11::ob vl:=λhb=>by
   rcases Lc.1 hb with rfl|hb
   ·omega
   have:=(hv b15 hb).1;omega
  have g4:b17∉b11::ob vl:=λhb=>by
   rcases Lc.1 hb with rfl|hb
   ·omega
   have:=(hv b17 hb).2;omega
  have g5:b11∉ob vl:=λhb=>by have:=(hv b11 hb).1;omega
  have p5:b15∉ob vl:=λhb=>g3 (Lk _ hb);refine QV (Step (b11::ob vl) he) [(0,true),(1,true),(2,true),(3,true),(4,true),(6,true),(7,true),(5,false),(8,true),(9,false),(10,false),(11,true),(12,false)] mixed (by rfl) (by kernel_rfl) (Step.drew _ _) ?_;have mh:Step [] he { he with drawn:=he.drawn+1 }:=Step.drew _ _
  have hzd:({ he with drawn:=he.drawn+1 }:World).heap.size=he.heap.size:=rfl
  refine Go.Lg.p (λ_=>Qa O)<|pq (λ_ hc=>Qd (hB1515.step hc g3) O O)<|Go.Lg.p (λ_=>Qm)<|Go.Lg.p (λ_=>Qa O)<|pq (λ_ hc=>Qd (mg.step hc g4) O O) <|
   Go.Lg.p (λ_=>Qa O)<|pq (λ_ hc=>Qd (mg.step hc g4) O O)<|pk<|xc (first:=[]) (capt:=[.pointer (some ⟨b3,0,none⟩),.pointer (some ⟨b11,0,none⟩)]) O<|(yo (hB315.ext mh) (q9.ext mh) (hc.ext (hs015.trans mh)) gl.2.1 lc.1).mono ?_
  rintro r16 w16 ⟨g8,rfl,hB1116⟩;have j1:=mh.any.trans' g8;have hO:∀b∈[b11],b∈b11::ob vl:=λb hb=>by simp only[List.mem_singleton]at hb;simp[hb]
  refine⟨j1.mono hO,?_⟩;refine Go.Lg.p (λ_=>QN ⟨O,O,Z⟩)<|pk<|QF (us:=[QU ((lwB p.co lc.1:Int),lc.2)]) O O (by decide) (by simp) ⟨rfl,rfl,Z⟩ λb119 w17 j2 hb119 ko=>⟨(j1.trans j2).mono hO,?_⟩;have g9:=j1.trans j2
  have hO17:w17.ownsRow hY.heap.size 101 2 vl j ((Vb p.co (q.ls.take j)).flatMap QU):=Ql (Qs gb hQ) g9 (λb hb hm=>by simp only[List.mem_singleton]at hm;subst hm;exact g5 hb);have hz17:=g9.size;refine pk<|Q5 (news:=QU ((lwB p.co lc.1:Int),lc.2)) (L:=[]) hO17 O O O (ko.at (by simp)) (λu hu=>by
   simp only[List.mem_cons,List.not_mem_nil,or_false]at hu;rcases hu with rfl|rfl <;> rfl) (by omega) (by omega) λg7 w18 hP mo hn18=>⟨(g9.mono hO).trans' (mo.mono (λb hb=>Lk _ hb)),?_⟩
  have hB1518:=((hB1515.step g9 (by simp only[List.mem_singleton];omega))).step mo p5;have hB1118:=(hB1116.ext j2).step mo g5;refine Go.Lg.p (λ_=>Qa O)<|pkl (hl:=by kernel_rfl)<|QB (j:=1) (u:=g7) hB1518 O O (by simp) (QK hP) λw19 j3 hB1519=>pe ?_;refine Qx<|QM O O<|Qb<|xe ?_;have p9:∀b∈[b11],b∈[b15,b11]:=λb hb=>by simp only[List.mem_singleton]at hb;simp[hb]
  have qf:∀b∈[b15],b∈[b15,b11]:=λb hb=>by simp only[List.mem_singleton]at hb;simp[hb]
  have hs1218:Step [b15,b11] hY w18:=((ga.trans hQ).trans' (g9.mono p9)).then mo (λb hb=>.inr (hv b hb).1);refine⟨(j+1,mj || !decide (lc.1∈p.co),g7),by simp only[];omega,La,hg,hs1218.trans' (j3.mono qf),hB1519,hB1118.step j3 (by simp only[List.mem_singleton];omega),?_,?_⟩
  ·simp only[];rw[pz,LC];have:=Ql hP j3 (λb hb=>by
    simp only[List.mem_singleton];have:=(Qp hP b hb).1;omega)
   simpa using this
  simp only[];rw[p0,ht,Bool.or_assoc]
 refine Qi ?_;have ge:k<G.length:=by have hh:(k:Int)<(G.length:Int):=mw;omega
 have hmem:=Li ge;have hdr:G.drop k=G[k]'ge::G.drop (k+1):=LE ge;refine Qg<|Qh<|Qc<|xig (g:=skC) Qln (z0.ext hz) O O ge λa58 h58=>?_;refine Zb (G[k]'ge) λq hq=>?_;rw[hq]at h58 hmem hdr;have hqi:=hl4i q hmem;rw[hdr,show q=(q.1,q.2.1,q.2.2) from rfl,ck4]at hck
 refine x (QI h58 O O)<|xl O<|Qu (us:=[nS,.int .i64 0]) O λb8 w8 hS hb8 mq=>xl O<|Qo (us:=skC q) mq O O O O ⟨hqi.one,O,Z⟩ λw9 m1 mq=>xe ?_;have h6:Step [] T w9:=hS.then1 m1 hb8;have gm:=gk.trans h6;refine Qc<|x (Qa O)<|x (Qd mq O O)<|x (Qa O)<|x (Qd mq O O)<|xl O<|xf<|(KK (hqi.ext gm) q.2.2).mono ?_;rintro r10 U ⟨rfl,rfl⟩;refine Qe<|Qc<|Qb<|x (Q7 O O)<|xe ?_
 refine Q4 rfl (λka=>?_) (λka=>?_)
 ·rw[if_pos ka]at hck;have hne:ck4 G≠0:=by rw[←hck];exact ka
  rw[if_pos hne,←hck]at I;subst I;have m7:QT U.heap b4 37 YR:=((mv.ext hR).ext hz).ext h6;refine Qc<|x (QN Z)<|Qb<|xl O<|Qo (us:=YR) m7 O O O O ⟨O,O,O,O,O,Z⟩ λw11 ql hB411=>Qe ?_
  exact Qk ⟨[.agg YR.toArray,.int .i64 (Y0 q.2.2 none q.2.1)],⟨⟨_,O,Qw O (hB411.at (L:=[]) (by simp)).cells⟩,rfl,Z⟩,gm.then1 ql (by omega),YR,rfl,rfl,⟨rfl,rfl,rfl,rfl,rfl,Z⟩,λ_=>rfl,λH=>absurd H ka⟩
 rw[if_neg ka]at hck;refine Qi<|Qx<|QM O O<|Qb<|xe ?_;exact⟨k+1,by omega,La,ge,hz.trans h6,hck⟩
theorem QaC (n:Nat):(1:Int)*(2:Int) ^ n=((1 <<< n:Nat):Int):=by
 rw[Nat.shiftLeft_eq,M7,Int.one_mul,Int.natCast_pow];rfl
theorem Kh {n:Nat}(h:n<16):1 <<< n<65536:=by
 rw[Nat.shiftLeft_eq,M7];exact Nat.pow_lt_pow_right (by decide) h
theorem Qci {b k:Nat}(hb:b<65536)(hk:k<16):orB b k<65536:=Qdv hb (Kh hk)
theorem QjP {n:Nat}(h:n<16):inK .u16 ((1:Int)*(2:Int) ^ n):=by
 rw[QaC];have h1:=Kh h;generalize 1 <<< n=m at h1;exact⟨by omega,by omega⟩
theorem Qf4 {x:XC}:∀(l:List XC) (k b:Nat),b<65536→k+l.length≤16→rqB x k b l<65536
 | [],_,_,hb,_=>hb
 | y::l,k,b,hb,hk=>by
  rw[rqB];refine Qf4 l _ _ ?_ (by simp at hk;omega);by_cases h:(y.a.al.any λe=>decide (e∈x.a.al))=true
  ·rw[if_pos h];exact Qci hb (by simp at hk;omega)
  rw[if_neg h];exact hb
theorem QaP (ls:List (Int×Int))(l:Int×Int):prB (ls++[l])=orB (prB ls) l.1.toNat:=by
 unfold prB;rw[Mn];rfl
theorem jC:∀(ls:List (Int×Int)),(∀l∈ls,0≤l.1∧l.1<16)→prB ls<65536:=by
 intro ls;unfold prB;have key:∀(ls:List (Int×Int)) (b:Nat),b<65536→(∀l∈ls,0≤l.1∧l.1<16)→ls.foldl (λb l=>orB b l.1.toNat) b<65536:=by
  intro ls;induction ls with
  | nil=>intro b hb _;exact hb
  | cons l ls ih =>
   intro b hb h;exact ih _ (Qci hb (by have:=h l Lp;omega)) (λl' hl=>h l' (Lk _ hl))
 exact key ls 0 (by decide)
theorem jM (m:Nat)(hm:m<65536)(w:World):QE prog 99 [.int .u16 m] w λr w'=>Step [] w w'∧Qt 3 w.heap.size w' r (setK m 8):=by
 refine QE.of_W func99 O ntmps99 results99 (by simp) ?_;refine Qc<|Qe<|Qc<|Qe<|Qg<|Qc<|Qb<|xe<|Qh<|QA (α:=Nat×Value) [(3,17)] (λz=>[(3,z.2),(5,.int .i64 z.1)]) (λz w'=>z.1≤8∧Step [] w w'∧Qt 3 w.heap.size w' z.2 (setK m z.1)) (λz=>8 - z.1) (by rfl) (0,nS) ⟨O,O,Z⟩
  ⟨Ll _,Step.refl _ _,QP _ _ _ _⟩ ?_
 rintro⟨k,v⟩ g w1 ⟨hk,G,E⟩;simp only[]at hk E;have hg:=YH m k;have hh:=G.size;refine Qc<|x (Qz O O)<|xe<|Qg<|QC O (λU=>?_) (λU=>?_)
 ·refine Qy<|Qc<|Qb<|Qe ?_;have V:k=8:=by omega
  rw[V]at E;exact Qk ⟨[v],La,G,E⟩
 have J:k<8:=by omega
 have Y:m / 2 ^ k<65536:=Nk (Nat.div_le_self _ _) hm;have H:=KL m k;refine Qi<|Qg<|Qh<|Qc<|Qb<|Qe<|Qc<|Qb<|Qb<|x (UH (n:=k) O O (by show k≤16;omega))<|x (Qjb (a:=m / 2 ^ k) (b:=1) (congrArg (Value.int .u16) (VJ m k)) O Y (by decide))<|x (Zl O O)<|xe<|QC rfl (λT=>?_) (λT=>?_)
 ·rw[if_neg (λe=>T (by rw[e];rfl))]at H;refine Qi<|Qx<|QM O O<|Qb<|xe ?_;exact⟨(k+1,v),by simp only[];omega,⟨O,O,Z⟩,J,G,by simp only[];rw[H];exact E⟩
 rw[if_pos (by omega)]at H;refine Qx<|Qb<|Qb<|xl O<|QF (us:=[[.int .i64 k]]) O O (by decide) (by simp) ⟨rfl,rfl,Z⟩ λb15 w2 I hi ha=>?_;have hc:=Qs E I;have hj:=I.size;refine xl rfl<|Q5 (news:=[.int .i64 k]) (L:=[]) hc O O O (ha.at (by simp)) (by simp[Value.oneCell']) (by omega) (by omega) λv3 w3 he hf hl =>
  Qe ?_
 have hge:=Qp E;refine Qx<|QM O O<|Qb<|xe<|⟨(k+1,v3),by simp only[];omega,⟨O,O,Z⟩,J,(G.trans I).then hf (λb hb=>.inr (hge b hb).1),?_⟩;simp only[];rw[H];exact Qt.snoc he
theorem QfQ {w:World}{c:CL}{E G i:Nat}(J:QT w.heap E 37 c.cells)(T:QT w.heap G 3 [.int .i64 i])(hc:ZJ [] w.heap c){q:IV}(hi:c.rq[i]?=some q)(e:Int):
  QE prog 154 [.int .i64 e,.pointer (some ⟨E,0,none⟩),.pointer (some ⟨G,0,none⟩)] w λr w'=>r=.bool (decide (e∈q.p.a.al))∧Step [] w w':=by
 obtain⟨H,hq⟩:=LS.1 hi;have U:=hc.rq.each q (hq ▸ Li H);refine QE.of_W func154 O ntmps154 results154 (by simp) ?_;refine Qc<|Qe<|Qc<|x (Qa O)<|x (Qd J O O)<|x (Qd T O O)<|xig (g:=Zi) (i:=i) Xf hc.rq.arr O O H λV I=>?_;rw[hq]at I;refine x (Zg O)<|x (Zg O)<|x (Qv ((I.fld 1 q.p.va O)) O)<|Qb<|xl O<|xf<|(Yb U.al e).mono ?_
 rintro Y w1 ⟨rfl,rfl⟩;refine Qe ?_;exact Qk ⟨[_],La,O,Step.refl _ _⟩
theorem QiX {w:World}{c:CL}{U i:Nat}(hg:QT w.heap U 37 c.cells)(hc:ZJ [] w.heap c)(h8:c.co.length≤8){q:IV}(hi:c.rq[i]?=some q):
  QE prog 152 [.int .i64 i,.pointer (some ⟨U,0,none⟩)] w λr w'=>r=.int .u16 (rqB q.it 0 0 c.cel.co)∧Step [] w w':=by
 refine QE.of_W func152 O ntmps152 results152 (by simp) ?_;refine Qc<|xl O<|QQ (us:=[.int .i64 i]) O λb2 w1 V hw hn=>Qe<|Qc<|Qe<|Qg<|Qc<|x (Qa O)<|x (Qd (hg.ext V) O O)<|x (Qr (hc.ext V).co.arr O)<|Qb<|xe ?_
 refine Qh<|QA (α:=Nat×Nat) [(4,6),(10,24)] (λz=>[(4,.int .u16 z.2),(10,.int .i64 z.1)]) (λz w'=>z.1≤c.co.length∧Step [] w1 w'∧z.2<65536∧rqB q.it z.1 z.2 ((c.co.drop z.1).map (·.it))=rqB q.it 0 0 c.cel.co) (λz=>c.co.length - z.1) (by rfl) (0,0) ⟨O,O,Z⟩
  ⟨Ll _,Step.refl _ _,by decide,O⟩ ?_
 rintro⟨k,b⟩ g w2 ⟨hk,J,hb,E⟩;simp only[]at hk hb E;have Y:=V.trans J;have h2:=hc.ext Y;refine Qc<|x (Qz O O)<|xe<|Qg<|QC O (λha=>?_) (λha=>?_)
 ·refine Qy ?_;have ho:c.co.length≤k:=by have hp:¬(k:Int)<(c.co.length:Int):=ha;omega
  rw[Ls ho]at E;have hq:b=rqB q.it 0 0 c.cel.co:=E;refine Qc<|Qb<|Qe ?_;exact Qk ⟨[.int .u16 b],La,by rw[hq];rfl,Y⟩
 have G:k<c.co.length:=by have hp:(k:Int)<(c.co.length:Int):=ha;omega
 have hh:=Li G;rw[Jj G,rqB]at E;refine Qi<|Qg<|Qh<|Qc<|Qb<|xig (g:=Zi) (i:=k) Xf h2.co.arr O O G λhz hj=>?_;refine Zb (c.co[k]'G) λy hy=>?_;rw[hy]at hj hh E;have T:=h2.co.each y hh;refine x (QI hj O O)<|xl O<|Qu (us:=[.string .empty,nS,.int .i64 0,nS,nS]) O λb6 w3 hs ht he=>x Qf <|
  xl rfl<|Qo (us:=Zi y) he O O O O ⟨O,T.al.one,O,T.mr.one,T.ed.one,Z⟩ λw4 hu he=>xe ?_
 have I:Step [] w2 w4:=hs.then1 hu ht;have hl:=Y.trans I;refine Qc<|x (Qa O)<|x (Qa O)<|x (Qd he O O)<|x (Zn (l:=[]) (l':=[_,_]))<|xl O<|xf<|(Qd6 (q:=λe=>decide (e∈q.p.a.al)) (cap:=[.pointer (some ⟨U,0,none⟩),.pointer (some ⟨b2,0,none⟩)]) (T.al.ext I)
  (λe w5 H=>QfQ ((hg.ext hl).ext H) ((hn.ext (J.trans I)).ext H) ((hc.ext hl).ext H) hi e)).mono ?_
 rintro r5 w5 ⟨rfl,H⟩;refine xe<|QY rfl (λhf=>?_) (λhf=>?_)
 ·rw[if_pos (by exact hf)]at E;refine Qx<|Qb<|Qb<|x (Qdo (n:=k) O O (by show k≤16;omega) (QjP (by omega)))<|x (Qcd (a:=b) (b:=1 <<< k) O (congrArg (Value.int .u16) (QaC k)) hb (Kh (by omega)))<|Qe<|Qx<|QM O O<|Qb<|xe ?_;exact⟨(k+1,orB b k),by simp only[];omega,⟨O,O,Z⟩,G,(J.trans I).trans H,Qci hb (by omega),E⟩
 rw[if_neg (by intro h0;have hv:(y.p.a.al.any λe=>decide (e∈q.p.a.al))=false:=hf;have hm:(y.p.a.al.any λe=>decide (e∈q.p.a.al))=true:=h0;rw[hv]at hm;cases hm)]at E;refine Qi<|Qx<|QM O O<|Qb<|xe ?_;exact⟨(k+1,b),by simp only[];omega,⟨O,O,Z⟩,G,(J.trans I).trans H,hb,E⟩
theorem QiW {w:World}{c:CL}{U i:Nat}(hf:QT w.heap U 37 c.cells)(hc:ZJ [] w.heap c){q:XV}(hi:c.ex[i]?=some q)(hm:∀l∈q.ls,0≤l.1∧l.1<16):
  QE prog 155 [.int .i64 i,.pointer (some ⟨U,0,none⟩)] w λr w'=>r=.int .u16 (prB q.ls)∧Step [] w w':=by
 obtain⟨V,hq⟩:=LS.1 hi;have H:=hc.ex.each q (hq ▸ Li V);have ht:=H.le;refine QE.of_W func155 O ntmps155 results155 (by simp) ?_;refine Qc<|Qe<|Qc<|Qe<|Qg<|Qc<|x (Qa O)<|x (Qd hf O O)<|Qb<|xig (g:=Zs) (i:=i) Kd hc.ex.arr O O V λhu Y=>?_;rw[hq]at Y;refine x (Zg O)<|x (Qv (Y.fld 1 q.v O) O)<|x (Qr H O)<|Qb<|xe ?_
 refine Qh<|QA (α:=Nat×Nat) [(4,4),(6,6),(14,23)] (λz=>[(4,.int .u16 z.2),(14,.int .i64 z.1)]) (λz w'=>z.1≤q.ls.length∧Step [] w w'∧z.2=prB (q.ls.take z.1)) (λz=>q.ls.length - z.1) (by rfl) (0,0) ⟨O,O,Z⟩
  ⟨Ll _,Step.refl _ _,O⟩ ?_
 rintro⟨k,b⟩ g w1 ⟨hk,I,hb⟩;simp only[]at hk hb;have hg:b<65536:=by rw[hb];exact jC _ (λl hl=>hm l (LR hl))
 refine Qc<|x (Qz O O)<|xe<|Qg<|QC O (λJ=>?_) (λJ=>?_)
 ·refine Qy ?_;have hh:q.ls.length≤k:=by have G:¬(k:Int)<(q.ls.length:Int):=J;omega
  rw[Ln hh]at hb;refine Qc<|Qb<|Qe ?_;exact Qk ⟨[.int .u16 b],La,by rw[hb];rfl,I⟩
 have E:k<q.ls.length:=by have G:(k:Int)<(q.ls.length:Int):=J;omega
 have ha:q.ls.take (k+1)=q.ls.take k++[q.ls[k]'E]:=Le E;have hj:=hm _ (Li E);refine Qi<|Qg<|Qh<|Qc<|xig (g:=QU) Y3 (H.ext I) O O E λhv G=>?_;refine Zb (q.ls[k]'E) λl hl=>?_;rw[hl]at G ha hj;have hn:l.1=(l.1.toNat:Int):=by omega
 have he:l.1.toNat<16:=by omega
 refine x (QI G O O)<|xl O<|Qu (us:=[.int .i64 0,.int .i64 0]) O λb6 w2 ho hp T=>xl O<|Qo (us:=QU l) T O O O O ⟨O,O,Z⟩ λw3 hr T =>
  xe ?_
 have hs:Step [] w1 w3:=ho.then1 hr hp;refine Qx<|Qb<|x (Qa O)<|x (Qd T O O)<|x (Qdo (n:=l.1.toNat) O (congrArg (Value.int .i64) hn) (by show l.1.toNat≤16;omega) (QjP he))<|x (Qcd (a:=b) (b:=1 <<< l.1.toNat) O (congrArg (Value.int .u16) (QaC _)) hg (Kh he))<|Qe<|Qx<|QM O O<|Qb<|xe ?_
 exact⟨(k+1,orB b l.1.toNat),by simp only[];omega,⟨O,O,Z⟩,E,I.trans hs,by simp only[];rw[ha,QaP,hb]⟩
theorem QiV {w:World}{c:CL}{U i:Nat}(hf:QT w.heap U 37 c.cells)(hc:ZJ [] w.heap c){q:KV}(hi:c.cs[i]?=some q)(hm:∀l∈q.ts,0≤l.1∧l.1<16):
  QE prog 156 [.int .i64 i,.pointer (some ⟨U,0,none⟩)] w λr w'=>r=.int .u16 (prB q.ts)∧Step [] w w':=by
 obtain⟨V,hq⟩:=LS.1 hi;have H:=hc.cs.each q (hq ▸ Li V);have ht:=H.le;refine QE.of_W func156 O ntmps156 results156 (by simp) ?_;refine Qc<|Qe<|Qc<|Qe<|Qg<|Qc<|x (Qa O)<|x (Qd hf O O)<|Qb<|xig (g:=ZD) (i:=i) JQ hc.cs.arr O O V λhu Y=>?_;rw[hq]at Y;refine x (Zg O)<|x (Qv (Y.fld 1 q.v O) O)<|x (Qr H O)<|Qb<|xe ?_
 refine Qh<|QA (α:=Nat×Nat) [(4,4),(6,6),(14,23)] (λz=>[(4,.int .u16 z.2),(14,.int .i64 z.1)]) (λz w'=>z.1≤q.ts.length∧Step [] w w'∧z.2=prB (q.ts.take z.1)) (λz=>q.ts.length - z.1) (by rfl) (0,0) ⟨O,O,Z⟩
  ⟨Ll _,Step.refl _ _,O⟩ ?_
 rintro⟨k,b⟩ g w1 ⟨hk,I,hb⟩;simp only[]at hk hb;have hg:b<65536:=by rw[hb];exact jC _ (λl hl=>hm l (LR hl))
 refine Qc<|x (Qz O O)<|xe<|Qg<|QC O (λJ=>?_) (λJ=>?_)
 ·refine Qy ?_;have hh:q.ts.length≤k:=by have G:¬(k:Int)<(q.ts.length:Int):=J;omega
  rw[Ln hh]at hb;refine Qc<|Qb<|Qe ?_;exact Qk ⟨[.int .u16 b],La,by rw[hb];rfl,I⟩
 have E:k<q.ts.length:=by have G:(k:Int)<(q.ts.length:Int):=J;omega
 have ha:q.ts.take (k+1)=q.ts.take k++[q.ts[k]'E]:=Le E;have hj:=hm _ (Li E);refine Qi<|Qg<|Qh<|Qc<|xig (g:=QU) Y3 (H.ext I) O O E λhv G=>?_;refine Zb (q.ts[k]'E) λl hl=>?_;rw[hl]at G ha hj;have hn:l.1=(l.1.toNat:Int):=by omega
 have he:l.1.toNat<16:=by omega
 refine x (QI G O O)<|xl O<|Qu (us:=[.int .i64 0,.int .i64 0]) O λb6 w2 ho hp T=>xl O<|Qo (us:=QU l) T O O O O ⟨O,O,Z⟩ λw3 hr T =>
  xe ?_
 have hs:Step [] w1 w3:=ho.then1 hr hp;refine Qx<|Qb<|x (Qa O)<|x (Qd T O O)<|x (Qdo (n:=l.1.toNat) O (congrArg (Value.int .i64) hn) (by show l.1.toNat≤16;omega) (QjP he))<|x (Qcd (a:=b) (b:=1 <<< l.1.toNat) O (congrArg (Value.int .u16) (QaC _)) hg (Kh he))<|Qe<|Qx<|QM O O<|Qb<|xe ?_
 exact⟨(k+1,orB b l.1.toNat),by simp only[];omega,⟨O,O,Z⟩,E,I.trans hs,by simp only[];rw[ha,QaP,hb]⟩
end Go.Proofs.YtjcgijbhaemldaaGreatDoor
namespace Go.Lg
theorem xcG {P:Program}{f:Fr}{w:World}{K:Fr→World→Prop}{d:Option Nat}{ty:Nat}{ps:String}{af:Array Edge}{gd:Option (Nat×Bool)}{x:Operand}{l:List Operand}{at_:Array Nat}
  {g:Nat} {first capt:LV} (E:∃fn,Fu P g fn) (hx:ev f x=.func (.func g) first.toArray capt.toArray) (h:QE P g (first++l.map (ev f)++capt) w λv w'=>K (QZ f d v) w'):
  XO P ⟨d,.call ⟨.value x,l.toArray,at_⟩,ty,ps,af,gd⟩ f w K:=by
 obtain⟨fn,G⟩:=E;exact xc (fn:=fn) hx h
end Go.Lg
namespace Go.Proofs.YtjcgijbhaemldaaGreatDoor
open Go.Proofs.Tryz
open Go.Lg
def gK (m:Nat):Nat:=if m=0 then 152 else if m=1 then 155 else 156
theorem Qg6 (m:Nat):∃fn,Fu prog (gK m) fn:=by
 unfold gK;split
 ·exact⟨_,inferInstance⟩
 split
 ·exact⟨_,inferInstance⟩
 exact⟨_,inferInstance⟩
abbrev XG (c:ZA)(m:Nat):LN:=srK c ((m:Int)+1)
theorem QfT (c:ZA):XG c 0=srR c:=rfl
theorem QfS (c:ZA):XG c 1=srX c:=rfl
theorem QfR (c:ZA):XG c 2=srC c:=rfl
structure UZ (c:ZA):Prop where
 c8:c.co.length≤8
 r:c.rq.length≤32
 x:c.ex.length≤32
 k:c.cs.length≤32
 xl:∀e∈c.ex,∀l∈e.ls,0≤l.1∧l.1<16
 kl:∀e∈c.cs,∀l∈e.ts,0≤l.1∧l.1<16
theorem Qip.sr {c:ZA}(h:Qip c):UZ c:=by
 have h1:=UN h.cd;have h2:(szs c.co).length=c.co.length:=Lh ..;have E:=h.c8;have G:=h.cr;refine⟨E,by omega,h1.xl,h1.kl,λe he l hl=>?_,λe he l hl=>?_⟩
 ·have:=h1.x e he l hl;omega
 have:=(h1.k e he).1 l hl;omega
theorem VI {c:ZA}(h:UZ c){m:Nat}(hm:m<3):(XG c m).length≤32:=by
 have h1:=h.r;have h2:=h.x;have h3:=h.k;rcases m with _|_|_|m
 ·rw[QfT];unfold srR;rw[Lh];exact h1
 ·rw[QfS];unfold srX;rw[Lh];exact h2
 ·rw[QfR];unfold srC;rw[Lh];exact h3
 omega
theorem qw {c:ZA}(h:UZ c){m:Nat}(hm:m<3):∀b∈XG c m,b<65536:=by
 have E:=h.c8;rcases m with _|_|_|m
 ·rw[QfT];unfold srR;intro b hb;obtain⟨x,_,rfl⟩:=Lx.1 hb;exact Qf4 _ _ _ (by decide) (by omega)
 ·rw[QfS];unfold srX;intro b hb;obtain⟨x,hx,rfl⟩:=Lx.1 hb;exact jC _ (h.xl x hx)
 ·rw[QfR];unfold srC;intro b hb;obtain⟨x,hx,rfl⟩:=Lx.1 hb;exact jC _ (h.kl x hx)
 omega
abbrev srV (b1:Nat)(c:ZA)(m:Nat):LV:=[.int .i64 ((m:Int)+1),.int .i64 (XG c m).length,.func (.func (gK m)) #[] #[.pointer (some ⟨b1,0,none⟩)]]
theorem qv (E:Nat)(c:ZA)(m:Nat):(srV E c m).length=3:=rfl
theorem Qb8 {w:World}{c:CL}{I m i:Nat}(G:QT w.heap I 37 c.cells)(hc:ZJ [] w.heap c)(H:UZ c.cel)(hm:m<3)(hi:i<(XG c.cel m).length):
  QE prog (gK m) [.int .i64 i,.pointer (some ⟨I,0,none⟩)] w λr w'=>r=.int .u16 ((XG c.cel m)[i]'hi:Nat)∧Step [] w w':=by
 rcases m with _|_|_|m
 ·have hl:(XG c.cel 0).length=c.rq.length:=by rw[QfT];unfold srR;rw[Lh];exact Lh ..
  have E:i<c.rq.length:=Nat.lt_of_lt_of_eq hi hl;have e:(XG c.cel 0)[i]'hi=rqB (c.rq[i]'E).it 0 0 c.cel.co:=by
   show(srR c.cel)[i]'_=_;simp[srR,CL.cel]
  rw[e];have J:c.co.length≤8:=by have:=H.c8;rw[show c.cel.co.length=c.co.length from Lh ..]at this;exact this
  exact QiX G hc J (Lz E)
 ·have hl:(XG c.cel 1).length=c.ex.length:=by rw[QfS];unfold srX;rw[Lh];exact Lh ..
  have E:i<c.ex.length:=Nat.lt_of_lt_of_eq hi hl;have e:(XG c.cel 1)[i]'hi=prB (c.ex[i]'E).ls:=by
   show(srX c.cel)[i]'_=_;simp[srX,CL.cel,XV.x]
  rw[e];exact QiW G hc (Lz E) (λl hl=>H.xl (c.ex[i]'E).x (LL (Li E)) l hl)
 ·have hl:(XG c.cel 2).length=c.cs.length:=by rw[QfR];unfold srC;rw[Lh];exact Lh ..
  have E:i<c.cs.length:=Nat.lt_of_lt_of_eq hi hl;have e:(XG c.cel 2)[i]'hi=prB (c.cs[i]'E).ts:=by
   show(srC c.cel)[i]'_=_;simp[srC,CL.cel,KV.k]
  rw[e];exact QiV G hc (Lz E) (λl hl=>H.kl (c.cs[i]'E).k (LL (Li E)) l hl)
 omega
structure Qom (N:Nat)(w:World)(c:CL)(r:Value)(b1 b:Nat):Prop where
 r:r=.slice (some ⟨b,0,none⟩) 3 3
 n1:N≤b1
 n:N≤b
 B1:QT w.heap b1 37 c.cells
 B:QT w.heap b 200 ([0,1,2].flatMap (srV b1 c.cel))
theorem Vj {L:LN}{w:World}{c:CL}(J:ZJ L w.heap c):
  QE prog 98 [c.val] w λr w'=>Step [] w w'∧∃E b,Qom w.heap.size w' c r E b:=by
 have h:=J.up (L':=[]) (by simp);have e0:(XG c.cel 0).length=c.rq.length:=by rw[QfT];unfold srR;rw[Lh];exact Lh ..
 have e1:(XG c.cel 1).length=c.ex.length:=by rw[QfS];unfold srX;rw[Lh];exact Lh ..
 have e2:(XG c.cel 2).length=c.cs.length:=by rw[QfR];unfold srC;rw[Lh];exact Lh ..
 refine QE.of_W func98 O ntmps98 results98 (by simp) ?_;refine Qc<|xl O<|QQ (us:=c.cells) O λE Y H T G=>Qe ?_;have h1:=h.ext H;refine Qc<|x (Qa O)<|x (Qd G O O)<|x (Qr h1.rq.arr O)<|x (Zn (l:=[]) (l':=[_]))<|x (QN ⟨O,O,O,Z⟩)<|x (Qa O) <|
  x (Qd G O O)<|x (Qr h1.ex.arr O)<|x (Zn (l:=[]) (l':=[_]))<|x (QN ⟨O,O,O,Z⟩)<|x (Qa O)<|x (Qd G O O) <|
  x (Qr h1.cs.arr O)<|x (Zn (l:=[]) (l':=[_]))<|x (QN ⟨O,O,O,Z⟩) <|
  xl rfl<|QF (us:=[[.int .i64 1,.int .i64 c.rq.length,.func (.func 152) #[] #[.pointer (some ⟨E,0,none⟩)]],[.int .i64 2,.int .i64 c.ex.length,.func (.func 155) #[] #[.pointer (some ⟨E,0,none⟩)]],[.int .i64 3,.int .i64 c.cs.length,.func (.func 156) #[] #[.pointer (some ⟨E,0,none⟩)]]]) O O (by decide) (by simp) ⟨rfl,rfl,rfl,rfl,rfl,rfl,Z⟩ λU w2 I ha V =>
  Qe ?_
 have hb:=H.size;refine Qk ⟨[_],La,H.trans I,E,U,O,T,by omega,G.ext I,?_⟩;have e:[0,1,2].flatMap (srV E c.cel)=[.int .i64 1,.int .i64 c.rq.length,.func (.func 152) #[] #[.pointer (some ⟨E,0,none⟩)],.int .i64 2,.int .i64 c.ex.length,.func (.func 155) #[] #[.pointer (some ⟨E,0,none⟩)],.int .i64 3,.int .i64 c.cs.length,.func (.func 156) #[] #[.pointer (some ⟨E,0,none⟩)]]:=by
  simp only[List.flatMap_cons,List.flatMap_nil,srV,e0,e1,e2];rfl
 rw[e];exact V
def srP (c:ZA):Nat→LN
 | 0=>[]
 | m+1=>srP c m++XG c m
theorem QaB (c:ZA):srP c 3=sets c:=by
 simp only[srP,QfT,QfS,QfR,sets,List.nil_append,List.append_assoc]
theorem jm {c:ZA}(h:UZ c):∀m,m≤3→(srP c m).length≤32*m
 | 0,_=>Ll _
 | m+1,hm=>by
  have h1:=jm h m (by omega);have h2:=VI h (show m<3 by omega);rw[srP,Lj];omega
abbrev QfB (l:LN):LV:=l.map λb=>.int .u16 (b:Nat)
abbrev zS (base:Nat)(w:World)(v:Value)(l:LN):Prop:=w.ownsRow base 202 1 v l.length (QfB l)
theorem zS.snoc {base:Nat}{w:World}{v:Value}{l:LN}{b:Nat}(h:w.ownsRow base 202 1 v (l.length+1) (QfB l++[.int .u16 (b:Nat)])):zS base w v (l++[b]):=by
 unfold zS QfB;rw[Lj,Lv];exact h
set_option maxHeartbeats 4000000 in
theorem Qi0 {L:LN}{w:World}{c:CL}(h0:ZJ L w.heap c)(ha:UZ c.cel):
  QE prog 101 [c.val] w λr w'=>Step [] w w'∧zS w.heap.size w' r (sets c.cel):=by
 have h:=h0.up (L':=[]) (by simp);refine QE.of_W func101 O ntmps101 results101 (by simp) ?_;refine Qc<|xl O<|QQ (us:=c.cells) O λb1 w1 hn hF hq=>Qe<|Qc<|Qe<|Qg<|Qc<|x (Qn hq O O)<|xl O<|xf<|(Vj (h.ext hn)).mono ?_;rintro r2 G ⟨hr,E,bs,hS⟩;have ht:=hS.r;subst ht;have hc:=hn.trans hr
 have hA:∀{w':World},Step [] G w'→Zv [] w'.heap (.slice (some ⟨bs,0,none⟩) 3 3) [0,1,2].length 3 ([0,1,2].flatMap (srV E c.cel)):=λhs =>
  (hS.B.ext hs).arr (by simp) (n:=3) (cap:=3) (sz:=3) (by rfl) (by omega) (Lt _)
 refine x (Qr (hA (Step.refl _ _)) O)<|Qb<|xe<|Qh<|QA (α:=Nat×Value) [(3,3),(5,6),(10,27)] (λz=>[(3,z.2),(10,.int .i64 z.1)]) (λz w'=>z.1≤3∧Step [] G w'∧zS G.heap.size w' z.2 (srP c.cel z.1)) (λz=>3 - z.1) (by rfl) (0,nS) ⟨O,O,Z⟩
  ⟨Ll _,Step.refl _ _,QP _ _ _ _⟩ ?_
 rintro⟨m,v⟩ g w3 ⟨hm,T,H⟩;simp only[]at hm H;have hG:=jm ha m hm;refine Qc<|x (Qz O O)<|xe<|Qg<|QC O (λhe=>?_) (λhe=>?_)
 ·refine Qy ?_;have hu:m=3:=by have hf:¬(m:Int)<(3:Nat):=he;omega
  rw[hu,QaB]at H;refine Qc<|Qb<|Qe ?_;exact Qk ⟨[v],La,hc.trans T,Zc H hc.size⟩
 have I:m<3:=by have hf:(m:Int)<(3:Nat):=he;omega
 have hH:=VI ha I;refine Qi ?_;have hI:=T.size;have hge:=Qp H;have hv:([0,1,2]:LN)[m]'I=m:=by rcases m with _|_|_|m <;> first|rfl|omega
 refine Qg<|Qh<|Qc<|xig (g:=srV E c.cel) (i:=m) (qv E c.cel) (hA T) O O I λhJ ho=>?_;rw[hv]at ho;refine x (QI ho O O)<|xl O<|Qu (us:=[.int .i64 0,.int .i64 0,.nilFunc]) O λb5 w4 hw hy U=>xl O<|Qo (us:=srV E c.cel m) U O O O O ⟨O,O,O,Z⟩ λw5 hz U =>
  xe ?_
 have hg:Step [] w3 w5:=hw.then1 hz hy;have hK:=hg.size;refine Qc<|x (Qa O)<|x (Qd U O O)<|Qb<|xe<|Qh<|QA (α:=Nat×Value) [(3,3),(6,6),(16,26)] (λz=>[(3,z.2),(16,.int .i64 z.1)]) (λz w'=>z.1≤(XG c.cel m).length∧Step (ob v) w5 w'∧zS G.heap.size w' z.2 (srP c.cel m++(XG c.cel m).take z.1)∧∀b∈ob z.2,b∈ob v∨w5.heap.size≤b) (λz=>(XG c.cel m).length - z.1) (by rfl) (0,v) ⟨O,O,Z⟩
  ⟨Ll _,Step.refl _ _,by simp only[List.take_zero,List.append_nil];exact Qs H hg,λb hb=>.inl hb⟩ ?_
 rintro⟨i,vi⟩ g w6 ⟨hi,V,Y,hh⟩;simp only[]at hi Y hh;have hL:=V.size;have hj:Step [] G w6:=(T.trans hg).then V (λb hb=>.inr (hge b hb).1);have h1:b5∉ob v:=λhb=>by have:=(hge b5 hb).2;omega
 have h2:=U.step V h1;have h6:=h.ext (hc.trans hj);have h3:QT w6.heap E 37 c.cells:=hS.B1.ext hj;refine Qc<|x (Qz O O)<|xe<|Qg<|QC O (λhk=>?_) (λhk=>?_)
 ·refine Qy ?_;have h4:(XG c.cel m).length≤i:=by have hf:¬(i:Int)<((XG c.cel m).length:Int):=hk;omega
  rw[Ln h4]at Y;refine Qx<|QM O O<|Qb<|xe ?_;exact⟨(m+1,vi),by simp only[];omega,⟨O,O,Z⟩,I,hj,Y⟩
 have J:i<(XG c.cel m).length:=by have hf:(i:Int)<((XG c.cel m).length:Int):=hk;omega
 have hp:(XG c.cel m).take (i+1)=(XG c.cel m).take i++[(XG c.cel m)[i]'J]:=Le J;have hM:(srP c.cel m++(XG c.cel m).take i).length≤200:=by rw[Lj,Ly];omega
 refine Qi<|Qg<|Qh<|Qc<|Qb<|Qe<|Qx<|Qb<|x (Qa O)<|x (Qd h2 O O)<|Qb<|xl O<|xcG (first:=[]) (capt:=[.pointer (some ⟨E,0,none⟩)]) (Qg6 m) O<|(Qb8 h3 h6 ha I J).mono ?_;rintro r7 w7 ⟨rfl,h5⟩;refine Zb ((XG c.cel m)[i]'J) λbv h7=>?_;rw[h7]at hp ⊢;refine xl rfl<|QF (us:=[[.int .u16 (bv:Nat)]]) O O (by decide) (by simp) ⟨rfl,rfl,Z⟩ λhN w8 h8 hO hB=>?_;have hl:=h5.trans h8
 have hP:=hl.size;refine xl rfl<|Q5 (news:=[.int .u16 (bv:Nat)]) (L:=[]) (Qs Y hl) O O O (hB.at (by simp)) (by simp[Value.oneCell']) (by omega) (by omega) λv9 w9 hC hD hE =>
  Qe<|Qx<|QM O O<|Qb<|xe ?_
 refine⟨(i+1,v9),by simp only[];omega,⟨O,O,Z⟩,J,(V.trans hl).then hD hh,?_,λb hb=>?_⟩
 ·simp only[];rw[hp,←LB];exact zS.snoc hC
 rcases hE b hb with h9|h9
 ·exact hh b h9
 exact .inr (by omega)
structure MV where
 kd:Int
 ix:Int
 v:Value
 co:LI
def MV.m (q:MV):Mdl:=⟨q.kd,q.ix,q.co⟩
abbrev YA (q:MV):LV:=[.int .i64 q.kd,.int .i64 q.ix,q.v]
theorem QlD (q:MV):(YA q).length=3:=rfl
abbrev mvP (q:MV):Value×Nat×Nat×LV:=(q.v,q.co.length,1,q.co.map (.int .i64))
abbrev MvN (base:Nat)(w:World)(v:Value)(l:List MV):Prop:=Z5 YA 3 135 mvP base w v l
theorem Qjq {q:MV}(h:q.v.oneCell'=true):∀u∈YA q,u.oneCell'=true:=by
 intro u hu;simp only[YA,List.mem_cons,List.not_mem_nil,or_false]at hu;rcases hu with rfl|rfl|rfl
 ·rfl
 ·rfl
 exact h
theorem VT (k:Int):∀(l:LN) (i:Nat),(qO k i l).length=l.length
 | [],_=>rfl
 | _::l,i=>by rw[qO,LG,VT k l,LG]
theorem yA (k:Int):∀(l:LN) (i j:Nat) (h:j<l.length),(qO k i l).take (j+1)=(qO k i l).take j++[⟨k,((i+j:Nat):Int),setK (l[j]'h) 8⟩]
 | [],_,j,h=>absurd h (Nb _)
 | b::l,i,0,h=>by rw[qO];rfl
 | b::l,i,j+1,h=>by
  rw[qO,MF,MF,yA k l (i+1) j (by simpa using h),Mh];have e:((i+1+j:Nat):Int)=((i+(j+1):Nat):Int):=by omega
  rw[e];rfl
abbrev mdG (c:ZA)(m:Nat):List Mdl:=qO ((m:Int)+1) 0 (XG c m)
def mdP (c:ZA):Nat→List Mdl
 | 0=>[]
 | m+1=>mdP c m++mdG c m
theorem QaZ (c:ZA):mdP c 3=mods c:=by
 simp only[mdP,mods,List.nil_append,List.append_assoc];rfl
theorem jH {c:ZA}(h:UZ c):∀m,m≤3→(mdP c m).length≤32*m
 | 0,_=>Ll _
 | m+1,hm=>by
  have h1:=jH h m (by omega);have h2:=VI h (show m<3 by omega);rw[mdP,Lj,VT];omega
set_option maxHeartbeats 4000000 in
theorem Qc0 {L:LN}{w:World}{c:CL}(V:ZJ L w.heap c):
  QE prog 48 [c.val] w λr w'=>Step [] w w'∧∃v l,r=.tuple #[v,.int .i64 (Zk c.cel)]∧MvN w.heap.size w' v l∧(Zk c.cel≠0→v=nS∧l=[])∧(Zk c.cel=0→l.map MV.m=mods c.cel):=by
 have h:=V.up (L':=[]) (by simp);refine Zb (Zk c.cel) λE hE=>?_;rw[hE];refine QE.of_W func48 O ntmps48 results48 (by simp) ?_;refine Qc<|xl O<|QQ (us:=c.cells) O λb1 w1 h8 gi hB=>x Qf<|Qe<|Qg<|Qc<|x (Qn hB O O)<|xl O<|xf<|(Xi (h.ext h8)).mono ?_;rintro rc wc ⟨hC,hD⟩;rw[hE]at hC;subst hC;have hM:=hB.ext hD;have hp:=h8.trans hD;refine Qe<|Qc<|Qb<|x (Q7 O O)<|xe ?_
 refine Q4 rfl (λH=>?_) (λH=>?_)
 ·refine Qc<|Qb<|x Qf<|Qe ?_;exact Qk ⟨[nS,.int .i64 E],⟨O,O,Z⟩,hp,nS,[],O,Z5.nil,λ_=>⟨O,O⟩,λV=>absurd V H⟩
 have hr:E=0:=Lm.1 H;have hj:UZ c.cel:=(ZX (hE.trans hr)).sr;refine Qi<|Qc<|Qe<|Qg<|Qc<|x (Qn hM O O)<|xl O<|xf<|(Vj (h.ext hp)).mono ?_;rintro r2 I ⟨hN,J,bs,hS⟩;have hO:=hS.r;subst hO;have ht:=hp.trans hN;have hA:∀{w':World},Step [] I w'→Zv [] w'.heap (.slice (some ⟨bs,0,none⟩) 3 3) [0,1,2].length 3 ([0,1,2].flatMap (srV J c.cel)):=λhs =>
  (hS.B.ext hs).arr (by simp) (n:=3) (cap:=3) (sz:=3) (by rfl) (by omega) (Lt _)
 refine x (Qr (hA (Step.refl _ _)) O)<|Qb<|xe<|Qh<|QA (α:=Nat×Value×List MV) [(5,5),(7,8),(17,39)] (λz=>[(5,z.2.1),(17,.int .i64 z.1)]) (λz w'=>z.1≤3∧Step [] I w'∧MvN I.heap.size w' z.2.1 z.2.2∧z.2.2.map MV.m=mdP c.cel z.1) (λz=>3 - z.1) (by rfl) (0,nS,[]) ⟨O,O,Z⟩
  ⟨Ll _,Step.refl _ _,Z5.nil,O⟩ ?_
 rintro⟨m,v,l⟩ g w3 ⟨hm,hk,Y,ha⟩;simp only[]at hm Y ha;have gj:=jH hj m hm;have gk:l.length=(mdP c.cel m).length:=by rw[←ha,Lh]
 refine Qc<|x (Qz O O)<|xe<|Qg<|QC O (λhu=>?_) (λhu=>?_)
 ·refine Qy ?_;have hP:m=3:=by have hv:¬(m:Int)<(3:Nat):=hu;omega
  rw[hP,QaZ]at ha;refine Qc<|Qb<|x Qf<|Qe ?_;have hQ:=ht.size;exact Qk ⟨[v,.int .i64 0],⟨O,O,Z⟩,ht.trans hk,v,l,by rw[hr];rfl,⟨Zc Y.own hQ,λq hq L hL=>Y.each q hq L (λb hb=>(hL b hb).imp (λh=>by omega) id)⟩,λV=>absurd hr V,λ_=>ha⟩
 have T:m<3:=by have hv:(m:Int)<(3:Nat):=hu;omega
 have gl:=VI hj T;refine Qi ?_;have gm:=hk.size;have hge:=Qp Y.own;have hR:([0,1,2]:LN)[m]'T=m:=by rcases m with _|_|_|m <;> first|rfl|omega
 refine Qg<|Qh<|Qc<|xig (g:=srV J c.cel) (i:=m) (qv J c.cel) (hA hk) O O T λgn H=>?_;rw[hR]at H;refine x (QI H O O)<|xl O<|Qu (us:=[.int .i64 0,.int .i64 0,.nilFunc]) O λb7 w4 hT hU he=>xl O<|Qo (us:=srV J c.cel m) he O O O O ⟨O,O,O,Z⟩ λw5 hV he =>
  xe ?_
 have hw:Step [] w3 w5:=hT.then1 hV hU;have go:=hw.size;refine Qc<|x (Qa O)<|x (Qd he O O)<|Qb<|xe ?_
 refine Qh<|QA (α:=Nat×Value×List MV) [(5,5),(8,8),(23,38)] (λz=>[(5,z.2.1),(23,.int .i64 z.1)]) (λz w'=>z.1≤(XG c.cel m).length∧Step (ob v) w5 w'∧MvN I.heap.size w' z.2.1 z.2.2∧z.2.2.map MV.m=mdP c.cel m++(mdG c.cel m).take z.1∧∀b∈ob z.2.1,b∈ob v∨w5.heap.size≤b) (λz=>(XG c.cel m).length - z.1) (by rfl) (0,v,l) ⟨O,O,Z⟩
  ⟨Ll _,Step.refl _ _,Y.ext hw,by simp only[List.take_zero,List.append_nil];exact ha,λb hb=>.inl hb⟩ ?_
 rintro⟨i,vi,li⟩ g G ⟨hi,hl,hf,hg,hn⟩;simp only[]at hi hf hg hn;have gq:=hl.size;have hW:=Qp hf.own;have ho:Step [] I G:=(hk.trans hw).then hl (λb hb=>.inr (hge b hb).1);have hF:b7∉ob v:=λhb=>by have:=(hge b7 hb).2;omega
 have hG:=he.step hl hF;have h6:=h.ext (ht.trans ho);have hX:QT G.heap J 37 c.cells:=hS.B1.ext ho;have gr:li.length≤200:=by
  have e1:=congrArg List.length hg;rw[Lh,Lj,Ly]at e1;have e2:(mdG c.cel m).length=(XG c.cel m).length:=VT _ _ _;omega
 refine Qc<|x (Qz O O)<|xe<|Qg<|QC O (λhy=>?_) (λhy=>?_)
 ·refine Qy ?_;have hY:(XG c.cel m).length≤i:=by have hv:¬(i:Int)<((XG c.cel m).length:Int):=hy;omega
  rw[Ln (by rw[VT];exact hY)]at hg;refine Qx<|QM O O<|Qb<|xe ?_;exact⟨(m+1,vi,li),by simp only[];omega,⟨O,O,Z⟩,T,ho,hf,hg⟩
 have U:i<(XG c.cel m).length:=by have hv:(i:Int)<((XG c.cel m).length:Int):=hy;omega
 have hz:(mdG c.cel m).take (i+1)=(mdG c.cel m).take i++[⟨(m:Int)+1,((0+i:Nat):Int),setK ((XG c.cel m)[i]'U) 8⟩]:=yA _ _ _ _ U;rw[LO]at hz;have hH:=qw hj T _ (Li U);refine Qi<|Qg<|Qh<|Qc<|Qb<|Qe ?_;have hI:b7∉ob vi:=λhb=>by
  rcases hn b7 hb with h9|h9
  ·exact hF h9
  have:=he.lt;omega
 have h1:Step [] G { G with drawn:=G.drawn+1 }:=Step.drew _ _
 have gs:({ G with drawn:=G.drawn+1 }:World).heap.size=G.heap.size:=rfl
 refine QV (Step (ob vi) G) [(0,true),(1,true),(2,true),(3,true),(4,true),(5,true),(6,true),(7,false),(8,false),(9,true),(10,false),(11,false),(12,true)] mixed (by rfl) (by kernel_rfl) (Step.drew _ _) ?_;refine p (λ_=>Qm)<|p (λ_=>Qa O)<|pq (λ_ hc=>Qd (hG.step hc hI) O O)<|p (λ_=>Qm)<|p (λ_=>Qa O) <|
  pq (λ_ hc=>Qd (hG.step hc hI) O O)<|p (λ_=>Qm)<|pk<|xcG (first:=[]) (capt:=[.pointer (some ⟨J,0,none⟩)]) (Qg6 m) O<|(Qb8 (hX.ext h1) (h6.ext h1) hj T U).mono ?_
 rintro r8 w8 ⟨rfl,hZ⟩;refine Zb ((XG c.cel m)[i]'U) λbv ga=>?_;rw[ga]at hz hH ⊢;have h2:=h1.trans hZ;refine⟨h2.any,?_⟩;refine pk<|xf<|(jM bv hH w8).mono ?_;rintro r9 w9 ⟨gb,h3⟩;have h4:=h2.trans gb;have gt:=h2.size;refine⟨h4.any,?_⟩
 refine p (λ_=>QN ⟨O,O,Zo h3,Z⟩)<|pk<|QF (us:=[YA ⟨(m:Int)+1,i,r9,setK bv 8⟩]) O O (by decide) (by simp) ⟨rfl,rfl,Z⟩ λgu gv h5 gx gc=>⟨(h4.trans h5).any,?_⟩;have hh:=h4.trans h5;have gy:=hh.size
 refine pk<|Q5 (news:=YA ⟨(m:Int)+1,i,r9,setK bv 8⟩) (L:=[]) (Qs hf.own hh) O O O (gc.at (by simp)) (Qjq (q:=⟨(m:Int)+1,i,r9,setK bv 8⟩) (QK h3)) (by omega) (by omega) λhJ ge gg h7 hK=>⟨hh.any.trans' h7,?_⟩;refine p (λ_=>Qf)<|pe ?_;have gz:=YH bv 8
 have gh:MvN I.heap.size ge hJ (li++[⟨(m:Int)+1,i,r9,setK bv 8⟩]):=Z5.app2 (N:=w8.heap.size) (hf.ext hh) (Qs h3 h5) (by show(setK bv 8).length≤_;omega) (by have:=ho.size;omega) (λb hb=>by have:=hW b hb;omega) gg h7 hK;refine Qx<|QM O O<|Qb<|xe ?_
 refine⟨(i+1,hJ,li++[⟨(m:Int)+1,i,r9,setK bv 8⟩]),by simp only[];omega,⟨O,O,Z⟩,U,(hl.trans hh).then h7 hn,gh,?_,λb hb=>?_⟩
 ·simp only[];rw[hz,Lv,hg,LB];rfl
 rcases hK b hb with h9|h9
 ·exact hn b h9
 exact .inr (by omega)
theorem Qn7 {n:Nat}(h:n≤8):2 ^ n≤256:=Nat.pow_le_pow_right (by decide) h
set_option maxHeartbeats 4000000 in
theorem Qab {L:LN}{w:World}{c:CL}(I:ZJ L w.heap c):
  QE prog 50 [c.val] w λr w'=>Step [] w w'∧∃v,r=.tuple #[v,.int .i64 (Zk c.cel)]∧(Zk c.cel≠0→v=nS)∧(Zk c.cel=0→Qt 3 w.heap.size w' v (rem c.cel)):=by
 have h:=I.up (L':=[]) (by simp);refine Zb (Zk c.cel) λE hE=>?_;rw[hE];refine QE.of_W func50 O ntmps50 results50 (by simp) ?_;refine Qc<|xl O<|QQ (us:=c.cells) O λb1 w1 hf h9 hg=>x Qf<|Qe<|Qg<|Qc<|x (Qn hg O O)<|xl O<|xf<|(Xi (h.ext hf)).mono ?_;rintro rc wc ⟨hh,hi⟩;rw[hE]at hh;subst hh;have hj:=hg.ext hi;have T:=hf.trans hi;refine Qe<|Qc<|Qb<|x (Q7 O O)<|xe ?_
 refine Q4 rfl (λU=>?_) (λU=>?_)
 ·refine Qc<|Qb<|x Qf<|Qe ?_;exact Qk ⟨[nS,.int .i64 E],⟨O,O,Z⟩,T,nS,O,λ_=>O,λI=>absurd I U⟩
 have V:E=0:=Lm.1 U;have G:UZ c.cel:=(ZX (hE.trans V)).sr;have ht:c.cel.co.length=c.co.length:=Lh ..;have h8:c.co.length≤8:=by have:=G.c8;omega
 have hB:=Qn7 h8;have hC:0<2 ^ c.co.length:=Nat.pow_pos (by decide);have he:(1:Int)*(2:Int) ^ c.co.length - 1=((2 ^ c.co.length - 1:Nat):Int):=by
  rw[QaC,Nat.shiftLeft_eq,M7];omega
 have hu:inK .u16 ((1:Int)*(2:Int) ^ c.co.length - 1):=by rw[he];exact⟨by omega,by omega⟩
 have hl:2 ^ c.co.length - 1<65536:=by omega
 have hv:=jm G 3 (by omega);rw[QaB]at hv;have hm:Qb9 c.cel=(sets c.cel).foldl (λl b=>l &&& (65535 ^^^ b)) (2 ^ c.co.length - 1):=by unfold Qb9;rw[ht]
 have hw:∀b∈sets c.cel,b<65536:=by
  intro b hb;unfold sets at hb;rcases Lq.1 hb with hb|hb
  ·exact qw G (m:=0) (by omega) b hb
  rcases Lq.1 hb with hb|hb
  ·exact qw G (m:=1) (by omega) b hb
  exact qw G (m:=2) (by omega) b hb
 refine Zb (2 ^ c.co.length - 1) λb0 hz=>?_;rw[hz]at he hm hl;have hn:=h.ext T;refine Qi<|Qc<|x (Qa O)<|x (Qd hj O O)<|x (Qr hn.co.arr O)<|x (Qdo (n:=c.co.length) O O (by show c.co.length≤16;omega) (QjP (by omega)))<|x (Jf O O hu)<|Qe<|Qg<|Qc<|x (Qn hj O O)<|xl O<|xf<|(Qi0 hn G).mono ?_;rintro r2 Y ⟨h1,h2⟩
 have hA:Zv [] Y.heap r2 (sets c.cel).length 1 (QfB (sets c.cel)):=QW h2 (by omega) (by simp);have h3:Zv [] Y.heap r2 (sets c.cel).length 1 ((sets c.cel).flatMap λb=>[.int .u16 (b:Nat)]):=by
  have e:(sets c.cel).flatMap (λb=>[Value.int .u16 (b:Nat)])=QfB (sets c.cel):=by
   generalize sets c.cel=l;induction l with
   | nil=>rfl
   | cons a l ih=>rw[LH,ih];rfl
  rw[e];exact hA
 refine x (Qr hA O)<|Qb<|xe<|Qh<|QA (α:=Nat×Nat) [(5,5),(7,7),(21,28)] (λz=>[(5,.int .u16 z.2),(21,.int .i64 z.1)]) (λz w'=>z.1≤(sets c.cel).length∧Step [] Y w'∧z.2<65536∧((sets c.cel).drop z.1).foldl (λl b=>l &&& (65535 ^^^ b)) z.2=Qb9 c.cel) (λz=>(sets c.cel).length - z.1) (by rfl) (0,b0) ⟨congrArg (Value.int .u16) he,O,Z⟩
  ⟨Ll _,Step.refl _ _,hl,hm.symm⟩ ?_
 rintro⟨k,b⟩ g w3 ⟨hk,ha,hb,H⟩;simp only[]at hk hb H;have ho:=(T.trans h1).trans ha;refine Qc<|x (Qz O O)<|xe<|Qg<|QC O (λhc=>?_) (λhc=>?_)
 ·refine Qy ?_;have h4:(sets c.cel).length≤k:=by have h5:¬(k:Int)<((sets c.cel).length:Int):=hc;omega
  rw[Ls h4]at H;have h6:b=Qb9 c.cel:=H;refine Qc<|Qb<|xl O<|xf<|(jM b hb w3).mono ?_;rintro r4 w4 ⟨h7,hp⟩;refine x Qf<|Qe ?_;rw[h6]at hp;exact Qk ⟨[r4,.int .i64 0],⟨O,O,Z⟩,ho.trans h7,r4,by rw[V];rfl,λI=>absurd V I,λ_=>Zc hp ho.size⟩
 have J:k<(sets c.cel).length:=by have h5:(k:Int)<((sets c.cel).length:Int):=hc;omega
 have hq:=hw _ (Li J);rw[LE J,LM]at H;refine Qi<|Qg<|Qh<|Qc<|xig (g:=λb:Nat=>[.int .u16 (b:Nat)]) (i:=k) (λ_=>O) (h3.ext ha) O O J λhD hs=>?_;refine Zb ((sets c.cel)[k]'J) λy hy=>?_;rw[hy]at hs hq H;refine x (Qv hs O)<|Qe<|Qx<|Qb<|Qb<|x (Qcf (a:=b) (b:=y) O O hb hq)<|Qe<|Qx<|QM O O<|Qb<|xe ?_
 exact⟨(k+1,b &&& (65535 ^^^ y)),by simp only[];omega,⟨O,O,Z⟩,J,ha,Nk Nat.and_le_left hb,H⟩
theorem QjJ {L:LN}{w:World}{v:Value}{J:Nat}{c:ZA}{es:LN}{g:Nat}{fn:Func}[Fu prog g fn]{cap:LV}{q:Nat→Bool}(h:Zv L w.heap v es.length 3 (es.flatMap (srV J c)))
  (hk:∀(m:Nat) (G:World),Step [] w G→QE prog g ([.agg (srV J c m).toArray]++cap) G λr w'=>r=.bool (q m)∧Step [] G w'):
  QE prog 193 [v,.func (.func g) #[] cap.toArray] w λr w'=>Step [] w w'∧∃i:Int,r=.int .i64 i∧((i=-1∧∀m∈es,q m=false)∨∃k:Nat,∃m,es[k]?=some m∧i=(k:Int)∧q m=true):=by
 have he:=h.le;refine QE.of_W func193 O ntmps193 results193 (by simp) ?_;refine Qc<|Qe<|Qg<|Qc<|Qb<|x (Qr h O)<|Qb<|xe<|Qh<|QA (α:=Nat) [(4,5),(8,18)] (λz=>[(8,.int .i64 z)]) (λz w'=>z≤es.length∧Step [] w w'∧∀m∈es.take z,q m=false) (λz=>es.length - z) (by rfl) 0 La ⟨Ll _,Step.refl _ _,λm hm=>by simp at hm⟩ ?_;rintro k g' G ⟨hf,H,T⟩;refine Qc<|x (Qz O O)<|xe ?_
 refine Qg<|QC O (λh9=>?_) (λh9=>?_)
 ·refine Qy ?_;have hc:es.length≤k:=by have I:¬(k:Int)<(es.length:Int):=h9;omega
  rw[Ln hc]at T;refine Qc<|Qe ?_;exact Qk ⟨[.int .i64 (-1)],La,H,-1,O,.inl ⟨O,T⟩⟩
 have E:k<es.length:=by have I:(k:Int)<(es.length:Int):=h9;omega
 have U:es.take (k+1)=es.take k++[es[k]'E]:=Le E;have V:es[k]?=some (es[k]'E):=Lz E;refine Qi<|Qg<|Qh<|Qc<|Qb<|Qe<|Qc<|Qb<|Qb<|Qb<|xig (g:=srV J c) (i:=k) (qv J c) (h.ext H) O O E λhg Y=>?_;refine Zb (es[k]'E) λm hm=>?_;rw[hm]at Y U V;refine x (QI Y O O)<|xl O<|xc (first:=[]) (capt:=cap) O<|(hk m G H).mono ?_
 rintro r2 w2 ⟨rfl,ha⟩;refine xe<|QY rfl (λI=>?_) (λI=>?_)
 ·refine Qc<|Qb<|Qe ?_;exact Qk ⟨[.int .i64 k],La,H.trans ha,k,O,.inr ⟨k,m,V,O,I⟩⟩
 refine Qi<|Qx<|QM O O<|Qb<|xe<|⟨k+1,by omega,La,E,H.trans ha,λm' hb=>?_⟩;rw[U]at hb;rcases Lq.1 hb with h1|h1
 ·exact T m' h1
 simp only[List.mem_singleton]at h1;subst h1;exact I
theorem Qko {w:World}{E G m:Nat}{c:ZA}{q:MV}(I:QT w.heap G 135 (YA q)):
  QE prog 194 [.agg (srV E c m).toArray,.pointer (some ⟨G,0,none⟩)] w λr w'=>r=.bool (decide ((m:Int)+1=q.kd))∧Step [] w w':=by
 refine QE.of_W func194 O ntmps194 results194 (by simp) ?_;refine Qc<|xl O<|QQ (us:=srV E c m) O λT U H V J=>Qe<|Qc<|x (Qa O)<|x (Qd J O O)<|x (Qa O)<|x (Qd (I.ext H) O O)<|x (Zl O O)<|Qe ?_;exact Qk ⟨[_],La,O,H⟩
set_option maxHeartbeats 4000000 in
theorem QeT {L:LN}{w:World}{c:CL}{q:MV}(h0:ZJ L w.heap c)(hG:QH L w.heap q.v q.co):
  QE prog 157 [c.val,.agg #[.int .i64 q.kd,.int .i64 q.ix,q.v]] w λr w'=>r=.int .i64 (mdE c.cel q.m)∧Step [] w w':=by
 have h:=h0.up (L':=[]) (by simp);have hm:=hG.up (L':=[]) (by simp);have G:mdE c.cel q.m=if Zk c.cel≠0 then Zk c.cel else if q.kd<1∨3<q.kd then 11 else if q.ix<0∨((srK c.cel q.kd).length:Int)≤q.ix then 10 else if q.co=setK ((srK c.cel q.kd).getD q.ix.toNat 0) 8 then 0 else 13:=rfl
 refine Zb (mdE c.cel q.m) λE hE=>?_;rw[hE]at G ⊢;refine QE.of_W func157 O ntmps157 results157 (by simp) ?_;refine Qc<|xl O<|QQ (us:=c.cells) O λb2 w1 hH gg hw=>xl O<|QQ (us:=YA q) O λb3 w2 hf gh hI=>Qe ?_;have hy:=hH.trans hf;refine Qg<|Qc<|x (Qn (hw.ext hf) O O)<|xl O<|xf<|(Xi (h.ext hy)).mono ?_;rintro r3 w3 ⟨rfl,hg⟩;refine Qe ?_;have hh:=hy.trans hg
 have hJ:=(hw.ext hf).ext hg;have hK:=hI.ext hg;refine Qc<|Qb<|x (Q7 O O)<|xe<|Q4 rfl (λY=>?_) (λY=>?_)
 ·rw[if_pos Y]at G;subst G;refine Qc<|Qb<|Qe ?_;exact Qk ⟨[_],La,O,hh⟩
 rw[if_neg Y]at G;have hj:UZ c.cel:=(ZX (Lm.1 Y)).sr;refine Qi<|Qc<|x (Qn hJ O O)<|xl O<|xf<|(Vj (h.ext hh)).mono ?_;rintro r4 w4 ⟨h1,H,bs,hS⟩;have hL:=hS.r;subst hL;refine Qe ?_;have hM:=hh.trans h1;have h2:=hK.ext h1
 have hA:Zv [] w4.heap (.slice (some ⟨bs,0,none⟩) 3 3) [0,1,2].length 3 ([0,1,2].flatMap (srV H c.cel)):=hS.B.arr (by simp) (n:=3) (cap:=3) (sz:=3) (by rfl) (by omega) (Lt _);refine Qc<|Qb<|x (Zn (l:=[]) (l':=[_]))<|xl O<|xf<|(QjJ (q:=λm=>decide ((m:Int)+1=q.kd)) (cap:=[.pointer (some ⟨b3,0,none⟩)]) hA (λm w5 I=>Qko (h2.ext I))).mono ?_;rintro r5 w5 ⟨I,i,rfl,hi⟩;refine Qe ?_
 have h3:=hM.trans I;have hl:=h2.ext I;have h4:=hA.ext I;have hN:QT w5.heap H 37 c.cells:=hS.B1.ext I;refine Qg<|Qh<|Qc<|Qb<|x (Qz O O)<|Qe<|Q4 O (λhn=>?_) (λhn=>?_)
 ·have ho:q.kd<1∨3<q.kd:=by
   rcases hi with⟨_,hi⟩|⟨k,m,_,hi,_⟩
   ·have e0:=of_decide_eq_false (hi 0 (by simp));have e1:=of_decide_eq_false (hi 1 (by simp));have e2:=of_decide_eq_false (hi 2 (by simp));omega
   have gi:i<0:=hn;omega
  rw[if_pos ho]at G;subst G;refine Qc<|Qe ?_;exact Qk ⟨[_],La,O,h3⟩
 obtain⟨m,J,hO,ho⟩:∃m:Nat,m<3∧i=(m:Int)∧q.kd=(m:Int)+1:=by
  rcases hi with⟨hi,_⟩|⟨k,m,hk,hi,hq⟩
  ·exact absurd (by rw[hi];decide:i<0) hn
  have gj:=of_decide_eq_true hq;obtain⟨hP,hk⟩:=LS.1 hk;have hQ:k<3:=hP;have gk:m=k:=by rcases k with _|_|_|k <;> first|exact hk.symm|omega
  exact⟨k,hQ,hi,by omega⟩
 subst hO;rw[if_neg (by omega),show srK c.cel q.kd=XG c.cel m by rw[ho]]at G;have gl:=VI hj J;have h5:([0,1,2]:LN)[m]'J=m:=by rcases m with _|_|_|m <;> first|rfl|omega
 refine QX (α:=Bool) [(21,34)] (λz=>[(21,.bool z)]) (λz w'=>Step [] w5 w'∧z=decide (q.ix<0∨((XG c.cel m).length:Int)≤q.ix)) (by rfl) ?_ ?_
 ·refine QV (Step [] w5) [(0,true),(1,true),(2,true),(3,true),(4,true),(5,true),(6,true),(7,true),(8,true),(9,true),(10,true),(11,true),(12,true),(13,true)] mixed (by rfl) (by kernel_rfl) (Step.drew _ _) ?_;refine p (λ_=>Qa O)<|pq (λ_ hc=>Qd (hl.ext hc) O O)<|pb (λ_=>Qz O O) (λhp=>?_) (λhp=>?_)
  ·refine p (λ_=>Qm)<|ps<|ps<|ps<|ps<|ps<|ps<|ps<|ps<|p (λ_=>Qq O)<|p (λ_=>Qf)<|pe ?_;have ht:q.ix<0:=hp;exact⟨true,La,Step.drew _ _,by rw[decide_eq_true (.inl ht)]⟩
  refine p (λ_=>Qm)<|p (λ_=>Qa O)<|pq (λ_ hc=>Qd (hl.ext hc) O O)<|p (λ_=>Qm)<|p (λ_=>Qm) <|
   Go.Lg.pig (g:=srV H c.cel) (i:=m) O (qv H c.cel) h4 O O J λgm h6=>?_
  rw[h5]at h6;refine p (λ_=>Zg O)<|pq (λ_ hc=>Qv ((h6.fld 1 (.int .i64 (XG c.cel m).length) O).st hc) O)<|p (λ_=>ZN O O) <|
   p (λ_=>Qq O)<|p (λ_=>Qf)<|pe ?_
  have ht:¬q.ix<0:=hp;refine⟨decide (((XG c.cel m).length:Int)≤q.ix),La,Step.drew _ _,?_⟩;rw[decide_eq_decide];exact⟨.inr,λh=>h.resolve_left ht⟩
 rintro z g U ⟨ha,hz⟩;have hb:=h3.trans ha;refine QY rfl (λhu=>?_) (λhu=>?_)
 ·rw[if_pos (of_decide_eq_true (hz.symm.trans hu))]at G;subst G;refine Qc<|Qe ?_;exact Qk ⟨[_],La,O,hb⟩
 have hR:=of_decide_eq_false (hz.symm.trans hu);rw[if_neg hR]at G;have hT:q.ix=(q.ix.toNat:Int):=by omega
 have T:q.ix.toNat<(XG c.cel m).length:=by omega
 have hU:(XG c.cel m).getD q.ix.toNat 0=(XG c.cel m)[q.ix.toNat]'T:=by simp[List.getD,T]
 have h7:=qw hj J _ (Li T);rw[hU]at G;have h8:=hl.ext ha;have hV:=h4.ext ha;have h9:Step [] U { U with drawn:=U.drawn+1 }:=Step.drew _ _
 have hW:∀{w':World},Step [] U w'→QE prog (gK m) [.int .i64 q.ix,.pointer (some ⟨H,0,none⟩)] w' λr hX=>r=.int .u16 ((XG c.cel m)[q.ix.toNat]'T:Nat)∧Step [] w' hX:=by
  intro w' hs;have:=Qb8 ((hN.ext ha).ext hs) ((h.ext hb).ext hs) hj J T;rw[←hT]at this;exact this
 refine Qg<|QV (Step [] U) [(0,true),(1,true),(2,true),(3,true),(4,true),(5,true),(6,true),(7,true),(8,true),(9,false),(10,false),(11,false),(12,true),(13,true)] mixed (by rfl) (by kernel_rfl) (Step.drew _ _) ?_;refine p (λ_=>Qa O)<|pq (λ_ hc=>Qd (h8.ext hc) O O)<|p (λ_=>Qm)<|p (λ_=>Qm)<|Go.Lg.pig (g:=srV H c.cel) (i:=m) O (qv H c.cel) hV O O J λgn hB=>?_;rw[h5]at hB
 refine p (λ_=>Zg O)<|pq (λ_ hc=>Qv ((hB.fld 2 (.func (.func (gK m)) #[] #[.pointer (some ⟨H,0,none⟩)]) O).st hc) O)<|p (λ_=>Qa O)<|pq (λ_ hc=>Qd (h8.ext hc) O O) <|
  pk<|xcG (first:=[]) (capt:=[.pointer (some ⟨H,0,none⟩)]) (Qg6 m) O<|(hW h9).mono ?_
 rintro r7 w7 ⟨rfl,hY⟩;refine Zb ((XG c.cel m)[q.ix.toNat]'T) λbv hZ=>?_;rw[hZ]at G h7 ⊢;have hC:=h9.trans hY;refine⟨hC,?_⟩;refine pk<|xf<|(jM bv h7 w7).mono ?_;rintro r8 w8 ⟨ga,gb⟩;have he:=hC.trans ga;refine⟨he,?_⟩;have go:=YH bv 8;refine pk<|xf<|(KU (hm.ext (hb.trans he)) (Qt.ints (L:=[]) gb (by omega) (by simp))).mono ?_;rintro r9 w9 ⟨rfl,hD⟩
 refine⟨he.trans hD,?_⟩;refine p (λ_=>Zq O)<|p (λ_=>Qf)<|pe ?_;have hF:=(hb.trans he).trans hD;refine QY rfl (λhv=>?_) (λhv=>?_)
 ·have gc:¬q.co=setK bv 8:=by
   intro e;have V:(!decide (q.co=setK bv 8))=true:=hv;rw[decide_eq_true e]at V;cases V
  rw[if_neg gc]at G;subst G;refine Qc<|Qe ?_;exact Qk ⟨[_],La,O,hF⟩
 have ge:q.co=setK bv 8:=by
  refine Decidable.byContradiction λe=>?_;have V:(!decide (q.co=setK bv 8))=false:=hv;rw[decide_eq_false e]at V;cases V
 rw[if_pos ge]at G;subst G;refine Qi<|Qc<|Qe ?_;exact Qk ⟨[_],La,O,hF⟩
end Go.Proofs.YtjcgijbhaemldaaGreatDoor
namespace Go.Proofs
open Go.Proofs.Tryz
open Go.Shelf
def Tryz.sortRm_ren:Go.Shelf.Ren:=⟨λ|6=>148|15=>165|14=>192|28=>207|29=>208|20=>220|21=>221|22=>222|23=>223|24=>224|25=>225|26=>226|27=>227|46=>243|47=>231|48=>232|49=>244|50=>245|57=>252|n=>n,λ|22=>116|24=>269|25=>275|3=>3|39=>218|0=>0|53=>332|55=>334|4=>4|46=>326|45=>325|50=>141|5=>5|9=>9|66=>351|70=>355|76=>366|77=>284|n=>n,λ|n=>n⟩
theorem Tryz.sortRm:Go.Proofs.SlLaysF0.n6 prog Tryz.sortRm_ren:={
 mixed:=by kernel_rfl
 f6:=⟨Tryz.f148.name,by decide,func148.trans (congrArg some (by kernel_rfl))⟩
 f14:=⟨Tryz.f192.name,by decide,func192.trans (congrArg some (by kernel_rfl))⟩
 f15:=func165.trans (congrArg some (by kernel_rfl))
 f20:=⟨Tryz.f220.name,by decide,func220.trans (congrArg some (by kernel_rfl))⟩
 f21:=⟨Tryz.f221.name,by decide,func221.trans (congrArg some (by kernel_rfl))⟩
 f22:=⟨Tryz.f222.name,by decide,func222.trans (congrArg some (by kernel_rfl))⟩
 f23:=⟨Tryz.f223.name,by decide,func223.trans (congrArg some (by kernel_rfl))⟩
 f24:=⟨Tryz.f224.name,by decide,func224.trans (congrArg some (by kernel_rfl))⟩
 f25:=⟨Tryz.f225.name,by decide,func225.trans (congrArg some (by kernel_rfl))⟩
 f26:=⟨Tryz.f226.name,by decide,func226.trans (congrArg some (by kernel_rfl))⟩
 f27:=⟨Tryz.f227.name,by decide,func227.trans (congrArg some (by kernel_rfl))⟩
 f28:=func207.trans (congrArg some (by kernel_rfl))
 f29:=func208.trans (congrArg some (by kernel_rfl))
 f46:=⟨Tryz.f243.name,by decide,func243.trans (congrArg some (by kernel_rfl))⟩
 f47:=func231.trans (congrArg some (by kernel_rfl))
 f48:=func232.trans (congrArg some (by kernel_rfl))
 f49:=⟨Tryz.f244.name,by decide,func244.trans (congrArg some (by kernel_rfl))⟩
 f50:=⟨Tryz.f245.name,by decide,func245.trans (congrArg some (by kernel_rfl))⟩
 f57:=⟨Tryz.f252.name,by decide,func252.trans (congrArg some (by kernel_rfl))⟩
 t0:=underlying0
 a0:=Tryz.isAgg0
 z0:=Tryz.sizeOf0
 v0:=Tryz.zeroValue0
 t3:=underlying3
 a3:=Tryz.isAgg3
 z3:=Tryz.sizeOf3
 v3:=Tryz.zeroValue3
 t4:=underlying4
 a4:=Tryz.isAgg4
 z4:=Tryz.sizeOf4
 v4:=Tryz.zeroValue4
 t5:=underlying5
 a5:=Tryz.isAgg5
 z5:=Tryz.sizeOf5
 v5:=Tryz.zeroValue5
 t9:=underlying9
 a9:=Tryz.isAgg9
 z9:=Tryz.sizeOf9
 v9:=Tryz.zeroValue9
 t22:=underlying116
 a22:=Tryz.isAgg116
 z22:=Tryz.sizeOf116
 v22:=Tryz.zeroValue116
 t25:=underlying275
 a25:=Tryz.isAgg275
 z25:=Tryz.sizeOf275
 v25:=Tryz.zeroValue275
 t39:=underlying218
 a39:=Tryz.isAgg218
 z39:=Tryz.sizeOf218
 v39:=Tryz.zeroValue218
 t45:=underlying325
 a45:=Tryz.isAgg325
 z45:=Tryz.sizeOf325
 v45:=Tryz.zeroValue325
 t46:=underlying326
 a46:=Tryz.isAgg326
 z46:=Tryz.sizeOf326
 v46:=Tryz.zeroValue326
 t50:=underlying141
 a50:=Tryz.isAgg141
 z50:=Tryz.sizeOf141
 v50:=Tryz.zeroValue141
 t53:=underlying332
 a53:=Tryz.isAgg332
 z53:=Tryz.sizeOf332
 v53:=Tryz.zeroValue332
 t55:=underlying334
 a55:=Tryz.isAgg334
 z55:=Tryz.sizeOf334
 v55:=Tryz.zeroValue334
 t66:=underlying351
 a66:=Tryz.isAgg351
 z66:=Tryz.sizeOf351
 v66:=Tryz.zeroValue351
 t70:=underlying355
 a70:=Tryz.isAgg355
 z70:=Tryz.sizeOf355
 v70:=Tryz.zeroValue355
 t76:=underlying366
 a76:=Tryz.isAgg366
 z76:=Tryz.sizeOf366
 v76:=Tryz.zeroValue366
 t77:=underlying284
 a77:=Tryz.isAgg284
 z77:=Tryz.sizeOf284
 v77:=Tryz.zeroValue284 }
end Go.Proofs
namespace Go.Proofs.YtjcgijbhaemldaaGreatDoor
open Go.Lg
theorem Ql4 (lf:Lf)(x:Int)(z:LI×LI)(y:Int):UY lf x z y=if lft lf y=true then VD x z y else z:=by
 unfold UY VD;by_cases h:lft lf y=true <;> by_cases h2:cget z.1 y.toNat<0 <;> simp[h,h2]
structure DsI (n:Nat)(z:LI×LI):Prop where
 ok:zR n z.1 z.2
 cnt:neg z.1+z.2.length=n
 s0:QbP z.1 z.2
theorem DsI.le {n:Nat}{z:LI×LI}(h:DsI n z):z.2.length≤n:=by have:=h.cnt;omega
theorem QhC {n:Nat}{lf:Lf}{x y:Int}{z:LI×LI}(h:DsI n z)(hx:0≤x∧x<(n:Int))(E:0≤cget z.1 x.toNat)(hy:0≤y∧y<(n:Int)):
  DsI n (UY lf x z y)∧0≤cget (UY lf x z y).1 x.toNat:=by
 rw[Ql4];split
 ·obtain⟨h1,h2,h3⟩:=QcO h.ok hx E hy;exact⟨⟨h1,by have:=h.cnt;omega,zC h.ok E hy h.s0⟩,h3⟩
 exact⟨h,E⟩
theorem Qke (lf:Lf)(x:Int)(z:LI×LI)(y:Int):∃r,(UY lf x z y).2=z.2++r:=by
 unfold UY;split
 ·exact⟨[y],O⟩
 exact⟨[],by simp⟩
theorem Qkd {n:Nat}{lf:Lf}{x:Int}(hx:0≤x∧x<(n:Int)):∀(l:LI) (z:LI×LI),DsI n z→0≤cget z.1 x.toNat→(∀y∈l,0≤y∧y<(n:Int)) →
  DsI n (l.foldl (UY lf x) z)∧∃r,(l.foldl (UY lf x) z).2=z.2++r
 | [],z,h,_,_=>⟨h,[],by simp⟩
 | y::l,z,h,E,hl=>by
  obtain⟨h1,h2⟩:=QhC (lf:=lf) h hx E (hl y Lp);obtain⟨h3,r2,h4⟩:=Qkd hx l _ h1 h2 (λy hy=>hl y (Lk _ hy));obtain⟨G,h5⟩:=Qke lf x z y;exact⟨h3,G++r2,by rw[LM,h4,h5,LB]⟩
theorem QhB {es:List Ed}{lf:Lf}{f i:Nat}{z:LI×LI}(h:¬i<z.2.length):dsL es lf f i z=z:=by
 cases f with
 | zero=>rfl
 | succ f=>rw[dsL,if_neg h]
theorem Qej {n:Nat}{l:LI}{x:Int}(E:0≤x):(KY n l).set x.toNat 0=KY n (l++[x]):=by
 apply LY
 ·simp[KY]
 intro i h2 h3;rw[MS];by_cases e:x.toNat=i
 ·have:(i:Int)=x:=by omega
  rw[if_pos e];simp[KY,this]
 have:(i:Int)≠x:=by omega
 rw[if_neg e];simp[KY,this]
theorem Qbn {a:QO}{lf:Lf}(hm:∀x∈a.mr,0≤x)(k:Nat):(a.mr.take k).foldl (ds1 lf) (List.replicate a.st.toNat (-1),[])=(KY a.st.toNat ((a.mr.take k).filter (lft lf)),(a.mr.take k).filter (lft lf)):=by
 induction k with
 | zero =>
  simp only[List.take_zero,List.foldl_nil,List.filter_nil];congr 1;apply LY
  ·simp[KY]
  intro i h1 h2;simp[KY]
 | succ k ih =>
  by_cases hk:k<a.mr.length
  ·rw[Le hk,Mn,ih,L2];simp only[List.foldl_cons,List.foldl_nil,ds1];by_cases hl:lft lf (a.mr[k]'hk)=true
   ·rw[if_pos hl,Qej (hm _ (Li hk))];simp[hl]
   rw[if_neg hl];simp[hl]
  have e:a.mr.take (k+1)=a.mr.take k:=by rw[Ln (by omega),Ln (by omega)]
  rw[e];exact ih
theorem QcD {a:QO}{lf:Lf}(hm:∀x∈a.mr,0≤x):ds0 a lf=(KY a.st.toNat (a.mr.filter (lft lf)),a.mr.filter (lft lf)):=by
 have:=Qbn (lf:=lf) hm a.mr.length;rw[M5]at this;exact this
theorem Qjo {n:Nat}(l:LI)(E:l.Nodup)(hb:∀x∈l,0≤x∧x<(n:Int)):neg (KY n l)+l.length=n:=by
 have key:∀k,k≤l.length→neg (KY n (l.take k))+k=n:=by
  intro k;induction k with
  | zero =>
   intro _;have e:KY n (l.take 0)=List.replicate n (-1):=by
    apply LY
    ·simp[KY]
    intro i h1 h2;simp[KY]
   rw[e];unfold neg;simp
  | succ k ih =>
   intro hk;have h1:=ih (by omega);have hx:=hb _ (Li (show k<l.length by omega));rw[Le (show k<l.length by omega),←Qej hx.1];have G:(l[k]'(by omega)).toNat<(KY n (l.take k)).length:=by rw[Y7];omega
   have J:=VQ (KY n (l.take k)) (l[k]'(by omega)).toNat 0 G (by
    have e:(((l[k]'(by omega)).toNat:Nat):Int)=l[k]'(by omega):=by omega
    have H:(l[k]'(by omega))∉l.take k:=λh=>by
     obtain⟨j,hj,he⟩:=LF h;rw[MY]at he;have I:j<k:=by simp at hj;omega
     have:=(List.pairwise_iff_getElem.1 E) j k (by omega) (by omega) I;exact this he
    simp[KY,e,H]) (Nf _)
   omega
 have:=key l.length (Lt _)
 rwa [M5]at this
theorem Ql5 {a:QO}{lf:Lf}{n:Nat}(E:Q2 a)(G:a.st=(n:Int)):DsI n (ds0 a lf):=by
 have hb:∀x∈a.mr.filter (lft lf),0≤x∧x<(n:Int):=λx hx=>by rw[←G];exact E.mr x (LP.1 hx).1
 have e:a.st.toNat=n:=by omega
 rw[QcD (λx hx=>(E.mr x hx).1),e];refine⟨QcP hb,Qjo _ ((E.mri.imp (λh=>by omega)).filter _) hb,λx hx=>?_⟩;rw[qi (hb x hx) hx];exact Nf _
def K7 (l:Lf):Nat:=l.countP (· == true)
theorem Qd5 (l:Lf):K7 l≤l.length:=List.countP_le_length
theorem Qd2 (l:Lf)(s:Int):(cut l s).length=l.length:=by simp[cut]
theorem zk:∀(xs:LI) (l:Lf),(xs.foldl cut l).length=l.length
 | [],_=>rfl
 | x::xs,l=>by rw[LM,zk xs,Qd2]
theorem Qd3:∀(l:Lf) (i:Nat),K7 (l.set i false)+(if l.getD i false=true then 1 else 0)=K7 l
 | [],i=>by simp[K7]
 | b::l,0=>by cases b <;> simp[K7]
 | b::l,i+1=>by
  have ih:=Qd3 l i;unfold K7 at *;simp only[List.set_cons_succ,List.countP_cons,List.getD_cons_succ];omega
theorem Qd4 (l:Lf)(s:Int):K7 (cut l s)+(if lft l s=true then 1 else 0)=K7 l:=Qd3 l s.toNat
theorem Qbq:∀(xs:LI) (l:Lf),K7 (xs.foldl cut l)≤K7 l
 | [],_=>Lt _
 | x::xs,l=>by
  have h1:=Qbq xs (cut l x);have h2:=Qd4 l x;rw[LM];omega
theorem QhI {xs:LI}{l:Lf}(h:0<xs.length)(E:∀x∈xs,lft l x=true):K7 (xs.foldl cut l)<K7 l:=by
 cases xs with
 | nil=>simp at h
 | cons x xs =>
  have h1:=Qbq xs (cut l x);have h2:=Qd4 l x;rw[if_pos (E x Lp)]at h2;rw[LM];omega
def Qij (a:QO)(lf:Lf)(out:List (Int×Int)):Prop:=∀p∈out,lft lf p.1=true∧∃e∈a.ed,e.1=p.1∧e.2.1=p.2
theorem Qjx {a:QO}{ul:LI}{lf:Lf}{out:List (Int×Int)}{e:Ed}(h:Qij a lf out)(he:e∈a.ed):Qij a lf (Kp ul lf out e)∧(Kp ul lf out e).length≤out.length+1:=by
 unfold Kp;split
 ·exact⟨h,by omega⟩
 rename_i hc;split
 ·exact⟨h,by omega⟩
 refine⟨λp hp=>?_,by simp⟩;simp only[List.mem_append,List.mem_singleton]at hp;rcases hp with hp|rfl
 ·exact h p hp
 exact⟨by cases hl:lft lf e.1 with|true=>rfl|false=>exact absurd (.inl hl) hc,e,he,rfl,rfl⟩
theorem qP {a:QO}{ul:LI}{lf:Lf}:∀(l:List Ed) (out:List (Int×Int)),(∀e∈l,e∈a.ed)→Qij a lf out→Qij a lf (l.foldl (Kp ul lf) out)∧(l.foldl (Kp ul lf) out).length≤out.length+l.length
 | [],out,_,h=>⟨h,by simp⟩
 | e::l,out,hl,h=>by
  obtain⟨h1,h2⟩:=Qjx (ul:=ul) h (hl e Lp);obtain⟨h3,h4⟩:=qP l _ (λe he=>hl e (Lk _ he)) h1;exact⟨h3,by rw[LM,LG];omega⟩
theorem jK (a:QO)(ul:LI)(lf:Lf):Qij a lf (lost a ul lf)∧(lost a ul lf).length≤a.ed.length:=by
 have:=qP (ul:=ul) (lf:=lf) a.ed [] (λ_ h=>h) (λp hp=>by cases hp);unfold lost;simpa using this
theorem Ud (lf:Lf):∀(l:LI) (i:Nat),(∀x∈JW lf i l,lft lf x=true∧(i:Int)≤x∧x<(i:Int)+l.length)∧(JW lf i l).length≤l.length
 | [],i=>⟨λx hx=>(by cases hx),Lt _⟩
 | d::l,i=>by
  obtain⟨h1,h2⟩:=Ud lf l (i+1);unfold JW;split
  ·rename_i hc;refine⟨λx hx=>?_,by simp;omega⟩;rcases Lc.1 hx with rfl|hx
   ·exact⟨by unfold lft;simpa using hc.1,Nf _,by simp;omega⟩
   have:=h1 x hx;exact⟨this.1,by omega,by simp only[List.length_cons];omega⟩
  refine⟨λx hx=>?_,by simp;omega⟩;have:=h1 x hx;exact⟨this.1,by omega,by simp only[List.length_cons];omega⟩
theorem Qgy {a:QO}{ul:LI}{lf:Lf}(x:Int)(hx:x∈nxs a ul lf):lft lf x=true:=by
 unfold nxs at hx;split at hx
 ·obtain⟨p,hp,rfl⟩:=Lx.1 hx;exact((jK a ul lf).1 p hp).1
 exact((Ud lf (dsts a lf) 0).1 x hx).1
theorem QeE {a:QO}{ul:LI}{f:Nat}{lf:Lf}(h:(nxs a ul lf).length=0):UX a ul f lf=lf:=by
 cases f with
 | zero=>rfl
 | succ f=>rw[UX,if_pos h]
theorem yr {a:QO}{ul:LI}{f:Nat}{lf:Lf}(h:(nxs a ul lf).length≠0):UX a ul (f+1) lf=UX a ul f ((nxs a ul lf).foldl cut lf):=by rw[UX,if_neg h]
theorem QaS {a:QO}{ul:LI}{lf:Lf}(h:(nxs a ul lf).length≠0):K7 ((nxs a ul lf).foldl cut lf)<K7 lf:=QhI (by omega) (λx hx=>Qgy x hx)
theorem KM {a:QO}(h:Q2 a)(lf:Lf):Q2 (rstr a lf):=
 ⟨h.al,h.ali,h.st0,h.st1,h.mr,h.mri,λe he=>h.ed e (LP.1 he).1,h.edi.filter _⟩
open Go.Proofs.Tryz
theorem Qgh {P:Program}{f:Fr}{w:World}{d:Option Nat}{ty:Nat}{ps:String}{af:Array Edge}{gd:Option (Nat×Bool)}{x y:Operand}{t m e:Nat}[h:Ay P t m e 1][h1:Xy P e]{cs:LV}{k:IntKind}{i:Nat}{u:Value}(hx:ev f x=.agg cs.toArray)(hy:ev f y=.int k i)(hi:i<m)(hu:cs[i]?=some u):
  (execOp (ev f) ⟨d,.index t x y,ty,ps,af,gd⟩).run P w=.ok (.value u) w:=by
 have E:=qy (P:=P) (w:=w) (t:=e);have G:=yJ (P:=P) (w:=w) (t:=e);simp[execOp,hx,hy,Instr.index,asIntOf,run_underlying h.u,E,part,G,hu];intro h2;omega
theorem Qii {w:World}{b E n:Nat}{l:LI}{s:Int}(G:QT w.heap b 175 [.slice (some ⟨E,0,none⟩) n n])(hS:QT w.heap E 4 ((flg n l).map Value.bool))(H:0≤s)(h1:s<(n:Int)):
  QE prog 82 [.int .i64 s,.pointer (some ⟨b,0,none⟩)] w λr w'=>r=.bool (decide (s∈l))∧Step [] w w':=by
 refine QE.of_W func82 O ntmps82 results82 (by simp) ?_;have I:s=(s.toNat:Int):=by omega
 refine Qc<|Qe<|Qc<|x (Qd G O O)<|Qb<|x (QS (i:=s.toNat) O (congrArg (Value.int .i64) I) (by omega))<|x (Qd hS O (jU H h1))<|Qe ?_;exact Qk ⟨[_],La,O,Step.refl _ _⟩
theorem Qih {w:World}{b G n:Nat}{l:LI}{e:Ed}(H:QT w.heap b 175 [.slice (some ⟨G,0,none⟩) n n])(hS:QT w.heap G 4 ((flg n l).map Value.bool))(I:0≤e.2.2)(h1:e.2.2<(n:Int)):
  QE prog 83 [.agg (QD e).toArray,.pointer (some ⟨b,0,none⟩)] w λr w'=>r=.bool (decide (e.2.2∈l))∧Step [] w w':=by
 refine QE.of_W func83 O ntmps83 results83 (by simp) ?_;have J:e.2.2=(e.2.2.toNat:Int):=by omega
 refine Qc<|xl O<|QQ (us:=QD e) O λU V E Y T=>Qe<|Qc<|x (Qd (H.ext E) O O)<|x (Qa O)<|x (Qd T O O)<|x (QS (i:=e.2.2.toNat) O (congrArg (Value.int .i64) J) (by omega))<|x (Qd (hS.ext E) O (jU I h1))<|Qe ?_;exact Qk ⟨[_],La,O,E⟩
instance ayJk1:Ay prog 173 2 39 1:=⟨by kernel_rfl,by kernel_rfl⟩
def ptR (a:QO)(n from0:Nat)(tg wi:LI):LI×Bool:=pth (λs=>decide (s∈tg)) (λe=>decide (e.2.2∈wi)) a.ed n from0
def phP (N n:Nat)(tg wi:LI)(i:Nat)(v:Value)(w:World):Prop :=
 if i=2 then ∃b,v=.slice (some ⟨b,0,none⟩) n n∧N≤b∧QT w.heap b 4 ((flg n wi).map Value.bool)
 else if i=5 then ∃b,v=.slice (some ⟨b,0,none⟩) n n∧N≤b∧QT w.heap b 4 ((flg n tg).map Value.bool)
 else ∃b,v=.pointer (some ⟨b,0,none⟩)∧N≤b∧QT w.heap b 175 [nS]
theorem Qjc {N n:Nat}{tg wi:LI}(i:Nat)(v:Value)(w w':World)(h:phP N n tg wi i v w)(hs:Step [] w w'):phP N n tg wi i v w':=by
 unfold phP at *;split
 ·rename_i e;rw[if_pos e]at h;obtain⟨b,h1,h2,h3⟩:=h;exact⟨b,h1,h2,h3.ext hs⟩
 rename_i e;rw[if_neg e]at h;split
 ·rename_i e2;rw[if_pos e2]at h;obtain⟨b,h1,h2,h3⟩:=h;exact⟨b,h1,h2,h3.ext hs⟩
 rename_i e2;rw[if_neg e2]at h;obtain⟨b,h1,h2,h3⟩:=h;exact⟨b,h1,h2,h3.ext hs⟩
structure PhZ where
 bi:Nat
 bt:Nat
 b15:Nat
 b16:Nat
theorem QkG {w:World}{va vm ve vt vi:Value}{a:QO}{n from0:Nat}{tg wi:LI}(h:Zp [] w.heap va vm ve a)(hck:Xq a=0)(hn:a.st=(n:Int))(hf:from0<n)(ht:QH [] w.heap vt tg)(hi:QH [] w.heap vi wi)
  (h5:Y0 a.st none tg=0) (h6:Y0 a.st none wi=0) (hL:(from0:Int)∈wi):
  QE prog 38 [.agg #[va,.int .i64 a.st,vm,ve],.int .i64 from0,vt,vi] w λr w'=>Step [] w w'∧∃v,r=.tuple #[v,.bool (ptR a n from0 tg wi).2,.int .i64 0]∧Qt 3 w.heap.size w' v (ptR a n from0 tg wi).1:=by
 have H:=(Zu a).1 hck;have hy:=H.st1;refine QE.of_W func38 O ntmps38 results38 (by simp) ?_;refine Qc<|xl O<|QQ (us:=[va,.int .i64 a.st,vm,ve]) O λb4 w1 h7 hY h8=>x Qf<|x Qf<|Qe<|Qg<|Qc<|x (Qn h8 O O)<|xl O<|xf<|(Y6 (h.ext h7)).mono ?_;rintro r2 w2 ⟨rfl,h9⟩;refine Qe<|Qc<|Qb<|x (Q7 O O)<|xe<|Q4 rfl (λhA=>absurd hck hA) (λhA=>?_);refine Qi ?_;have hC:=h7.trans h9
 have hz:=h8.ext h9;have hM:¬(from0:Int)≥a.st:=by omega
 refine Qg<|Qc<|Qb<|xb (Qz O O) (λhD=>absurd hD (by omega)) (λhD=>?_);refine Qb<|Qb<|x (Qa O)<|x (Qd hz O O)<|x (ZN O O)<|x (Qq O)<|xe<|Q4 rfl (λhE=>absurd hE hM) (λhE=>?_);refine Qi<|Qg<|Qc<|Qb<|Qb<|x (QN ⟨ht.cells,hi.cells,Z⟩)<|Qb<|xe ?_
 refine Qh<|QA (α:=Nat) [(8,10),(13,14),(33,42)] (λz=>[(33,.int .i64 z)]) (λz w'=>z≤2∧Step [] w2 w') (λz=>2 - z) (by rfl) 0 La ⟨by omega,Step.refl _ _⟩ ?_;rintro k g V ⟨hk,Y⟩;refine Qc<|x (Qz O O)<|xe<|Qg<|QC O (λhF=>?_) (λhF=>?_)
 ·refine Qy ?_;have ha:=hC.trans Y;have hG:=h.ext ha;have hZ:=ha.size;have h3:=hz.ext Y;have hN:=((Z7 a.st tg none).1 h5).1;have hO:=((Z7 a.st wi none).1 h6).1;refine Qg<|Qet (α:=PhZ) (Step [] V) [(0,true),(1,true),(3,true),(4,true)] [2,5,6,7] [(8,false),(9,false)] [(15,16),(45,45),(48,48)] (phP V.heap.size n tg wi)
   (λz=>[(45,.slice (some ⟨z.bi,0,none⟩) n n),(48,.slice (some ⟨z.bt,0,none⟩) n n),(15,.pointer (some ⟨z.b15,0,none⟩)),(16,.pointer (some ⟨z.b16,0,none⟩))])
   (λz w'=>QT w'.heap z.bi 4 ((flg n wi).map Value.bool)∧QT w'.heap z.bt 4 ((flg n tg).map Value.bool)∧QT w'.heap z.b15 175 [nS]∧QT w'.heap z.b16 175 [nS]∧(z.b15≠z.b16∧z.bi≠z.b15∧z.bi≠z.b16∧z.bt≠z.b15∧z.bt≠z.b16)∧V.heap.size≤z.b15∧V.heap.size≤z.b16)
   mixed (by rfl) (by kernel_rfl) (Step.drew _ _) (λ_ _ h1 h2=>h1.trans h2) Qjc ?_ ?_
  ·rintro g w' ⟨⟨bi,e1,_,hp⟩,⟨bt,e2,_,hq⟩,⟨b15,e3,J,hr⟩,⟨b16,e4,hg,hs⟩,_⟩ hh;refine⟨⟨bi,bt,b15,b16⟩,⟨e1,e2,e3,e4,Z⟩,hp,hq,hr,hs,?_,J,hg⟩;have d1:=hh 6 (by simp) 7 (by simp) (by decide);have d2:=hh 2 (by simp) 6 (by simp) (by decide);have d3:=hh 2 (by simp) 7 (by simp) (by decide);have d4:=hh 5 (by simp) 6 (by simp) (by decide)
   have d5:=hh 5 (by simp) 7 (by simp) (by decide);rw[e3,e4]at d1;rw[e1,e3]at d2;rw[e1,e4]at d3;rw[e2,e3]at d4;rw[e2,e4]at d5;simp only[ow,List.mem_singleton,forall_eq]at d1 d2 d3 d4 d5;exact⟨d1,d2,d3,d4,d5⟩
  refine pq (λ_ hc=>Qn (h3.ext hc) O O)<|p (λ_=>Qm)<|pq (λ_ hc=>Qn (h3.ext hc) O O)<|p (λ_=>Qm)<|pe ⟨⟨?_,?_,?_,?_,Z⟩,?_⟩
  ·intro g w' hc;refine xf<|(Qbe ((hi.ext ha).ext hc) hn hy hO).mono ?_;rintro r5 w5 ⟨G,b,rfl,hb,E⟩;exact⟨G,⟨b,O,LJ hc.size hb,E⟩,λc I=>by rw[Lb.1 (show c∈[b] from I)];exact⟨hb,E.lt⟩⟩
  ·intro g w' hc;refine xf<|(Qbe ((ht.ext ha).ext hc) hn hy hN).mono ?_;rintro r5 w5 ⟨G,b,rfl,hb,E⟩;exact⟨G,⟨b,O,LJ hc.size hb,E⟩,λc I=>by rw[Lb.1 (show c∈[b] from I)];exact⟨hb,E.lt⟩⟩
  ·intro g w' hc;exact Qu (us:=[nS]) O λb w5 G hb E=>⟨G,⟨b,O,LJ hc.size hb,E⟩,λc I=>by rw[Lb.1 (show c∈[b] from I)];exact⟨hb,E.lt⟩⟩
  ·intro g w' hc;exact Qu (us:=[nS]) O λb w5 G hb E=>⟨G,⟨b,O,LJ hc.size hb,E⟩,λc I=>by rw[Lb.1 (show c∈[b] from I)];exact⟨hb,E.lt⟩⟩
  rintro⟨bi,bt,b15,b16⟩ g w5 h4 ⟨hp,hq,hr,hs,hP,J,hg⟩;simp only[]at hp hq hr hs hP J hg;refine pk<|QB (u:=.slice (some ⟨bi,0,none⟩) n n) hr O O (by simp) rfl λw6 T hQ=>⟨h4.then1 T J,?_⟩;refine pk<|QB (u:=.slice (some ⟨bt,0,none⟩) n n) (hs.step T (by simp;omega)) O O (by simp) rfl λw7 hj hR=>⟨(h4.then1 T J).then1 hj hg,pe ?_⟩
  have hw:Step [] V w7:=(h4.then1 T J).then1 hj hg;have hH:=hQ.step hj (by simp;omega);have hI:=(hp.step T (by simp;omega)).step hj (by simp;omega);have hS:=(hq.step T (by simp;omega)).step hj (by simp;omega);have ga:=hw.size;have hT:((flg n wi).map Value.bool)[0+from0*1]?=some (.bool true):=by
   have e1:=jU (n:=n) (l:=wi) (x:=(from0:Int)) (by omega) (by omega);rw[decide_eq_true hL]at e1;exact e1
  refine Qg<|Qc<|x (Qd hH O O)<|Qb<|x (QS (i:=from0) O O hf)<|x (Qd hI O hT)<|x (Zq O)<|xe<|ZO O<|Qi<|Qc<|x (Qn (h3.ext hw) O O)<|xl O<|xf<|(UJ (hG.ext hw) hn hy (λe he=>⟨(H.ed e he).1,(H.ed e he).2.1⟩)).mono ?_;rintro r8 w8 ⟨U,bF,rfl,gb,hU⟩;have hJ:=hw.trans U;have gc:=U.size;refine Qb<|x (Zn (l:=[]) (l':=[_]))<|x (Zn (l:=[]) (l':=[_]))<|xl O<|xf <|
   (Qjd (wt:=λs=>decide (s∈tg)) (pm:=λe=>decide (e.2.2∈wi)) (cw:=[.pointer (some ⟨b16,0,none⟩)]) (cp:=[.pointer (some ⟨b15,0,none⟩)]) (gw:=82) (gp:=83) (hG.ext hJ) hn (by omega) (λe he=>by have:=(H.ed e he).2.2.2;omega) H.eds hU hf
    (λs w' h0 h1 hm=>Qii ((hR.ext U).ext hm) ((hS.ext U).ext hm) h0 h1) (λe w' he hm=>Qih ((hH.ext U).ext hm) ((hI.ext U).ext hm) (by have:=(H.ed e he).2.2.2;omega) (by have:=(H.ed e he).2.2.2;omega))).mono ?_
  rintro r9 w9 ⟨hV,v,rfl,hv⟩;refine Qb<|x (Qj O O)<|x (Qj O O)<|x Qf<|Qe<|Qc<|Qb<|Qb<|x Qf<|x Qf<|Qe ?_;exact Qk ⟨[_,_,_],⟨O,O,O,Z⟩,ha.trans (hJ.trans hV),v,O,Zc hv (by omega)⟩
 refine Qi ?_;have hW:k<2:=by have ge:(k:Int)<2:=hF;omega
 have hX:∃u l,[vt,vi][k]?=some u∧QH [] w.heap u l∧Y0 a.st none l=0:=by
  rcases k with _|k
  ·exact⟨vt,tg,O,ht,h5⟩
  have:k=0:=by omega
  subst this;exact⟨vi,wi,O,hi,h6⟩
 refine Exists.elim hX λu hu=>Exists.elim hu λl hl=>?_;refine Qg<|Qh<|Qc<|x (Qgh (i:=k) (cs:=[vt,vi]) O O hW hl.1)<|Qe<|Qc<|x (Qn (hz.ext Y) O O)<|Qb<|xl O<|xf<|(zt (va:=va) (vm:=vm) (ve:=ve) (a:=a) ((hl.2.1.ext hC).ext Y)).mono ?_;rintro r5 w5 ⟨rfl,G⟩;refine Qe<|Qc<|Qb<|x (Q7 O O)<|xe<|Q4 rfl (λhK=>absurd hl.2.2 hK) (λhK=>?_);refine Qi<|Qx<|QM O O<|Qb<|xe ?_
 exact⟨k+1,by omega,La,by omega,Y.trans G⟩
theorem Qdp {P:Program}{f:Fr}{w:World}{d:Option Nat}{ty:Nat}{ps:String}{af:Array Edge}{gd:Option (Nat×Bool)}{t kt et:Nat}[hm:Mp P t kt et (.int .i64 0)][hk:Key P kt ZV]{x y:Operand}{b:Nat}{s:QO}{q v:Int}(h:ZI ZV w.heap b (J0 [] s.ed))
  (hs:s.ed.Pairwise λx y=>x.1<y.1∨(x.1=y.1∧x.2.1<y.2.1)) (hx:ev f x=.map (some b)) (hy:ev f y=ZV (q,v)):
  (execOp (ev f) ⟨d,.lookup t x y true,ty,ps,af,gd⟩).run P w=.ok (.value (.tuple #[.int .i64 ((eget s.ed q v).getD 0),.bool (decide ((eget s.ed q v).isSome=true))])) w:=by
 rw[Kk h hx hy,Uw s.ed [] q v hs];cases eget s.ed q v <;> rfl
def Yz (k:Nat):LI:=(List.range k).map λi:Nat=>(i:Int)
theorem Kn (k:Nat):(Yz k).length=k:=by simp[Yz]
theorem Ur (k:Nat):Yz (k+1)=Yz k++[(k:Int)]:=by unfold Yz;rw[ND,Lv];rfl
theorem Km (k:Nat)(x:Int):x∈Yz k↔0≤x∧x<(k:Int):=by
 unfold Yz;simp only[List.mem_map,List.mem_range];constructor
 ·rintro⟨i,hi,rfl⟩;omega
 intro h;exact⟨x.toNat,by omega,by omega⟩
theorem VR (k:Nat):Yn (Yz k):=by
 induction k with
 | zero=>exact List.Pairwise.nil
 | succ k ih =>
  rw[Ur];refine Mt.2 ⟨ih,M9 _ _,λx hx y hy=>?_⟩;have:=(Km k x).1 hx;simp at hy;omega
theorem QhE (d:LI)(k:Nat)(x:Int):x∈Vo d k→0≤x∧x<(k:Int):=by
 unfold Vo;simp only[List.mem_map,List.mem_filter,List.mem_range];rintro⟨i,hi,rfl⟩;omega
theorem Qbp (d:LI)(k:Nat):Yn (Vo d k):=by
 induction k with
 | zero=>exact List.Pairwise.nil
 | succ k ih =>
  rw[yV];split
  ·refine Mt.2 ⟨ih,M9 _ _,λx hx y hy=>?_⟩;have:=QhE d k x hx;simp at hy;omega
  exact ih
theorem Qki (A:QO):Yn (cor A):=Qbp _ _
def X5 (A:QO):LI:=mrg (λp q=>p && !q) (Yz A.st.toNat) (cor A)
theorem zF (A:QO):Yn (X5 A):=U7 _ _ _ _ (Lt _) (VR _) (Qbp _ _)
theorem zE (A:QO)(x:Int):x∈X5 A↔(0≤x∧x<(A.st.toNat:Int))∧x∉cor A:=by
 unfold X5;rw[JP (VR _) (Qki A)];have hm:=Km A.st.toNat x;by_cases h1:x∈cor A
 ·simp[h1]
 by_cases h2:x∈Yz A.st.toNat
 ·have:=hm.1 h2;simp[h1,h2];omega
 have:¬(0≤x∧x<(A.st.toNat:Int)):=λh=>h2 (hm.2 h);simp only[h1,h2,false_or,false_and,this]
theorem QcJ {n:Int}{l:LI}(h1:∀x∈l,0≤x∧x<n)(h2:Yn l):Y0 n none l=0:=(Z7 n l none).2 ⟨h1,h2,λy hy=>by cases hy⟩
structure Vs where
 x:Int
 y:Int
 b:Int
 v:Int
def Vs.ky (p:Vs):Int×Int:=(p.x,p.y)
def yF (a b:QO)(i:Nat)(p:Vs)(v:Int):Vs:=⟨nxt a.ed p.x v,nxt b.ed p.y v,(i:Int),v⟩
def qQ (a:QO)(kd x:Int):Bool:=decide (0≤x) && (decide (kd=1) || decide (x∈a.mr))
def lgC (a b:QO)(kd:Int)(p:Vs):Bool:=!(qQ a kd p.x == qQ b kd p.y)
def lgA (a b:QO)(i:Nat)(p:Vs)(V:List Vs)(v:Int):List Vs:=if(yF a b i p v).ky≠(-1,-1)∧(yF a b i p v).ky∉V.map Vs.ky then V++[yF a b i p v]else V
def vs0:Vs:=⟨-1,-1,-1,0⟩
def gV (V:List Vs)(k:Nat):Vs:=V.getD k vs0
def lgW (V:List Vs):Nat→Nat→LI
 | 0,_=>[]
 | f+1,k=>if 0≤(gV V k).b then(gV V k).v::lgW V f (gV V k).b.toNat else[]
def lgL (a b:QO)(kd:Int)(al:LI):Nat→Nat→List Vs→Option (LI)
 | 0,_,_=>none
 | f+1,i,V=>if i<V.length then(if lgC a b kd (gV V i)=true then some (lgW V (i+1) i).reverse else lgL a b kd al f (i+1) (al.foldl (lgA a b i (gV V i)) V))else none
def fst (a:QO):Int:=if a.st=0 then -1 else 0
def lgq (a b:QO)(kd:Int):Option (LI):=lgL a b kd (mrg (· || ·) a.al b.al) ((a.st.toNat+1)*(b.st.toNat+1)+1) 0 [⟨fst a,fst b,-1,0⟩]
def lgE (a b:QO)(kd:Int):Int:=if Xq a≠0 then Xq a else if Xq b≠0 then Xq b else if kd≠1∧kd≠2 then 11 else 0
structure Rpt where
 ps:Bool
 ev:Int
 f1:Int
 f2:Int
 nc:Bool
 wd:LI
 sts:LI
 tg:Int
def UV (s:Option (Int×Int×Int)):Int×Int×Int:=s.getD (0,0,0)
def Qf5 (A:QO):LI:=if(X5 A).length=0 then[]else(ptR A A.st.toNat 0 (X5 A) (Yz A.st.toNat)).1
def Vu (c:ZA):Rpt:=⟨(qz c).isNone,(UV (qz c)).1,(UV (qz c)).2.1,(UV (qz c)).2.2,decide ((X5 (Xe c)).length=0),Qf5 (Xe c),(XX c).map (·.st),(Xe c).st⟩
def UP (c:ZA):QO:=J4 (Xe c) [] (unc c.ev)
def cdE (c:ZA):Int:=if X7 c≠0 then X7 c else Vh (Xe c) [] (unc c.ev)
def ccE (c:ZA):Int:=if cdE c≠0 then cdE c else X8 [Xe c,UP c]
def ccA (c:ZA):QO:=syA [Xe c,UP c]
def jJ:LI→LI→Bool
 | a::v,b::w=>if a=b then jJ v w else decide (a<b)
 | _,_=>false
def less (v w:LI):Bool:=if v.length≠w.length then decide (v.length<w.length)else jJ v w
def own (c:ZA)(k:Bool):QO:=if k=true then ccA c else Xe c
def cmE (c:ZA)(k:Bool):Int:=if X7 c≠0 then X7 c else if suE c≠0 then suE c else if k=true∧ccE c≠0 then ccE c else lgE (own c k) (K9 c) 1
def cm1 (z:Option (LI))(w:Option (LI)):Option (LI):=match w with
 | none=>z
 | some w=>match z with
  | none=>some w
  | some v=>if less w v=true then some w else some v
def cmW (a b:QO):Option (LI):=cm1 (cm1 none (lgq a b 1)) (lgq a b 2)
end Go.Proofs.YtjcgijbhaemldaaGreatDoor
namespace Go.Lg
section
variable {P:Program}{K:Fr→World→Prop}{f:Fr}{w:World}{d:Option Nat}{ty:Nat}{ps:String}{af:Array Edge}{gd:Option (Nat×Bool)}
theorem qM {t:Nat}[h1:Xy P t]{x y:Operand}{b T i:Nat}{l:List Bool}{u:Bool}(E:QT w.heap b T (l.map Value.bool))(hx:ev f x=.pointer (some ⟨b,0+i*1,none⟩))(hy:ev f y=.bool u)(hi:i<l.length)
  (G:∀w',Step [b] w w'→QT w'.heap b T ((l.set i u).map Value.bool)→K (QZ f d undef) w'):XO P ⟨d,.store t x y,ty,ps,af,gd⟩ f w K:=by
 refine QB E hx hy (by simpa using hi) rfl λw' hs H=>G w' hs ?_;rw[NC];simpa using H
theorem Jg {t:Nat}[Xy P t]{x:Operand}{b T i:Nat}{l:List Bool}(h:QT w.heap b T (l.map Value.bool))(hx:ev f x=.pointer (some ⟨b,0+i*1,none⟩))(hi:i<l.length):
  (execOp (ev f) ⟨d,.load t x,ty,ps,af,gd⟩).run P w=.ok (.value (.bool (l[i]'hi))) w:=Qd h hx (by simp[hi])
variable {ops:List Oper}{C:World→Prop}{pl:List (Nat×Bool)}{i:Nat}
theorem pqB {b:Bool}(E:∀w',C w'→(execOp (ev f) (QL ops i)).run P w'=.ok (.value (.bool b)) w')(ht:b=true→XP P ops C K pl (QZ f (QL ops i).dst (.bool true)) w)(H:b=false→XP P ops C K pl (QZ f (QL ops i).dst (.bool false)) w)
  (hd:zT (QL ops i)=true:=by rfl) (G:Z6 ops f (QL ops i)=true:=by rfl):XP P ops C K ((i,true)::pl) f w:=by
 cases hb:b with
 | true=>rw[hb]at E;exact pq E (ht hb) hd G
 | false=>rw[hb]at E;exact pq E (H hb) hd G
end
end Go.Lg
namespace Go.Proofs.YtjcgijbhaemldaaGreatDoor
open Go.Proofs.Tryz
open Go.Lg
def bA (n:Nat)(g:Nat→Bool):List Bool:=(List.range n).map g
theorem Qmk (n:Nat)(g:Nat→Bool):(bA n g).length=n:=by simp[bA]
theorem Qmj {n i:Nat}{g E:Nat→Bool}{u:Bool}(hu:u=E i)(h:∀j,j<n→j≠i→E j=g j):(bA n g).set i u=bA n E:=by
 apply LY
 ·simp[bA]
 intro k h1 h2;rw[MS];have hk:k<n:=by simpa[bA]using h2
 by_cases e:i=k
 ·rw[if_pos e,hu,e];simp[bA]
 rw[if_neg e];have:=h k hk (λG=>e G.symm);simp[bA,this]
theorem Qel (n:Nat):(List.replicate n (Value.bool false).cells.toList).flatten=(bA n (λi=>decide (i<0))).map Value.bool:=by
 apply LY
 ·simp[Value.cells,bA]
 intro i h1 h2;simp[Value.cells,bA]
theorem Ut {l:Lf}{s:Int}(h:s.toNat<l.length):l[s.toNat]'h=lft l s:=by unfold lft;simp[List.getD,h]
theorem QjA (n:Nat)(fb:LI):(lf0 n fb).length=n:=by unfold lf0;rw[zk];simp
instance:Bw prog 273 [nS,.int .i64 0,nS,nS,nS,.map none,nS] [(0,4),(4,1),(5,1),(6,1)]:=⟨by kernel_rfl,by decide⟩
structure Pz where
 va:Value
 vm:Value
 ve:Value
 a:QO
 vu:Value
 unc:LI
 mb:Nat
 mm:List (Int×Value)
 bl:Nat
 n:Nat
 rv:Nat→Value
abbrev Pz.cells (p:Pz):LV:=[p.va,.int .i64 p.a.st,p.vm,p.ve,p.vu,.map (some p.mb),.slice (some ⟨p.bl,0,none⟩) p.n p.n]
structure PzA (L:LN)(H:Array Obj)(bp:Nat)(p:Pz):Prop where
 B:QT H bp 273 p.cells
 bL:bp∉L
 a:Zp L H p.va p.vm p.ve p.a
 u:QH L H p.vu p.unc
 M:ZI Jp H p.mb p.mm
 mL:p.mb∉L
 g:∀s,s<p.n→(match mget p.mm ((s:Nat):Int)with|some u=>u|none=>nS)=p.rv s
 R:∀s,s<p.n→QH L H (p.rv s) (ZE p.a.ed s)
theorem PzA.ext {L:LN}{w w':World}{bp:Nat}{p:Pz}(h:PzA L w.heap bp p)(hs:Step [] w w'):PzA L w'.heap bp p:=⟨h.B.ext hs,h.bL,h.a.ext hs,h.u.ext hs,h.M.ext hs,h.mL,h.g,λs E=>(h.R s E).ext hs⟩
theorem PzA.st {L:LN}{w w':World}{bp:Nat}{p:Pz}(h:PzA L w.heap bp p)(hs:Step L w w'):PzA L w'.heap bp p:=⟨h.B.step hs h.bL,h.bL,h.a.st hs,h.u.st hs,h.M.step hs h.mL,h.mL,h.g,λs E=>(h.R s E).st hs⟩
theorem PzA.up {L L':LN}{H:Array Obj}{bp:Nat}{p:Pz}(h:PzA L H bp p)(E:∀b∈L',b∈L∨H.size≤b):PzA L' H bp p :=
 ⟨h.B,λhm=>by rcases E _ hm with h1|h1;exact h.bL h1;have:=h.B.lt;omega,h.a.up E,h.u.up E,h.M,λhm=>by rcases E _ hm with h1|h1;exact h.mL h1;have:=h.M.lt;omega,h.g,λs G=>(h.R s G).up E⟩
structure PzQ (p:Pz):Prop where
 ok:Q2 p.a
 n:p.a.st=(p.n:Int)
set_option maxHeartbeats 4000000 in
theorem QfP {w:World}{va vm ve vr vu:Value}{a:QO}{rm unc:LI}{n:Nat}(h:Zp [] w.heap va vm ve a)(h6:Q2 a)(hn:a.st=(n:Int))(hr:QH [] w.heap vr rm)(gm:∀x∈rm,0≤x∧x<a.st)(hu:QH [] w.heap vu unc):
  QE prog 146 [.agg #[va,.int .i64 a.st,vm,ve],vr,vu] w λr w'=>Step [] w w'∧∃bp p,r=.pointer (some ⟨bp,0,none⟩)∧p.a=a∧p.unc=unc∧p.n=n∧w.heap.size≤p.bl∧PzA [p.bl] w'.heap bp p∧QT w'.heap p.bl 4 ((lf0 n rm).map Value.bool):=by
 have kk:=h6.st1;have gn:=h6.ed;have kn:=h6.ed_le;have ko:=hr.le;refine QE.of_W func146 O ntmps146 results146 (by simp) ?_;refine Qc<|xl O<|QQ (us:=[va,.int .i64 a.st,vm,ve]) O λb3 G hg kp hy=>Qe ?_;have kq:=hy.lt
 refine QX (α:=Nat×Nat×Nat) [(7,7),(13,20)] (λz=>[(7,.pointer (some ⟨z.1,0,none⟩))]) (λz w'=>Step [] G w'∧QT w'.heap z.1 273 [va,.int .i64 a.st,vm,ve,vu,.map (some z.2.1),.slice (some ⟨z.2.2,0,none⟩) n n] ∧
  ZI Jp w'.heap z.2.1 []∧QT w'.heap z.2.2 4 ((bA n (λi=>decide (i<0))).map Value.bool)∧G.heap.size≤z.1∧G.heap.size≤z.2.1∧G.heap.size≤z.2.2∧z.1≠z.2.1∧z.1≠z.2.2∧z.2.1≠z.2.2) (by rfl) ?_ ?_
 ·have Y:Step [] G { G with drawn:=G.drawn+1 }:=Step.drew _ _
  refine QkE (Step [] G) [(0,true),(1,true),(3,true),(4,true)] 2 5 [(5,false),(6,true),(7,false),(8,true)] [(2,false),(6,true),(7,false),(8,true)] mixed (by rfl) (by kernel_rfl) (Step.drew _ _) ?_;refine pq (λ_ hc=>Qn (hy.ext hc) O O)<|p (λ_=>Qm)<|p (λ_=>Qa O)<|pq (λ_ hc=>Qd (hy.ext hc) O O)<|pe ⟨⟨O,?_⟩,O,?_⟩
  ·refine Z0 Jp λbm w2 T h7 hN=>⟨Y.trans T,?_⟩;refine pk<|XB (n:=n) (congrArg (Value.int .i64) hn) (congrArg (Value.int .i64) hn) (by omega) λbl w3 U h8 hB=>⟨(Y.trans T).trans U,?_⟩;rw[Qel]at hB;refine p (λ_=>Zx [(0,[va,.int .i64 a.st,vm,ve]),(1,[vu]),(2,[.map (some bm)]),(3,[.slice (some ⟨bl,0,none⟩) n n])] ⟨O,O,hu.cells,O,O,O,O,O,Z⟩)<|pk <|
    QQ (us:=[va,.int .i64 a.st,vm,ve,vu,.map (some bm),.slice (some ⟨bl,0,none⟩) n n]) O λbp w4 E hA I=>⟨((Y.trans T).trans U).trans E,?_⟩
   refine p (λ_=>Qf)<|pe ?_;have go:=hN.lt;have gq:=hB.lt;have gr:({ G with drawn:=G.drawn+1 }:World).heap.size=G.heap.size:=rfl
   exact⟨(bp,bm,bl),La,((Y.trans T).trans U).trans E,I,(hN.ext U).ext E,hB.ext E,by simp only[];omega,by simp only[];omega,by simp only[];omega,by simp only[];omega,by simp only[];omega,by simp only[];omega⟩
  refine XB (n:=n) (congrArg (Value.int .i64) hn) (congrArg (Value.int .i64) hn) (by omega) λbl w2 T h8 hB=>⟨Y.trans T,?_⟩;rw[Qel]at hB;refine pk<|Z0 Jp λbm w3 U h7 hO=>⟨(Y.trans T).trans U,?_⟩;refine p (λ_=>Zx [(0,[va,.int .i64 a.st,vm,ve]),(1,[vu]),(2,[.map (some bm)]),(3,[.slice (some ⟨bl,0,none⟩) n n])] ⟨O,O,hu.cells,O,O,O,O,O,Z⟩)<|pk <|
   QQ (us:=[va,.int .i64 a.st,vm,ve,vu,.map (some bm),.slice (some ⟨bl,0,none⟩) n n]) O λbp w4 E hA I=>⟨((Y.trans T).trans U).trans E,?_⟩
  refine p (λ_=>Qf)<|pe ?_;have go:=hO.lt;have gq:=hB.lt;have gr:({ G with drawn:=G.drawn+1 }:World).heap.size=G.heap.size:=rfl
  exact⟨(bp,bm,bl),La,((Y.trans T).trans U).trans E,I,hO.ext E,(hB.ext U).ext E,by simp only[];omega,by simp only[];omega,by simp only[];omega,by simp only[];omega,by simp only[];omega,by simp only[];omega⟩
 rintro⟨bp,bm,bl⟩ g w4 ⟨E,I,hC,hD,hA,h7,h8,hP,hQ,hE⟩;simp only[]at I hC hD hA h7 h8 hP hQ hE;have kr:=I.lt;have kt:=hC.lt;have gs:=hg.trans E;have hp:bp∉[bl]:=by simpa using hQ
 have hR:bm∉[bl]:=by simpa using hE
 refine Qg<|Qc<|Qb<|x (QG O)<|x (Qa O)<|x (Qd I O O)<|x (Qr (L:=[]) (hD.arr (by simp) (n:=n) (cap:=n) (sz:=1) (by simp[bA]) (by omega) (Lt _)) rfl)<|Qb<|xe<|Qh<|QA (α:=Nat) [(8,8),(26,35)] (λz=>[(26,.int .i64 z)]) (λz w'=>z≤n∧Step [bl] w4 w'∧QT w'.heap bl 4 ((bA n (λi=>decide (i<z))).map Value.bool)) (λz=>n - z) (by rfl) 0 La ⟨Ll _,Step.refl _ _,hD⟩ ?_
 rintro k g w5 ⟨hk,hq,hF⟩;refine Qc<|x (Qz O O)<|xe<|Qg<|QC O (λhS=>?_) (λhS=>?_)
 ·refine Qy ?_;have gt:bA n (λi=>decide (i<k))=(rm.take 0).foldl cut (List.replicate n true):=by
   apply LY
   ·simp[bA]
   intro i h1 h2;have:i<n:=by simpa[bA]using h1
   simp[bA];omega
  rw[gt]at hF;have hT:QH [bl] G.heap vr rm:=(hr.ext hg).up (λb hb=>.inr (by simp only[List.mem_singleton]at hb;omega));have gu:Zp [bl] G.heap va vm ve a:=(h.ext hg).up (λb hb=>.inr (by simp only[List.mem_singleton]at hb;omega));have hU:=I.step hq hp;refine Qg<|Qc<|Qb<|x (Qr ((hT.ext E).st hq) O)<|Qb<|xe ?_
  refine Qh<|QA (α:=Nat) [(10,10),(38,48)] (λz=>[(38,.int .i64 z)]) (λz w'=>z≤rm.length∧Step [bl] w4 w'∧QT w'.heap bl 4 (((rm.take z).foldl cut (List.replicate n true)).map Value.bool)) (λz=>rm.length - z) (by rfl) 0 La ⟨Ll _,hq,hF⟩ ?_;rintro j g w6 ⟨hj,H,ha⟩;refine Qc<|x (Qz O O)<|xe<|Qg<|QC O (λhG=>?_) (λhG=>?_)
  ·refine Qy ?_;have gv:rm.length≤j:=by have hz:¬(j:Int)<(rm.length:Int):=hG;omega
   rw[Ln gv]at ha;have hV:=I.step H hp;have gx:=hC.step H hR;have ku:=ha.lt;refine Qg<|Qc<|x (Qa O)<|x (Qd ((hy.ext E).step H (by simp only[List.mem_singleton];omega)) O O)<|x (Qr ((gu.ext E).st H).ed O)<|Qb<|xe ?_;have kv:=H.size
   refine Qh<|QA (α:=Nat×(Nat→Value)×List (Int×Value)) [(12,12),(52,73)] (λz=>[(52,.int .i64 z.1)]) (λz w'=>z.1≤a.ed.length∧Step [bm] w6 w'∧ZI Jp w'.heap bm z.2.2∧KE w6.heap.size w' n z.2.1 (ZE (a.ed.take z.1))∧∀s,s<n→(match mget z.2.2 ((s:Nat):Int)with|some u=>u|none=>nS)=z.2.1 s) (λz=>a.ed.length - z.1) (by rfl) (0,λ_=>nS,[]) ⟨rfl,Z⟩
    ⟨Ll _,Step.refl _ _,gx,⟨λi _=>QP _ _ _ _,λi j _ _ _=>Dj.nil _⟩,λs _=>O⟩ ?_
   rintro⟨i,rv,m⟩ g w7 ⟨hi,J,hH,hf,h0⟩;simp only[]at hi hH hf h0;have kw:=J.size;have hW:bp∉[bm]:=by simpa using hP
   have gy:bl∉[bm]:=by simpa using Ne.symm hE
   refine Qc<|x (Qz O O)<|xe<|Qg<|QC O (λhI=>?_) (λhI=>?_)
   ·refine Qy ?_;have gz:a.ed.length≤i:=by have h3:¬(i:Int)<(a.ed.length:Int):=hI;omega
    rw[Ln gz]at hf;refine Qc<|Qb<|Qe<|Qk ⟨[_],La,(gs.then1 H (by omega)).then1 J (by omega),bp,⟨va,vm,ve,a,vu,unc,bm,m,bl,n,rv⟩,O,O,O,O,by simp only[];omega,⟨hV.step J hW,hp,?_,?_,hH,hR,h0,λs hs=>QW (hf.own s hs) (LJ (XR a.ed s) (by omega)) (λb hb hm=>?_)⟩,ha.step J gy⟩
    ·have h9:Zp [bl,bm] w7.heap va vm ve a:=((((h.ext hg).up (L':=[bl,bm]) (λb hb=>.inr (by simp only[List.mem_cons,List.not_mem_nil,or_false]at hb;omega))).ext E).st (H.mono (by simp))).st (J.mono (by simp));exact h9.up (by simp)
    ·have h9:QH [bl,bm] w7.heap vu unc:=((((hu.ext hg).up (L':=[bl,bm]) (λb hb=>.inr (by simp only[List.mem_cons,List.not_mem_nil,or_false]at hb;omega))).ext E).st (H.mono (by simp))).st (J.mono (by simp));exact h9.up (by simp)
    have:=(Qp (hf.own s hs) b hb).1;simp only[List.mem_singleton]at hm;omega
   refine Qi ?_;have V:i<a.ed.length:=by have h3:(i:Int)<(a.ed.length:Int):=hI;omega
   have ht:a.ed.take (i+1)=a.ed.take i++[a.ed[i]'V]:=Le V;have hX:=gn _ (Li V);refine Zb (a.ed[i]'V) λe he=>?_;rw[he]at ht hX;have hY:e.2.2=(e.2.2.toNat:Int):=by omega
   have hv:e.2.2.toNat<n:=by omega
   have g0:=XR (a.ed.take i) e.2.2.toNat;rw[Ly]at g0;have hJ:=qV (a.ed.take i) e hX.2.2.2.1;have g1:qm [bl,bm] w7.heap ve a.ed:=((((h.ed.ext hg).up (L':=[bl,bm]) (λb hb=>.inr (by simp only[List.mem_cons,List.not_mem_nil,or_false]at hb;omega))).ext E).st (H.mono (by simp))).st (J.mono (by simp));refine Qg<|Qh<|Qc<|xie g1 O O V λkx h3=>?_;rw[he]at h3
   refine x (QI h3 O O)<|xl O<|Qu (us:=[.int .i64 0,.int .i64 0,.int .i64 0]) O λg2 w8 g3 g4 g5=>xl O<|Qo (us:=QD e) g5 O O O O ⟨O,O,O,Z⟩ λw9 g6 hK=>xe ?_;have hw:Step [] w7 w9:=g3.then1 g6 g4;have kz:=hw.size;have hZ:=hf.ext hw;have g7:=hZ.own _ hv
   have h4:∀b∈ob (rv e.2.2.toNat),w6.heap.size≤b∧b<w7.heap.size:=λb hb=>⟨(Qp (hf.own _ hv) b hb).1,Q3 (hf.own _ hv) b hb⟩;have ga:bp∉ob (rv e.2.2.toNat):=λhb=>by have:=h4 _ hb;omega
   have gb:bm∉ob (rv e.2.2.toNat):=λhb=>by have:=h4 _ hb;omega
   have hL:g2∉ob (rv e.2.2.toNat):=λhb=>by have:=h4 _ hb;omega
   have gc:=((hV.step J hW).ext hw);have ge:=hH.ext hw;have gg:=h0 e.2.2.toNat hv;rw[←hY]at gg;refine QV (Step (ob (rv e.2.2.toNat)) w9) [(0,true),(1,true),(2,true),(3,true),(4,true),(5,true),(6,true),(7,true),(8,true),(9,true),(10,true),(11,true),(12,true),(13,true),(14,true),(15,false),(16,false),(17,false)] mixed (by rfl) (by kernel_rfl) (Step.drew _ _) ?_
   refine p (λ_=>Qm)<|p (λ_=>QG O)<|p (λ_=>Qa O)<|pq (λ_ hc=>Qd (gc.step hc ga) O O) <|
    p (λ_=>Qa O)<|pq (λ_ hc=>Qd (hK.step hc hL) O O)<|p (λ_=>Qm)<|p (λ_=>QG O)<|p (λ_=>Qa O) <|
    pq (λ_ hc=>Qd (gc.step hc ga) O O)<|p (λ_=>Qa O)<|pq (λ_ hc=>Qd (hK.step hc hL) O O) <|
    pq (λ_ hc=>(Ju (k:=e.2.2) (ge.step hc gb) O O).trans (congrArg (λv=>Result.ok (Next.value v) _) gg))<|p (λ_=>Qa O)<|pq (λ_ hc=>Qd (hK.step hc hL) O O) <|
    pk<|QF (us:=[[.int .i64 e.1]]) O O (by decide) (by simp) ⟨rfl,rfl,Z⟩ λk0 g8 gh k4 g9=>⟨(Step.drew _ _).trans gh,?_⟩
   have hh:Step [] w9 g8:=(Step.drew _ _).trans gh;have k5:=hh.size;refine pk<|Q5 (m:=1) (news:=[.int .i64 e.1]) (Qs g7 hh) O O O (g9.at (L:=[]) (by simp)) (by simp[Value.oneCell']) (by omega) (by omega) λhM k6 ka h5 kb=>⟨hh.any.trans' h5,?_⟩;have kc:=(ge.ext hh).step h5 gb;refine pkl (hl:=by kernel_rfl)<|YI (k:=e.2.2) kc O O λk7 gi ke=>pe ?_
   have kf:∀b∈ob hM,b∈ob (rv e.2.2.toNat)∨w9.heap.size≤b:=λb hb=>(kb b hb).imp id (λh=>by omega);have gj:=hZ.app hv (Qt.snoc ka) (hh.any.trans' h5) kf;have gk:=gj.step gi (λi hi b hb=>by have:=(Qp (gj.own i hi) b hb).1;simp only[List.mem_singleton];omega)
   have kg:J3 (ZE (a.ed.take i)) e.2.2.toNat (ZE (a.ed.take i) e.2.2.toNat++[e.1])=ZE (a.ed.take (i+1)):=by rw[ht];exact funext hJ
   rw[kg]at gk;refine Qx<|QM O O<|Qb<|xe<|⟨(i+1,J3 rv e.2.2.toNat hM,mput m e.2.2 hM),by simp only[];omega,La,V,?_,ke,gk,λs hs=>?_⟩
   ·exact(((J.trans hw).trans hh).then h5 (λb hb=>.inr (h4 b hb).1)).trans' gi
   simp only[];rw[JB];by_cases gl:s=e.2.2.toNat
   ·subst gl;rw[if_pos hY,ZZ]
   rw[if_neg (by omega),Yo _ _ gl];exact h0 s hs
  refine Qi ?_;have ho:j<rm.length:=by have hz:(j:Int)<(rm.length:Int):=hG;omega
  have kh:=gm _ (Li ho);have ht:rm.take (j+1)=rm.take j++[rm[j]'ho]:=Le ho;refine Zb (rm[j]'ho) λs hs=>?_;rw[hs]at kh ht;have hJ:s=(s.toNat:Int):=by omega
  have k8:((rm.take j).foldl cut (List.replicate n true)).length=n:=by rw[zk];simp
  refine Qg<|Qh<|Qc<|xii (i:=j) ((hT.ext E).st H) O O ho λk9 hz=>?_;rw[hs]at hz;refine x (Qv hz O)<|Qe<|Qx<|Qb<|x (QG O)<|x (Qa O)<|x (Qd (I.step H hp) O O)<|Qb<|x (QS (i:=s.toNat) O (congrArg (Value.int .i64) hJ) (by omega)) <|
   xl rfl<|qM (i:=s.toNat) ha O O (by omega) λw7 J ki=>xe ?_
  refine Qx<|QM O O<|Qb<|xe<|⟨j+1,by omega,La,ho,H.trans' J,?_⟩;rw[ht,Mn];exact ki
 refine Qi ?_;have V:k<n:=by have ma:(k:Int)<(n:Int):=hS;omega
 have hU:=I.step hq hp;refine Qg<|Qh<|Qc<|Qb<|Qe<|Qx<|Qb<|x (QG O)<|x (Qa O)<|x (Qd hU O O)<|Qb<|x (QS (i:=k) O O (by omega)) <|
  xl rfl<|qM (i:=k) hF O O (by rw[Qmk];exact V) λw6 H ha=>xe ?_
 have kj:(bA n (λi=>decide (i<k))).set k true=bA n (λi=>decide (i<k+1)):=Qmj (by simp) (λi _ hi=>by
  by_cases e:i<k
  ·simp[e];omega
  simp[e];omega)
 rw[kj]at ha;refine Qx<|QM O O<|Qb<|xe ?_;exact⟨k+1,by omega,La,V,hq.trans' H,ha⟩
theorem zx {l r:LI}{i:Nat}(h:i<l.length):cget (l++r) i=cget l i:=by
 unfold cget;simp[List.getD,List.getElem?_append_left h]
set_option maxHeartbeats 4000000 in
theorem V6 {w:World}{bp:Nat}{q:Pz}{lf:Lf}(hA:PzA [] w.heap bp q)(hq:PzQ q)(hB:QT w.heap q.bl 4 (lf.map Value.bool))(hl:lf.length=q.n):
  QE prog 150 [.pointer (some ⟨bp,0,none⟩)] w λr w'=>Step [] w w'∧∃b,r=.slice (some ⟨b,0,none⟩) q.n q.n∧w.heap.size≤b∧QT w'.heap b 3 ((dsts q.a lf).map (Value.int .i64))∧(dsts q.a lf).length=q.n:=by
 have hn:=hq.n;have kq:=hq.ok.st1;have gb:=hq.ok.mr;have kr:=hq.ok.mr_le;have kt:=hq.ok.ed_le;have hL:q.a.st.toNat=q.n:=by omega
 have gt:=Ql5 (lf:=lf) hq.ok hn;have gc:(dsL q.a.ed lf q.n 0 (ds0 q.a lf)).1=dsts q.a lf:=by unfold dsts;rw[hL]
 refine Zb (dsts q.a lf) λDD gu=>?_;rw[gu]at gc ⊢;refine QE.of_W func150 O ntmps150 results150 (by simp) ?_;refine Qc<|Qe<|Qc<|Qb<|x (QG O)<|x (Qa O)<|x (Qa O)<|x (Qd hA.B O O)<|xl O<|XB (n:=q.n) (congrArg (Value.int .i64) hn) (congrArg (Value.int .i64) hn) (by omega) λbO w1 ge h9 hM=>Qe ?_;rw[yK]at hM
 refine Qg<|Qc<|Qb<|x (Qr (L:=[]) (hM.arr (by simp) (n:=q.n) (cap:=q.n) (sz:=1) (by simp[gA]) (by omega) (Lt _)) rfl)<|Qb<|xe<|Qh<|QA (α:=Nat) [(4,4),(19,25)] (λz=>[(19,.int .i64 z)]) (λz w'=>z≤q.n∧Step [] w w'∧QT w'.heap bO 3 ((gA q.n (λj=>if j<z then -1 else 0)).map (Value.int .i64))) (λz=>q.n - z) (by rfl) 0 La ⟨Ll _,ge,hM⟩ ?_
 rintro j g G ⟨hj,hg,hw⟩;refine Qc<|x (Qz O O)<|xe<|Qg<|QC O (λhN=>?_) (λhN=>?_)
 ·refine Qy ?_;have hO:j=q.n:=by have gv:¬(j:Int)<(q.n:Int):=hN;omega
  have gx:gA q.n (λi=>if i<j then -1 else 0)=((q.a.mr.take 0).foldl (ds1 lf) (List.replicate q.n (-1),[])).1:=by
   apply LY
   ·simp[gA]
   intro i h1 h2;have:i<q.n:=by simpa[gA]using h1
   simp[gA];omega
  rw[gx]at hw;refine Qc<|Qe<|Qg<|Qc<|Qb<|x (QG O)<|x (Qa O)<|x (Qa O)<|x (Qd (hA.ext hg).B O O)<|x (Qr (hA.ext hg).a.mr O)<|Qb<|xe<|Qh<|QA (α:=Nat×Value) [(5,5),(7,7),(32,50)] (λz=>[(5,z.2),(32,.int .i64 z.1)]) (λz w'=>z.1≤q.a.mr.length∧Step [] w w'∧G.heap.size≤w'.heap.size∧QT w'.heap bO 3 (((q.a.mr.take z.1).foldl (ds1 lf) (List.replicate q.n (-1),[])).1.map (Value.int .i64)) ∧
   Qt 3 G.heap.size w' z.2 ((q.a.mr.take z.1).foldl (ds1 lf) (List.replicate q.n (-1),[])).2) (λz=>q.a.mr.length - z.1) (by rfl) (0,nS) ⟨O,O,Z⟩ ⟨Ll _,hg,Lt _,hw,QP _ _ _ _⟩ ?_
  rintro⟨k,vl⟩ g w3 ⟨hk,h0,gg,hh,Y⟩;simp only[]at hk hh Y;have gh:=Qbn (lf:=lf) (λx hx=>(gb x hx).1) k;rw[hL]at gh;refine Qc<|x (Qz O O)<|xe<|Qg<|QC O (λhP=>?_) (λhP=>?_)
  ·refine Qy ?_;have gy:q.a.mr.length≤k:=by have hC:¬(k:Int)<(q.a.mr.length:Int):=hP;omega
   have e0:(q.a.mr.take k).foldl (ds1 lf) (List.replicate q.n (-1),[])=ds0 q.a lf:=by rw[Ln gy];unfold ds0;rw[hL]
   rw[e0]at hh Y;have gz:bO<G.heap.size:=hw.lt;refine Qg<|Qc<|Qe<|Qh<|QA (α:=Nat×Nat×Value×LI×LI) [(5,5),(8,8),(10,10),(51,100)] (λz=>[(5,z.2.2.1),(8,.int .i64 z.2.1)])
    (λz w'=>Step [] w w'∧G.heap.size≤w'.heap.size∧QT w'.heap bO 3 (z.2.2.2.1.map (Value.int .i64))∧Qt 3 G.heap.size w' z.2.2.1 z.2.2.2.2∧DsI q.n z.2.2.2∧z.1+z.2.1=q.n∧(dsL q.a.ed lf z.1 z.2.1 z.2.2.2).1=DD) (λz=>q.n - z.2.1) (by rfl) (q.n,0,vl,(ds0 q.a lf).1,(ds0 q.a lf).2) ⟨O,O,Z⟩
    ⟨h0,gg,hh,Y,gt,O,gc⟩ ?_
   rintro⟨f,i,vl,o,l⟩ g w4 ⟨ha,hQ,h3,J,ho,g0,T⟩;simp only[]at hQ h3 J ho g0 T;have g1:=ho.le;have gi:=ho.ok.len;simp only[]at g1 gi;have hD:=hA.ext ha;refine Qg<|Qc<|Qb<|Qb<|x (Qr (L:=[]) (QW J (by omega) (by simp)) rfl)<|x (Qz rfl rfl)<|xe<|QC O (λhR=>?_) (λhR=>?_)
   ·refine Qy ?_;have g2:¬i<l.length:=by have g3:¬(i:Int)<(l.length:Int):=hR;omega
    rw[QhB g2]at T;simp only[]at T;subst T;refine Qc<|Qb<|Qe ?_;exact Qk ⟨[.slice (some ⟨bO,0,none⟩) q.n q.n],La,ha,bO,O,h9,h3,gi⟩
   refine Qi ?_;have hp:i<l.length:=by have g3:(i:Int)<(l.length:Int):=hR;omega
   refine Exists.elim (MN (show f≠0 by omega)) λf' g4=>?_;subst g4;rw[dsL,if_pos hp]at T;have gj:=Zm hp;have hsr:=ho.ok.q _ (X4 hp);have hS:=ho.s0 _ (X4 hp);refine Zb (cget l i) λs hs=>?_;rw[hs]at T hsr gj;simp only[]at hsr hS;rw[hs]at hS;have gk:s=(s.toNat:Int):=by omega
   have gl:=hD.g s.toNat (by omega);rw[←gk]at gl;have g5:=hD.R s.toNat (by omega);have ku:=XR q.a.ed s.toNat;refine Qg<|Qh<|Qg<|QV (Step [] w4) [(0,true),(1,true),(2,true),(3,true),(4,true),(5,true),(6,true),(7,true),(8,true),(9,true),(10,true)] mixed (by rfl) (by kernel_rfl) (Step.drew _ _) ?_
   refine p (λ_=>Qm)<|p (λ_=>QG O)<|p (λ_=>Qa O)<|pq (λ_ hc=>Qd (hD.B.ext hc) O O)<|p (λ_=>Qm)<|p (λ_=>Qm) <|
    pii (i:=i) O (QW (L:=[]) J (by omega) (by simp)) rfl rfl hp λkv gm=>?_
   rw[gj]at gm;refine pq (λ_ hc=>Qv (gm.ext hc) O)<|pq (λ_ hc=>(Ju (k:=s) (hD.M.ext hc) O O).trans (congrArg (λv=>Result.ok (Next.value v) _) gl))<|p (λ_=>Qr g5 O)<|p (λ_=>Qm)<|pe ?_;have hF:Step [] w4 { w4 with drawn:=w4.drawn+1 }:=Step.drew _ _
   refine Qh<|QA (α:=Nat×Value×LI×LI) [(5,5),(10,10),(67,100)] (λz=>[(5,z.2.1),(67,.int .i64 z.1)])
    (λz w'=>z.1≤(ZE q.a.ed s.toNat).length∧Step [] w w'∧G.heap.size≤w'.heap.size∧QT w'.heap bO 3 (z.2.2.1.map (Value.int .i64))∧Qt 3 G.heap.size w' z.2.1 z.2.2.2∧DsI q.n z.2.2∧0≤cget z.2.2.1 s.toNat∧i<z.2.2.2.length∧cget z.2.2.2 i=s ∧
     ((ZE q.a.ed s.toNat).drop z.1).foldl (UY lf s) z.2.2=(ZE q.a.ed s.toNat).foldl (UY lf s) (o,l)) (λz=>(ZE q.a.ed s.toNat).length - z.1) (by rfl) (0,vl,o,l) ⟨O,O,Z⟩
    ⟨Ll _,ha.trans hF,LJ hQ hF.size,h3.ext hF,Qs J hF,ho,hS,hp,hs,O⟩ ?_
   rintro⟨m,hG,o2,l2⟩ g w5 ⟨hm,E,hH,hr,ht,hf,hT,h4,hI,H⟩;simp only[]at hm hH hr ht hf hT h4 hI H;have gn:=hA.ext E;have g6:=hf.le;have g7:=hf.ok.len;simp only[]at g6 g7;refine Qc<|x (Qz O O)<|xe<|Qg<|QC O (λhU=>?_) (λhU=>?_)
   ·refine Qy ?_;have g8:(ZE q.a.ed s.toNat).length≤m:=by have hJ:¬(m:Int)<((ZE q.a.ed s.toNat).length:Int):=hU;omega
    rw[Ls g8]at H;simp only[List.foldl_nil]at H;rw[←H]at T;refine Qx<|Qb<|QM O O<|Qe ?_;exact⟨(f',i+1,hG,o2,l2),by simp only[];omega,⟨O,O,Z⟩,E,hH,hr,ht,hf,by simp only[];omega,T⟩
   refine Qi ?_;have hu:m<(ZE q.a.ed s.toNat).length:=by have hJ:(m:Int)<((ZE q.a.ed s.toNat).length:Int):=hU;omega
   have go:=JC (Li hu);have g9:=Q9 hu;rw[g9,LM]at H;refine Zb ((ZE q.a.ed s.toNat)[m]'hu) λy hy=>?_;rw[hy]at go H;have ka:0≤y∧y<(q.n:Int):=by
    obtain⟨e,he,h1,_⟩:=go;have:=hq.ok.ed e he;omega
   have hv:y=(y.toNat:Int):=by omega
   have h5:y.toNat<o2.length:=by omega
   have hV:s.toNat<o2.length:=by omega
   have kb:=hf.ok.le _ (X4 hV);simp only[]at kb;have hE:=QhC (lf:=lf) hf hsr hT ka;have hW:=Ut (l:=lf) (s:=y) (by omega);refine Qg<|Qh<|Qc<|xii (i:=m) ((gn.R s.toNat (by omega))) O O hu λkw hJ=>?_;rw[hy]at hJ;refine x (Qv hJ O)<|Qe<|QX (α:=Bool) [(71,84)] (λz=>[(84,.bool z)]) (λz w'=>w'=w5∧z=(lft lf y && decide (cget o2 y.toNat<0))) (by rfl) ?_ ?_
   ·refine Qx<|Qb<|x (QG O)<|x (Qa O)<|x (Qd gn.B O O)<|Qb<|x (QS (i:=y.toNat) O (congrArg (Value.int .i64) hv) (by omega))<|x (Jg (i:=y.toNat) (hB.ext E) O (by omega))<|?_;rw[hW];cases lft lf y with
    | true =>
     refine Qb<|Qb<|Qb<|x (QS (i:=y.toNat) O (congrArg (Value.int .i64) hv) (by omega))<|x (KO (i:=y.toNat) hr O h5)<|x (Qz O O)<|x (Qq O)<|xe ?_;exact⟨_,La,O,by rw[Zm h5];rfl⟩
    | false =>
     refine Qb<|xs O<|xs O<|xs O<|xs O<|xs O<|x (Qq O)<|xe ?_;exact⟨_,La,O,O⟩
   rintro z g kx ⟨rfl,rfl⟩;refine QY O (λh6=>?_) (λh6=>?_)
   ·rw[Lu,decide_eq_true_eq]at h6;have hX:UY lf s (o2,l2) y=(o2.set y.toNat (cget o2 s.toNat+1),l2++[y]):=by unfold UY;rw[if_pos h6]
    rw[hX]at H hE;have kc:=Zm hV;have gq:=Zm h4;rw[hI]at gq;refine Qc<|Qb<|Qb<|Qb<|Qb<|Qb<|xii (i:=i) (QW (L:=[]) ht (by omega) (by simp)) rfl rfl h4 λkz gr=>?_;rw[gq]at gr;refine x (Qv gr O)<|x (QS (i:=s.toNat) O (congrArg (Value.int .i64) gk) (by omega))<|x (KO (i:=s.toNat) hr O hV)<|x (Xa O O ⟨by omega,by omega⟩) <|
     x (QS (i:=y.toNat) O (congrArg (Value.int .i64) hv) (by omega))<|xl O<|XY (i:=y.toNat) hr O O h5 λw6 I hK=>xe ?_
    rw[kc]at hK;have ke:=I.size;have kf:∀b∈ob hG,b∉[bO]:=λb hb=>by have:=Qp ht b hb;simp only[List.mem_singleton];omega
    have h7:Qt 3 G.heap.size w6 hG l2:=Ql ht I kf;have kg:Step [] w w6:=E.then1 I h9;refine Qx<|Qb<|Qb<|xl O<|QF (us:=[[.int .i64 y]]) O O (by decide) (by simp) ⟨rfl,rfl,Z⟩ λk0 w7 h8 k4 kh=>xl rfl<|Q5 (m:=1) (news:=[.int .i64 y]) (Qs h7 h8) rfl rfl rfl (kh.at (L:=[]) (by simp)) (by simp[Value.oneCell']) (by omega) (by have:=h8.size;omega) λhY w8 ki hZ k5 =>
     Qe ?_
    have k6:=h8.size;have k7:=hZ.size;refine Qx<|QM O O<|Qb<|xe<|⟨(m+1,hY,_,l2++[y]),by simp only[];omega,⟨O,O,Z⟩,hu,(kg.trans h8).then hZ (λb hb=>.inr (by have:=Qp h7 b hb;have:=ge.size;have:=hg.size;omega)),by omega,(hK.ext h8).step hZ (λhb=>by have:=Qp h7 _ hb;omega),Qt.snoc ki,hE.1,hE.2,by simp only[List.length_append];omega,by rw[zx h4];exact hI,H⟩
   have hX:UY lf s (o2,l2) y=(o2,l2):=by
    unfold UY;rw[if_neg];intro hc;rw[hc.1,decide_eq_true hc.2]at h6;cases h6
   rw[hX]at H;refine Qi<|Qx<|QM O O<|Qb<|xe ?_;exact⟨(m+1,hG,o2,l2),by simp only[];omega,⟨O,O,Z⟩,hu,E,hH,hr,ht,hf,hT,h4,hI,H⟩
  refine Qi ?_;have U:k<q.a.mr.length:=by have hC:(k:Int)<(q.a.mr.length:Int):=hP;omega
  have kj:=gb _ (Li U);have kk:q.a.mr.take (k+1)=q.a.mr.take k++[q.a.mr[k]'U]:=Le U;have V:(q.a.mr.take (k+1)).foldl (ds1 lf) (List.replicate q.n (-1),[])=ds1 lf ((q.a.mr.take k).foldl (ds1 lf) (List.replicate q.n (-1),[])) (q.a.mr[k]'U):=by rw[kk,Mn];rfl
  have kn:((q.a.mr.take k).foldl (ds1 lf) (List.replicate q.n (-1),[])).1.length=q.n∧((q.a.mr.take k).foldl (ds1 lf) (List.replicate q.n (-1),[])).2.length≤q.a.mr.length:=by
   rw[gh];exact⟨Y7 _ _,LJ (L3 _ _) (by rw[Ly];omega)⟩
  refine Zb ((q.a.mr.take k).foldl (ds1 lf) (List.replicate q.n (-1),[])) λz hz=>?_;rw[hz]at hh Y V kn;refine Zb (q.a.mr[k]'U) λy hy=>?_;rw[hy]at kj V;have hv:y=(y.toNat:Int):=by omega
  have h5:y.toNat<z.1.length:=by omega
  have hW:=Ut (l:=lf) (s:=y) (by omega);have gs:=hA.ext h0;refine Qg<|Qh<|Qc<|xii (i:=k) gs.a.mr O O U λk8 hC=>?_;rw[hy]at hC;refine x (Qv hC O)<|Qe<|Qc<|Qb<|x (QG O)<|x (Qa O)<|x (Qd gs.B O O)<|Qb<|x (QS (i:=y.toNat) O (congrArg (Value.int .i64) hv) (by omega))<|x (Jg (i:=y.toNat) (hB.ext h0) O (by omega))<|xe ?_;rw[hW];refine QY O (λga=>?_) (λga=>?_)
  ·have e1:ds1 lf z y=(z.1.set y.toNat 0,z.2++[y]):=by unfold ds1;rw[if_pos ga]
   rw[e1]at V;refine Qc<|Qb<|Qb<|x (QS (i:=y.toNat) O (congrArg (Value.int .i64) hv) (by omega))<|xl O<|XY (i:=y.toNat) hh O O h5 λw4 ha h3=>xe ?_;have hQ:=ha.size;have gz:bO<G.heap.size:=hw.lt;have J:Qt 3 G.heap.size w4 vl z.2:=Ql Y ha (λb hb=>by have:=Qp Y b hb;simp only[List.mem_singleton];omega)
   refine Qx<|Qb<|Qb<|xl O<|QF (us:=[[.int .i64 y]]) O O (by decide) (by simp) ⟨rfl,rfl,Z⟩ λk9 w5 E ma ko=>xl rfl<|Q5 (m:=1) (news:=[.int .i64 y]) (Qs J E) rfl rfl rfl (ko.at (L:=[]) (by simp)) (by simp[Value.oneCell']) (by omega) (by have:=E.size;omega) λhY w6 h7 I mc =>
    Qe ?_
   have hH:=E.size;have ke:=I.size;refine Qx<|QM O O<|Qb<|xe<|⟨(k+1,hY),by simp only[];omega,⟨O,O,Z⟩,U,((h0.then1 ha h9).trans E).then I (λb hb=>.inr (by have:=Qp J b hb;have:=hg.size;omega)),by omega,?_,?_⟩
   ·simp only[];rw[V];exact(h3.ext E).step I (λhb=>by have:=Qp J _ hb;omega)
   simp only[];rw[V];exact Qt.snoc h7
  have e1:ds1 lf z y=z:=by unfold ds1;rw[if_neg (by rw[ga];decide)]
  rw[e1]at V;refine Qi<|Qx<|QM O O<|Qb<|xe ?_;exact⟨(k+1,vl),by simp only[];omega,⟨O,O,Z⟩,U,h0,gg,by simp only[];rw[V];exact hh,by simp only[];rw[V];exact Y⟩
 refine Qi ?_;have hO:j<q.n:=by have gv:(j:Int)<(q.n:Int):=hN;omega
 refine Qg<|Qh<|Qc<|Qb<|Qe<|Qx ?_;have kp:(gA q.n (λi=>if i<j then -1 else 0)).set j (-1)=gA q.n (λi=>if i<j+1 then -1 else 0):=q6 (by rw[if_pos (by omega)]) (λi _ hi=>by
  by_cases e:i<j
  ·rw[if_pos e,if_pos (by omega)]
  rw[if_neg e,if_neg (by omega)])
 refine Qb<|Qb<|x (QS (i:=j) O O (by omega))<|xl O<|Kl (i:=j) hw O O hO kp λw6 I hK=>xe ?_;refine Qx<|QM O O<|Qb<|xe ?_;exact⟨j+1,by omega,La,hO,hg.then1 I h9,hK⟩
abbrev rmC (rk rs:Int)(x:Int×Int):LV:=[.int .i64 x.1,.int .i64 rk,.int .i64 rs,.int .i64 x.2]
theorem Qdl (rk rs:Int)(x:Int×Int):(rmC rk rs x).length=4:=rfl
abbrev RmO (base:Nat)(w:World)(v:Value)(rk rs:Int)(l:List (Int×Int)):Prop:=w.ownsRow base 269 4 v l.length (l.flatMap (rmC rk rs))
theorem RmO.snoc {base:Nat}{w:World}{v:Value}{rk rs:Int}{l:List (Int×Int)}{x:Int×Int}(h:w.ownsRow base 269 4 v (l.length+1) (l.flatMap (rmC rk rs)++rmC rk rs x)):RmO base w v rk rs (l++[x]):=by
 unfold RmO;rw[Lj,LC];simpa using h
theorem QgM {a:QO}{ul:LI}{lf:Lf}{k:Nat}(h:k<a.ed.length):(a.ed.take (k+1)).foldl (Kp ul lf) []=Kp ul lf ((a.ed.take k).foldl (Kp ul lf) []) (a.ed[k]'h):=by
 rw[Le h,Mn];rfl
set_option maxHeartbeats 4000000 in
theorem Qgq {w:World}{bp:Nat}{q:Pz}{lf:Lf}(T:PzA [] w.heap bp q)(hq:PzQ q)(hB:QT w.heap q.bl 4 (lf.map Value.bool))(hl:lf.length=q.n)(rk:Int):
  QE prog 190 [.pointer (some ⟨bp,0,none⟩),.int .i64 rk] w λr w'=>Step [] w w'∧RmO w.heap.size w' r rk 2 (lost q.a q.unc lf):=by
 have hn:=hq.n;have hT:=hq.ok.ed_le;refine QE.of_W func190 O ntmps190 results190 (by simp) ?_;refine Qc<|Qe<|Qc<|Qe<|Qg<|Qc<|Qb<|x (QG O)<|x (Qa O)<|x (Qa O)<|x (Qd T.B O O)<|x (Qr T.a.ed O)<|Qb<|xe ?_
 refine Qh<|QA (α:=Nat×Value) [(5,5),(7,8),(15,72)] (λz=>[(5,z.2),(15,.int .i64 z.1)]) (λz w'=>z.1≤q.a.ed.length∧Step [] w w'∧RmO w.heap.size w' z.2 rk 2 ((q.a.ed.take z.1).foldl (Kp q.unc lf) [])) (λz=>q.a.ed.length - z.1) (by rfl) (0,nS) ⟨O,O,Z⟩ ⟨Ll _,Step.refl _ _,QP _ _ _ _⟩ ?_;rintro⟨k,vo⟩ g w1 ⟨hk,hg,I⟩;simp only[]at hk I
 have hh:=(qP (a:=q.a) (ul:=q.unc) (lf:=lf) (q.a.ed.take k) [] (λe he=>LR he) (λp hp=>by cases hp)).2;rw[Ly]at hh;refine Qc<|x (Qz O O)<|xe<|Qg<|QC O (λhi=>?_) (λhi=>?_)
 ·refine Qy ?_;have h9:q.a.ed.length≤k:=by have U:¬(k:Int)<(q.a.ed.length:Int):=hi;omega
  rw[Ln h9]at I;refine Qc<|Qb<|Qe ?_;exact Qk ⟨[_],La,hg,I⟩
 refine Qi ?_;have G:k<q.a.ed.length:=by have U:(k:Int)<(q.a.ed.length:Int):=hi;omega
 have hC:=hq.ok.ed _ (Li G);have E:=QgM (ul:=q.unc) (lf:=lf) G;refine Zb ((q.a.ed.take k).foldl (Kp q.unc lf) []) λout hD=>?_;rw[hD]at I E hh;refine Zb (q.a.ed[k]'G) λe he=>?_;rw[he]at hC E;simp only[List.length_nil]at hh;have hE:e.1=(e.1.toNat:Int):=by omega
 have hF:e.2.2=(e.2.2.toNat:Int):=by omega
 have hG:=Ut (l:=lf) (s:=e.1) (by omega);have hH:=Ut (l:=lf) (s:=e.2.2) (by omega);have hI:=T.ext hg;refine Qg<|Qh<|Qc<|xie hI.a.ed O O G λhU U=>?_;rw[he]at U;refine x (QI U O O)<|xl O<|Qu (us:=[.int .i64 0,.int .i64 0,.int .i64 0]) O λb7 w2 hJ hK H=>xl O<|Qo (us:=QD e) H O O O O ⟨O,O,O,Z⟩ λw3 hL V=>xe ?_;have h1:Step [] w1 w3:=hJ.then1 hL hK
 have hj:=hg.trans h1;have Y:=T.ext hj;have h2:=hB.ext hj;have hM:=Qs I h1;refine Qg<|QX (α:=Bool) [(19,47)] (λz=>[(47,.bool z)]) (λz w'=>Step [] w3 w'∧(z=true↔(lft lf e.1=false∨lft lf e.2.2=true∨e.2.1∉q.unc))) (by rfl) ?_ ?_
 ·refine QV (Step [] w3) [(0,true),(1,true),(2,true),(3,true),(4,true),(5,true),(6,true),(7,true),(8,true),(9,true),(10,true),(11,true),(12,true),(13,true),(14,true),(15,true),(16,true),(17,true),(18,true),(19,true),(20,true),(21,true),(22,true),(23,true),(24,true),(25,true),(26,false),(27,true),(28,true)] mixed (by rfl) (by kernel_rfl) (Step.drew _ _) ?_
  refine p (λ_=>Qm)<|p (λ_=>QG O)<|p (λ_=>Qa O)<|pq (λ_ hc=>Qd (Y.B.ext hc) O O)<|p (λ_=>Qa O)<|pq (λ_ hc=>Qd (V.ext hc) O O) <|
   p (λ_=>QS (i:=e.1.toNat) O (congrArg (Value.int .i64) hE) (by omega))<|pq (v:=.bool (lft lf e.1)) (λ_ hc=>(Jg (i:=e.1.toNat) (h2.ext hc) O (by omega)).trans (by rw[hG]))<|pB (λ_=>Zq rfl) (λJ=>?_) (λJ=>?_)
  ·refine p (λ_=>Qm)<|ps<|ps<|ps<|ps<|ps<|ps<|ps<|ps<|p (λ_=>Qq O)<|p (λ_=>Qm)<|ps<|ps<|ps<|ps<|ps<|ps<|ps<|ps<|p (λ_=>Qq O)<|pe ?_;exact⟨_,La,Step.drew _ _,by simp at J;simp[J]⟩
  refine p (λ_=>Qm)<|p (λ_=>Qm)<|p (λ_=>QG O)<|p (λ_=>Qa O)<|pq (λ_ hc=>Qd (Y.B.ext hc) O O)<|p (λ_=>Qa O)<|pq (λ_ hc=>Qd (V.ext hc) O O) <|
   p (λ_=>QS (i:=e.2.2.toNat) O (congrArg (Value.int .i64) hF) (by omega))<|?_
  refine pqB (b:=lft lf e.2.2) (λ_ hc=>(Jg (i:=e.2.2.toNat) (h2.ext hc) O (by omega)).trans (by rw[hH])) (λhm=>?_) (λhm=>?_)
  ·refine p (λ_=>Qq O)<|p (λ_=>Qm)<|ps<|ps<|ps<|ps<|ps<|ps<|ps<|ps<|p (λ_=>Qq O)<|pe ?_;exact⟨_,La,Step.drew _ _,by simp[hm]⟩
  refine p (λ_=>Qq O)<|p (λ_=>Qm)<|p (λ_=>Qm)<|p (λ_=>QG O)<|p (λ_=>Qa O)<|pq (λ_ hc=>Qd (Y.B.ext hc) O O) <|
   p (λ_=>Qa O)<|pq (λ_ hc=>Qd (V.ext hc) O O)<|pk<|xf<|(Yb (Y.u.ext (Step.drew _ _)) e.2.1).mono ?_
  rintro r4 w4 ⟨rfl,rfl⟩;refine⟨Step.drew _ _,?_⟩;refine p (λ_=>qG O)<|p (λ_=>Qq O)<|pe ?_;exact⟨_,La,Step.drew _ _,by simp at J;simp[J,hm]⟩
 rintro z g w4 ⟨ho,hz⟩;have h3:=hj.trans ho;have hr:=Qs hM ho;have H:=V.ext ho;refine QY rfl (λha=>?_) (λha=>?_)
 ·refine Qy ?_;have e1:Kp q.unc lf out e=out:=by unfold Kp;rw[if_pos (hz.1 ha)]
  rw[e1]at E;refine Qx<|QM O O<|Qb<|xe ?_;exact⟨(k+1,vo),by simp only[];omega,⟨O,O,Z⟩,G,h3,by simp only[];rw[E];exact hr⟩
 refine Qi ?_;have h4:¬(lft lf e.1=false∨lft lf e.2.2=true∨e.2.1∉q.unc):=λh=>by rw[hz.2 h]at ha;cases ha
 have h5:Zv [] w4.heap vo out.length 4 (out.flatMap (rmC rk 2)):=QW hr (by omega) (by simp);refine Qg<|Qc<|Qb<|x (Qr h5 O)<|Qe<|QX (α:=Bool) [(50,62)] (λz=>[(62,.bool z)]) (λz w'=>Step [] w4 w'∧(z=true↔out.getLast?.map (·.1)=some e.1)) (by rfl) ?_ ?_
 ·refine QV (Step [] w4) [(0,true),(1,true),(2,true),(3,true),(4,true),(5,true),(6,true),(7,true),(8,true),(9,true),(10,true),(11,true),(12,true)] mixed (by rfl) (by kernel_rfl) (Step.drew _ _) ?_;refine p (λ_=>Qm)<|pb (λ_=>ZL O O) (λhs=>?_) (λhs=>?_)
  ·have hV:0<out.length:=by have hN:(0:Int)<(out.length:Int):=hs;omega
   have h6:out.getLast?=some (out[out.length - 1]'(by omega)):=by rw[List.getLast?_eq_getElem?,Lz]
   refine Zb (out[out.length - 1]'(by omega)) λy hy=>?_;rw[hy]at h6;refine p (λ_=>Qm)<|p (λ_=>Qm)<|p (λ_=>Qm)<|p (λ_=>Jf O O ⟨by omega,by omega⟩)<|Go.Lg.pig (g:=rmC rk 2) (i:=out.length - 1) O (Qdl rk 2) h5 O (congrArg (Value.int .i64) (show(out.length:Int) - 1=((out.length - 1:Nat):Int) by omega)) (by omega) λhW h7=>?_;rw[hy]at h7
   refine p (λ_=>Zg O)<|pq (λ_ hc=>Qv ((h7.fld 0 (.int .i64 y.1) O).ext hc) O)<|p (λ_=>Qa O)<|pq (λ_ hc=>Qd (H.ext hc) O O) <|
    p (λ_=>Zl O O)<|p (λ_=>Qq O)<|pe ?_
   exact⟨_,La,Step.drew _ _,by rw[h6];simp⟩
  have h0:out=[]:=Lr (by have hN:¬(0:Int)<(out.length:Int):=hs;omega);refine p (λ_=>Qm)<|ps<|ps<|ps<|ps<|ps<|ps<|ps<|ps<|ps<|p (λ_=>Qq O)<|pe ?_;exact⟨_,La,Step.drew _ _,by simp[h0]⟩
 rintro z2 g w5 ⟨ht,h8⟩;have hu:=h3.trans ht;have hv:=Qs hr ht;have H:=H.ext ht;refine QY rfl (λhf=>?_) (λhf=>?_)
 ·refine Qy ?_;have e1:Kp q.unc lf out e=out:=by unfold Kp;rw[if_neg h4,if_pos (h8.1 hf)]
  rw[e1]at E;refine Qx<|QM O O<|Qb<|xe ?_;exact⟨(k+1,vo),by simp only[];omega,⟨O,O,Z⟩,G,hu,by simp only[];rw[E];exact hv⟩
 refine Qi ?_;have hO:¬out.getLast?.map (·.1)=some e.1:=λh=>by rw[h8.2 h]at hf;cases hf
 have e1:Kp q.unc lf out e=out++[(e.1,e.2.1)]:=by unfold Kp;rw[if_neg h4,if_neg hO]
 rw[e1]at E;refine Qx<|Qb<|x (Qa O)<|x (Qd H O O)<|Qb<|x (Qa O)<|x (Qd H O O)<|x (QN ⟨O,O,O,O,Z⟩) <|
  xl rfl<|QF (us:=[rmC rk 2 (e.1,e.2.1)]) O O (by decide) (by simp) ⟨rfl,rfl,Z⟩ λhX w6 hw hY hP =>
  xl rfl<|Q5 (m:=1) (news:=rmC rk 2 (e.1,e.2.1)) (Qs hv hw) O O O (hP.at (L:=[]) (by simp)) (by simp[Value.oneCell']) (by omega) (by have:=hu.size;have:=hw.size;omega) λhQ w7 hR hS hZ=>Qe<|Qx<|QM O O<|Qb<|xe ?_
 exact⟨(k+1,hQ),by simp only[];omega,⟨O,O,Z⟩,G,(hu.trans hw).then hS (λb hb=>.inr (Qp hv b hb).1),by simp only[];rw[E];exact RmO.snoc hR⟩
theorem jc (lf:Lf)(d:Int):∀(l:LI) (i:Nat),JW lf i (l++[d])=JW lf i l++if lf.getD (i+l.length) false=true∧d<0 then[((i+l.length:Nat):Int)]else[]
 | [],i=>by
  simp only[List.nil_append,JW,List.length_nil,Nat.add_zero]
 | a::l,i=>by
  have ih:=jc lf d l (i+1);rw[show i+1+l.length=i+(a::l).length by simp;omega]at ih;simp only[List.cons_append,JW,ih];by_cases h:lf.getD i false=true∧a<0
  ·rw[if_pos h,if_pos h,Mh]
  rw[if_neg h,if_neg h]
abbrev blP (l:LI):List (Int×Int):=l.map λs=>(s,-1)
set_option maxHeartbeats 4000000 in
theorem QaQ {w:World}{bp:Nat}{q:Pz}{lf:Lf}(hA:PzA [] w.heap bp q)(hq:PzQ q)(hB:QT w.heap q.bl 4 (lf.map Value.bool))(hl:lf.length=q.n)(rk:Int):
  QE prog 191 [.pointer (some ⟨bp,0,none⟩),.int .i64 rk] w λr w'=>Step [] w w'∧RmO w.heap.size w' r rk 3 (blP (JW lf 0 (dsts q.a lf)))∧(JW lf 0 (dsts q.a lf)).length≤q.n:=by
 have hn:=hq.n;have h0:=hq.ok.st1;refine QE.of_W func191 O ntmps191 results191 (by simp) ?_;refine Qc<|Qe<|Qc<|Qe<|Qg<|Qc<|Qb<|xl O<|xf<|(V6 hA hq hB hl).mono ?_;rintro r1 T ⟨hf,b,rfl,hb,hg,U⟩;refine Zb (dsts q.a lf) λD hD=>?_;rw[hD]at hg U ⊢;have hh:QH [] T.heap (.slice (some ⟨b,0,none⟩) q.n q.n) D:=by
  have h:=hg.arr (L:=[]) (by simp) (n:=q.n) (cap:=q.n) (sz:=1) (by simp[U]) (by omega) (Lt _);unfold QH;rw[U];exact h
 refine x (Qr hh O)<|Qb<|xe<|Qh<|QA (α:=Nat×Value) [(5,7),(11,33)] (λz=>[(5,z.2),(11,.int .i64 z.1)]) (λz w'=>z.1≤D.length∧Step [] T w'∧RmO T.heap.size w' z.2 rk 3 (blP (JW lf 0 (D.take z.1)))) (λz=>D.length - z.1) (by rfl) (0,nS) ⟨O,O,Z⟩ ⟨Ll _,Step.refl _ _,QP _ _ _ _⟩ ?_;rintro⟨k,vo⟩ g w2 ⟨hk,I,E⟩;simp only[]at hk E;have hi:=(Ud lf (D.take k) 0).2
 rw[Ly]at hi;have V:=hf.trans I;refine Qc<|x (Qz O O)<|xe<|Qg<|QC O (λY=>?_) (λY=>?_)
 ·refine Qy ?_;have hm:D.length≤k:=by have ho:¬(k:Int)<(D.length:Int):=Y;omega
  rw[Ln hm]at E;refine Qc<|Qb<|Qe ?_;exact Qk ⟨[_],La,V,Zc E hf.size,by have:=(Ud lf D 0).2;omega⟩
 refine Qi ?_;have G:k<D.length:=by have ho:(k:Int)<(D.length:Int):=Y;omega
 have hp:D.take (k+1)=D.take k++[D[k]'G]:=Le G;have H:=jc lf (D[k]'G) (D.take k) 0;rw[←hp,Ly,LO,M0 (by omega)]at H;refine Zb (D[k]'G) λd hd=>?_;rw[hd]at H;refine Zb (JW lf 0 (D.take k)) λout hr=>?_;rw[hr]at H E hi;have ha:k<lf.length:=by omega
 have hs:lf[k]'ha=lf.getD k false:=by simp[List.getD,ha]
 have ht:=hA.ext V;refine Qg<|Qh<|Qc<|Qb<|xii (i:=k) (hh.ext I) O O G λh1 hj=>?_;rw[hd]at hj;refine x (Qv hj O)<|x Qf<|Qe<|QX (α:=Bool) [(16,26)] (λz=>[(26,.bool z)]) (λz w'=>w'=w2∧(z=true↔lf.getD k false=true∧d<0)) (by rfl) ?_ ?_
 ·refine Qx<|Qb<|x (QG O)<|x (Qa O)<|x (Qd ht.B O O)<|Qb<|x (QS (i:=k) O O (by omega))<|xB (b:=lf.getD k false) ((Jg (i:=k) (hB.ext V) O ha).trans (by rw[hs])) (λhc=>?_) (λhc=>?_)
  ·refine Qb<|Qb<|x (Qz O O)<|x (Qq O)<|xe ?_;exact⟨_,La,O,by rw[hc];simp⟩
  refine Qb<|xs O<|xs O<|x (Qq O)<|xe ?_;exact⟨_,La,O,by rw[hc];simp⟩
 rintro z g w3 ⟨rfl,hz⟩;refine QY rfl (λJ=>?_) (λJ=>?_)
 ·rw[if_pos (hz.1 J)]at H;refine Qx<|Qb<|Qb<|Qb<|x (QN ⟨O,O,O,O,Z⟩)<|xl O<|QF (us:=[rmC rk 3 ((k:Int),-1)]) O O (by decide) (by simp) ⟨rfl,rfl,Z⟩ λh2 w4 he h3 hu =>
   xl rfl<|Q5 (m:=1) (news:=rmC rk 3 ((k:Int),-1)) (Qs E he) O O O (hu.at (L:=[]) (by simp)) (by simp[Value.oneCell']) (by rw[Lh];omega) (by have:=I.size;have:=he.size;omega) λhv w5 hw hy h4=>Qe<|Qx<|QM O O<|Qb<|xe ?_
  refine⟨(k+1,hv),by simp only[];omega,⟨O,O,Z⟩,G,(I.trans he).then hy (λb hb=>.inr (Qp E b hb).1),?_⟩;simp only[];rw[H,show blP (out++[(k:Int)])=blP out++[((k:Int),-1)] by simp];exact RmO.snoc hw
 rw[if_neg (λh=>by rw[hz.2 h]at J;cases J),LK]at H;refine Qi<|Qx<|QM O O<|Qb<|xe ?_;exact⟨(k+1,vo),by simp only[];omega,⟨O,O,Z⟩,G,I,by simp only[];rw[H];exact E⟩
theorem Qgp {w:World}{bp:Nat}{q:Pz}{lf:Lf}(T:PzA [] w.heap bp q)(hq:PzQ q)(U:QT w.heap q.bl 4 (lf.map Value.bool))(hl:lf.length=q.n)(rk:Int):
  QE prog 147 [.pointer (some ⟨bp,0,none⟩),.int .i64 rk,.bool true] w λr w'=>Step [] w w'∧∃rs l,RmO w.heap.size w' r rk rs l∧l.map (·.1)=nxs q.a q.unc lf∧l.length≤1000000:=by
 have ha:=(jK q.a q.unc lf).2;have hf:=hq.ok.ed_le;have hn:=hq.n;have hg:=hq.ok.st1;have E:nxs q.a q.unc lf=if(lost q.a q.unc lf).length≠0 then(lost q.a q.unc lf).map (·.1)else JW lf 0 (dsts q.a lf):=rfl
 refine QE.of_W func147 O ntmps147 results147 (by simp) ?_;refine Qc<|Qe<|Qg<|Qc<|Qb<|Qb<|xl O<|xf<|(Qgq T hq U hl rk).mono ?_;rintro r1 w1 ⟨G,I⟩;refine Zb (lost q.a q.unc lf) λL hL=>?_;rw[hL]at I E ha;refine Qe<|QX (α:=Bool) [(11,17)] (λz=>[(17,.bool z)]) (λz w'=>w'=w1∧(z=true↔L.length≠0)) (by rfl) ?_ ?_
 ·refine Qx<|Qb<|x (Qr (L:=[]) (QW I (by omega) (by simp)) rfl)<|xb (ZL rfl rfl) (λJ=>?_) (λJ=>?_)
  ·refine Qb<|xs O<|xs O<|x (Qq O)<|xe ?_;exact⟨_,La,O,by have V:(0:Int)<(L.length:Int):=J;simp;intro e;subst e;simp at V⟩
  refine Qb<|Qb<|x (Zq O)<|x (Qq O)<|xe ?_;have V:¬(0:Int)<(L.length:Int):=J;have hb:L.length=0:=by omega
  exact⟨_,La,O,by rw[hb];simp⟩
 rintro z g w2 ⟨rfl,Y⟩;refine QY rfl (λH=>?_) (λH=>?_)
 ·rw[if_pos (Y.1 H)]at E;refine Qc<|Qb<|Qe ?_;exact Qk ⟨[_],La,G,2,L,I,E.symm,by omega⟩
 rw[if_neg (λh=>by rw[Y.2 h]at H;cases H)]at E;refine Qi<|Qc<|Qb<|Qb<|xl O<|xf<|(QaQ (T.ext G) hq (U.ext G) hl rk).mono ?_;rintro r3 w3 ⟨hc,he,hh⟩;refine Qe<|Qk ⟨[_],La,G.trans hc,3,_,Zc he G.size,?_,?_⟩
 ·rw[E,MG];exact List.map_id _
 rw[Lh];omega
structure KG (base:Nat)(w:World)(n:Nat)(f:Nat→Value)(g:Nat→List Ed):Prop where
 own:∀i,i<n→Z2 129 base w (f i) (g i)
 dj:∀i j,i<n→j<n→i≠j→Dj (f i) (f j)
theorem KG.app {base n i:Nat}{w w':World}{f:Nat→Value}{g:Nat→List Ed}{v':Value}{l:List Ed}(h:KG base w n f g)(hi:i<n)(H:Z2 129 base w' v' l)(hs:Step (ob (f i)) w w')
  (I:∀b∈ob v',b∈ob (f i)∨w.heap.size≤b):KG base w' n (J3 f i v') (J3 g i l):=by
 refine⟨λj hj=>?_,λj k hj hk E=>?_⟩
 ·by_cases e:j=i
  ·subst e;rw[ZZ,ZZ];exact H
  rw[Yo _ _ e,Yo _ _ e];exact Ql (h.own j hj) hs (h.dj j i hj hi e)
 have key:∀j,j<n→j≠i→Dj v' (f j):=λj hj e b hb G=>by
  rcases I b hb with h1|h1
  ·exact h.dj i j hi hj (Ne.symm e) b h1 G
  have:=Q3 (h.own j hj) b G;omega
 by_cases e1:j=i
 ·subst e1;rw[ZZ,Yo _ _ (Ne.symm E)];exact key k hk (Ne.symm E)
 rw[Yo _ _ e1];by_cases e2:k=i
 ·subst e2;rw[ZZ];exact(key j hj e1).symm
 rw[Yo _ _ e2];exact h.dj j k hj hk E
theorem KG.step {base n:Nat}{X:LN}{w w':World}{f:Nat→Value}{g:Nat→List Ed}(h:KG base w n f g)(hs:Step X w w')(E:∀i,i<n→∀b∈ob (f i),b∉X):KG base w' n f g :=
 ⟨λi hi=>Ql (h.own i hi) hs (E i hi),h.dj⟩
theorem KG.ext {base n:Nat}{w w':World}{f:Nat→Value}{g:Nat→List Ed}(h:KG base w n f g)(hs:Step [] w w'):KG base w' n f g:=h.step hs (λ_ _ _ _=>by simp)
def zY (es:List Ed)(s:Nat):List Ed:=ZC es (s:Int)
theorem QeC (es:List Ed)(e:Ed)(E:0≤e.1):J3 (zY es) e.1.toNat (zY es e.1.toNat++[e])=zY (es++[e]):=by
 funext s;unfold zY ZC;rw[L2];by_cases h:s=e.1.toNat
 ·subst h;rw[ZZ];have:e.1=(e.1.toNat:Int):=by omega
  simp[←this]
 rw[Yo _ _ h];have:¬e.1=(s:Int):=by omega
 simp[this]
theorem QaK (es:List Ed)(s:Nat):(zY es s).length≤es.length:=Jw es _
def QcZ (num:LI)(m:List (Int×Value)):Prop:=∀s:Nat,s<num.length→mget m (s:Int)=if cget num s<0 then none else some (.int .i64 (cget num s))
theorem KR (l:LI)(k:Int):Zr l k=cget l k.toNat:=rfl
structure J8 (b4 mb:Nat)(r2:Value)(wS:World)(c:Cs)(m:List (Int×Value))(vo vk ve:Value)(w:World):Prop where
 st:Step [b4,mb] wS w
 B4:QT w.heap b4 50 [r2,.int .i64 0,vk,ve]
 M:ZI Jp w.heap mb m
 nm:QcZ c.num m
 o:Qt 3 wS.heap.size w vo c.ord
 k:Qt 3 wS.heap.size w vk c.mk'
 e:Z2 129 wS.heap.size w ve c.ed
 d1:Dj vo vk
 d2:Dj vo ve
 d3:Dj vk ve
section
variable {b4 mb:Nat}{r2:Value}{wS:World}{c:Cs}{m:List (Int×Value)}{vo vk ve:Value}{w w' w'':World}
theorem J8.ext (h:J8 b4 mb r2 wS c m vo vk ve w)(hs:Step [] w w'):J8 b4 mb r2 wS c m vo vk ve w' :=
 ⟨h.st.trans hs,h.B4.ext hs,h.M.ext hs,h.nm,Qs h.o hs,Qs h.k hs,Qs h.e hs,h.d1,h.d2,h.d3⟩
theorem J8.setK (h:J8 b4 mb r2 wS c m vo vk ve w)(T:b4<wS.heap.size)(lm:mb<wS.heap.size)(ne:mb≠b4){G:Value}{l:LI}(hs:Step (ob vk) w w')(H:Qt 3 wS.heap.size w' G l)
  (I:∀b∈ob G,b∈ob vk∨w.heap.size≤b) (E:Step [b4] w' w'') (J:QT w''.heap b4 50 [r2,.int .i64 0,G,ve]):J8 b4 mb r2 wS ⟨c.ord,c.num,l,c.ed⟩ m vo G ve w'' :=
 ⟨(h.st.then hs (λb hb=>.inr (Qp h.k b hb).1)).then E (λb hb=>.inl (by simp at hb;simp[hb])),J,(h.M.step hs (QR h.k lm)).step E (by simpa using ne),h.nm,
  Ql (Ql h.o hs h.d1) E (λb hb=>by have:=(Qp h.o b hb).1;simp;omega),Ql H E (λb hb=>by have:=(Qp H b hb).1;simp;omega),
  Ql (Ql h.e hs h.d3.symm) E (λb hb=>by have:=(Qp h.e b hb).1;simp;omega),h.d1.grow I (Q3 h.o),h.d2,(h.d3.symm.grow I (Q3 h.e)).symm⟩
theorem J8.setE (h:J8 b4 mb r2 wS c m vo vk ve w)(J:b4<wS.heap.size)(lm:mb<wS.heap.size)(ne:mb≠b4){ve':Value}{l:List Ed}(hs:Step (ob ve) w w')(G:Z2 129 wS.heap.size w' ve' l)
  (H:∀b∈ob ve',b∈ob ve∨w.heap.size≤b) (E:Step [b4] w' w'') (I:QT w''.heap b4 50 [r2,.int .i64 0,vk,ve']):J8 b4 mb r2 wS ⟨c.ord,c.num,c.mk',l⟩ m vo vk ve' w'' :=
 ⟨(h.st.then hs (λb hb=>.inr (Qp h.e b hb).1)).then E (λb hb=>.inl (by simp at hb;simp[hb])),I,(h.M.step hs (QR h.e lm)).step E (by simpa using ne),h.nm,
  Ql (Ql h.o hs h.d2) E (λb hb=>by have:=(Qp h.o b hb).1;simp;omega),Ql (Ql h.k hs h.d3) E (λb hb=>by have:=(Qp h.k b hb).1;simp;omega),
  Ql G E (λb hb=>by have:=(Qp G b hb).1;simp;omega),h.d1,h.d2.grow H (Q3 h.o),h.d3.grow H (Q3 h.k)⟩
theorem J8.setN (h:J8 b4 mb r2 wS c m vo vk ve w)(lm:mb<wS.heap.size)(ne:mb≠b4){l:LI}{G:List (Int×Value)}(E:Step [mb] w w')(H:ZI Jp w'.heap mb G)(hm:QcZ l G):J8 b4 mb r2 wS ⟨c.ord,l,c.mk',c.ed⟩ G vo vk ve w' :=
 ⟨h.st.then E (λb hb=>.inl (by simp at hb;simp[hb])),h.B4.step E (by simpa using ne.symm),H,hm,Ql h.o E (λb hb=>by have:=(Qp h.o b hb).1;simp;omega),
  Ql h.k E (λb hb=>by have:=(Qp h.k b hb).1;simp;omega),Ql h.e E (λb hb=>by have:=(Qp h.e b hb).1;simp;omega),h.d1,h.d2,h.d3⟩
theorem J8.setO (h:J8 b4 mb r2 wS c m vo vk ve w)(H:b4<wS.heap.size)(lm:mb<wS.heap.size){E:Value}{l:LI}(hs:Step (ob vo) w w')(I:Qt 3 wS.heap.size w' E l)
  (G:∀b∈ob E,b∈ob vo∨w.heap.size≤b):J8 b4 mb r2 wS ⟨l,c.num,c.mk',c.ed⟩ m E vk ve w' :=
 ⟨h.st.then hs (λb hb=>.inr (Qp h.o b hb).1),h.B4.step hs (QR h.o H),h.M.step hs (QR h.o lm),h.nm,I,Ql h.k hs h.d1.symm,Ql h.e hs h.d2.symm,
  (h.d1.symm.grow G (Q3 h.k)).symm,(h.d2.symm.grow G (Q3 h.e)).symm,h.d3⟩
end
theorem QcZ.set {num:LI}{m:List (Int×Value)}(h:QcZ num m){k:Nat}(hk:k<num.length){v:Int}(E:0≤v):QcZ (num.set k v) (mput m (k:Int) (.int .i64 v)):=by
 intro s hs;rw[MD]at hs;rw[JB];by_cases e:s=k
 ·subst e;have:cget (num.set s v) s=v:=by unfold cget;simp[List.getD,hk]
  rw[if_pos rfl,this,if_neg (by omega)]
 rw[if_neg (by omega)];have:cget (num.set k v) s=cget num s:=by unfold cget;simp[List.getD,List.getElem?_set_ne (Ne.symm e)]
 rw[this];exact h s hs
theorem Qaz (i:Nat)(c:Cs)(m:LI)(e:Ed):Zj i ⟨c.ord,c.num,m,c.ed⟩ e=⟨(Zj i c e).ord,(Zj i c e).num,m,(Zj i c e).ed⟩∧(Zj i c e).mk'=c.mk':=by
 unfold Zj;split <;> exact⟨O,O⟩
theorem jR (i:Nat):∀(l:List Ed) (c:Cs) (m:LI),l.foldl (Zj i) ⟨c.ord,c.num,m,c.ed⟩=⟨(l.foldl (Zj i) c).ord,(l.foldl (Zj i) c).num,m,(l.foldl (Zj i) c).ed⟩∧(l.foldl (Zj i) c).mk'=c.mk'
 | [],c,m=>⟨O,O⟩
 | e::l,c,m=>by
  have h1:=Qaz i c m e;have h2:=jR i l (Zj i c e) m;rw[LM,LM,h1.1,h2.1];exact⟨O,h2.2.trans h1.2⟩
theorem yk (i:Nat)(c:Cs)(e:Ed):∃r,(Zj i c e).ord=c.ord++r:=by
 unfold Zj;split
 ·exact⟨_,rfl⟩
 exact⟨[],by simp⟩
theorem Qbc (i:Nat):∀(l:List Ed) (c:Cs),∃r,(l.foldl (Zj i) c).ord=c.ord++r
 | [],c=>⟨[],by simp⟩
 | e::l,c=>by
  obtain⟨E,h1⟩:=yk i c e;obtain⟨r2,h2⟩:=Qbc i l (Zj i c e);exact⟨E++r2,by rw[LM,h2,h1,LB]⟩
theorem QeD {a:QO}{i:Nat}{c:Cs}(hi:i<c.ord.length):UW a i c=ZS a i ((ZC a.ed (cget c.ord i)).foldl (Zj i) c):=by
 unfold UW;rw[KR,L9];obtain⟨r,E⟩:=Qbc i (ZC a.ed (cget c.ord i)) c;have hm:=(jR i (ZC a.ed (cget c.ord i)) c c.mk').2;unfold ZS;have G:Zr ((ZC a.ed (cget c.ord i)).foldl (Zj i) c).ord (i:Int)=Zr c.ord (i:Int):=by
  rw[KR,KR,E];simp only[Int.toNat_natCast];exact zx hi
 rw[G];split
 ·rw[(jR i _ c _).1,hm]
 rfl
set_option maxHeartbeats 8000000 in
theorem qJ {w:World}{bp:Nat}{q:Pz}{lf:Lf}(hA:PzA [] w.heap bp q)(hq:PzQ q)(hB:QT w.heap q.bl 4 (lf.map Value.bool))(hl:lf.length=q.n):
  QE prog 151 [.pointer (some ⟨bp,0,none⟩)] w λr w'=>Step [] w w'∧∃v o,r=.tuple #[v,o]∧Y2 w.heap.size w'.heap v (J5 q.a lf)∧o.oneCell'=true:=by
 have hn:=hq.n;have hst1:=hq.ok.st1;have kf:=hq.ok.ed_le;have pc:=KM hq.ok lf;have V:J5 q.a lf=if q.a.st=0∨lft lf 0=false then⟨q.a.al,0,[],[]⟩else YJ (rstr q.a lf):=rfl
 refine Zb (J5 q.a lf) λSA pd=>?_;rw[pd]at V ⊢;refine QE.of_W func151 O ntmps151 results151 (by simp) ?_;refine Qc<|xl O<|Qu (us:=[nS,.int .i64 0,nS,nS]) O λb2 w1 kg hb2 h8=>Qe ?_;have hl2:=h8.lt;have kh:=hA.ext kg;refine Qc<|Qb<|x (QG O)<|x (Qa O)<|x (Qa O)<|x (Qd kh.B O O)<|xl O<|xf<|(Yv kh.a.al).mono ?_;rintro r2 w2 ⟨hL,hv⟩;have hz2:=hL.size
 have hM:=Qt.ints (L:=[]) hv hA.a.al.le (by simp);refine x (QN ⟨hM.cells,Z⟩)<|xl O<|Qu (us:=[nS,.int .i64 0,nS,nS]) O λb4 w3 pf pg h9 =>
  xl rfl<|Qo (us:=[r2,.int .i64 0,nS,nS]) h9 O O O O ⟨hM.one,O,O,O,Z⟩ λw4 ph h9=>xe ?_
 have T:Step [] w2 w4:=pf.then1 ph pg;have Y:=kg.trans hL;have hC:=Y.trans T;have hl4:=h9.lt;have hz24:=T.size;have gi:=hA.ext hC;have pj:∀b∈ob r2,b<w2.heap.size:=Q3 hv;refine Qg<|QX (α:=Bool) [(22,36)] (λz=>[(36,.bool z)]) (λz w'=>w'=w4∧(z=true↔(q.a.st=0∨lft lf 0=false))) (by rfl) ?_ ?_
 ·refine Qx<|Qb<|x (QG O)<|x (Qa O)<|x (Qa O)<|x (Qd gi.B O O)<|xb (Zl O O) (λgj=>?_) (λgj=>?_)
  ·refine Qb<|xs O<|xs O<|xs O<|xs O<|xs O<|xs O<|xs O<|x (Qq O)<|xe ?_;exact⟨_,La,O,by simp[gj]⟩
  have gk:(0:Int).toNat<lf.length:=by
   have:0<q.n:=by omega
   simp;omega
  have gl:=Ut (l:=lf) (s:=0) gk;refine Qb<|Qb<|x (QG O)<|x (Qa O)<|x (Qd gi.B O O)<|x (QS (i:=0) O O (by simp at gk;omega))<|x (v:=.bool (lft lf 0)) ((Jg (i:=0) (hB.ext hC) O gk).trans (by rw[←gl];rfl))<|x (Zq O)<|x (Qq O)<|xe ?_;exact⟨_,La,O,by simp[gj]⟩
 rintro z g w4 ⟨rfl,hz⟩;refine QY rfl (λhN=>?_) (λhN=>?_)
 ·rw[if_pos (hz.1 hN)]at V;subst V;refine Qc<|x (Qn h9 O O)<|xl O<|Qo (us:=[r2,.int .i64 0,nS,nS]) ((h8.ext hL).ext T) O O O O ⟨hM.one,O,O,O,Z⟩ λw6 hD h8=>Qe<|Qk ⟨[.agg #[r2,.int .i64 0,nS,nS],nS],⟨⟨_,O,Qw O (h8.at (L:=[]) (by simp)).cells⟩,rfl,Z⟩,hC.then1 hD (by omega),_,_,rfl,?_,rfl⟩;have pn:=Ql (Qs hv T) hD (λb hb=>by have:=(Qp hv b hb).1;simp;omega)
  exact⟨r2,_,_,O,λL' hE=>⟨Qt.ints pn hA.a.al.le (λb hb=>by have:=hE b hb;omega),Zv.nil _ _ _,Zv.nil _ _ _⟩⟩
 have ki:¬(q.a.st=0∨lft lf 0=false):=λh=>by rw[hz.2 h]at hN;cases hN
 rw[if_neg ki]at V;have po:0<q.a.st:=by have:=hq.ok.st0;omega
 have kj:(rstr q.a lf).st.toNat=q.n:=by show q.a.st.toNat=q.n;omega
 unfold YJ at V;rw[if_neg (show ¬(rstr q.a lf).st=0 from λh=>ki (.inl h)),kj]at V;simp only[]at V;refine Qi<|Qc<|Qb<|x (QG O)<|x (Qa O)<|x (Qa O)<|x (Qd gi.B O O)<|xl O<|XB (n:=q.n) (congrArg (Value.int .i64) hn) (congrArg (Value.int .i64) hn) (by omega) λbE w6 hD pp gm=>Qe ?_;rw[QaJ]at gm;have hlE:=gm.lt;have pt:=hC.trans hD;have kk:=hA.ext pt
 refine Qg<|Qc<|Qb<|x (QG O)<|x (Qa O)<|x (Qa O)<|x (Qd kk.B O O)<|x (Qr kk.a.ed O)<|Qb<|xe<|Qh<|QA (α:=Nat×(Nat→Value)) [(7,7),(50,74)] (λz=>[(50,.int .i64 z.1)]) (λz w'=>z.1≤q.a.ed.length∧Step [bE] w6 w'∧QT w'.heap bE 48 ((List.range q.n).map z.2)∧KG w6.heap.size w' q.n z.2 (zY ((q.a.ed.take z.1).filter λe=>lft lf e.2.2))) (λz=>q.a.ed.length - z.1) (by rfl) (0,λ_=>nS) La
  ⟨Ll _,Step.refl _ _,gm,⟨λi _=>QP _ _ _ _,λi j _ _ _=>Dj.nil _⟩⟩ ?_
 rintro⟨k,rv⟩ g w7 ⟨hk,hO,gn,U⟩;simp only[]at hk gn U;have hF:Step [] w4 w7:=hD.then1 hO pp;have go:=hC.trans hF;have hz7:=hO.size;have kn:=hA.ext go;refine Qc<|x (Qz O O)<|xe<|Qg<|QC O (λgq=>?_) (λgq=>?_)
 ·refine Qy ?_;have pu:q.a.ed.length≤k:=by have hP:¬(k:Int)<(q.a.ed.length:Int):=gq;omega
  rw[Ln pu]at U;have U:KG w6.heap.size w7 q.n rv (zY (rstr q.a lf).ed):=U;have ko:(rstr q.a lf).ed.length≤q.a.ed.length:=L3 _ _;refine Qc<|xl O<|Z0 Jp λmb w8 gr pw pz=>xl O<|Yi (k:=(0:Int)) pz O O λE gs kp=>Qb<|Qe ?_;have H:Step [] w7 E:=gr.then1 gs pw;have p0:=H.size;have hQ:=kp.lt
  refine Qc<|xl O<|QF (us:=[[.int .i64 0]]) O O (by decide) (by simp) ⟨rfl,rfl,Z⟩ λkq gt hw hb77 p4=>Qe<|Qg<|Qc<|Qe ?_;have gu:mb≠b4:=by omega
  have hG:b4<E.heap.size:=by omega
  have p5:=go.trans H;have gv:∀b∈[b4,mb],w2.heap.size≤b:=λb hb=>by simp only[List.mem_cons,List.not_mem_nil,or_false]at hb;omega
  have p6:PzA [b4,mb] E.heap bp q:=((hA.ext Y).up (λb hb=>.inr (gv b hb))).ext (T.trans (hF.trans H));have hlw:=hB.lt;have kr:∀s,s<q.n→qm [b4,mb] E.heap (rv s) (zY (rstr q.a lf).ed s):=λs hs=>QW (Qs (U.own s hs) H) (by have:=QaK (rstr q.a lf).ed s;omega) (λb hb hm=>by
   have h1:=(Qp (U.own s hs) b hb).1;have h2:=Q3 (U.own s hs) b hb;simp only[List.mem_cons,List.not_mem_nil,or_false]at hm;omega)
  have hH:=gn.ext H;have kt:∀b,b<w2.heap.size→b∉[b4,mb]:=λb hb hm=>by have:=gv b hm;omega
  have p7:bE∉[b4,mb]:=by simp only[List.mem_cons,List.not_mem_nil,or_false];omega
  have hblw:q.bl<w2.heap.size:=by omega
  have p8:QT E.heap b4 50 [r2,.int .i64 0,nS,nS]:=((h9.ext hF)).ext H;have p9:QT E.heap b2 50 [nS,.int .i64 0,nS,nS]:=((h8.ext hL).ext T).ext (hF.trans H);have qc:=Qs hv (T.trans (hF.trans H));have qf:Qt 3 E.heap.size gt (.slice (some ⟨kq,0,none⟩) 1 1) [0]:=p4.own (n:=1) (sz:=1) O (by omega) (by omega)
  have ku:QcZ (Yj (rstr q.a lf)).num (mput [] (0:Int) (.int .i64 0)):=by
   have h0:QcZ (List.replicate q.n (-1)) ([]:List (Int×Value)):=λs hs=>by
    have ql:s<q.n:=by simpa using hs
    have:cget (List.replicate q.n (-1)) s=-1:=by unfold cget;simp[List.getD,ql]
    rw[this];rfl
   have h1:=h0.set (k:=0) (by simp;omega) (v:=0) (Nf _);unfold Yj;rw[kj];exact h1
  have gx:∀e∈(rstr q.a lf).ed,0≤e.1∧e.1<q.a.st∧0≤e.2.2∧e.2.2<q.a.st:=λe he=>by have:=pc.ed e he;exact⟨this.1,this.2.1,this.2.2.2.1,this.2.2.2.2⟩
  have kv:VA q.a.st (Yj (rstr q.a lf)):=Qee (a:=rstr q.a lf) po;have kw:(rstr q.a lf).mr=q.a.mr:=rfl;refine Zb (rstr q.a lf) λR hR=>?_;rw[hR]at V kr ku gx kv kw ko;have qo:R.al=q.a.al:=by rw[←hR];rfl
  have hnN:q.a.st.toNat=q.n:=by omega
  refine Qh<|QA (α:=Nat×Cs×List (Int×Value)×Value×Value×Value) [(9,10),(12,14),(78,142)] (λz=>[(9,z.2.2.2.1),(10,.int .i64 z.1)])
   (λz w'=>J8 b4 mb r2 E z.2.1 z.2.2.1 z.2.2.2.1 z.2.2.2.2.1 z.2.2.2.2.2 w'∧z.1≤z.2.1.ord.length∧VA q.a.st z.2.1∧z.2.1.mk'.length≤z.1∧z.2.1.ed.length≤z.1*131072∧Xh R (q.n - z.1) z.1 z.2.1=Xh R q.n 0 (Yj R)) (λz=>q.n - z.1) (by rfl)
   (0,Yj R,mput [] (0:Int) (.int .i64 0),.slice (some ⟨kq,0,none⟩) 1 1,nS,nS) ⟨O,O,Z⟩
   ⟨⟨hw.any,p8.ext hw,kp.ext hw,ku,qf,QP _ _ _ _,QP _ _ _ _,Dj.nil' _,Dj.nil' _,Dj.nil' _⟩,Ll _,kv,Ll _,Ll _,O⟩ ?_
  rintro⟨i,c,m,vo,vk,ve⟩ g qr ⟨I,hi,hc,q0,q4,gy⟩;simp only[]at I hi hc q0 q4 gy;have hcle:=hc.le;have hS:=Qt.ints (L:=[]) I.o (by omega) (by simp);refine Qg<|Qc<|Qb<|Qb<|x (Qr hS O)<|x (Qz O O)<|xe<|QC O (λq5=>?_) (λq5=>?_)
  ·refine Qy ?_;have q9:c=Xh R q.n 0 (Yj R):=by rw[←gy,y8 (by omega)]
   refine Qc<|Qb<|x (Qr hS O)<|x (Qa O)<|xl O<|QB I.B4 O O (by simp) rfl λhj Y hf=>xe ?_;have j1:=Qt.ints (L:=[]) I.k (by omega) (by simp);have j2:=Z2.eds (L:=[]) I.e (by have:=hc.el;omega) (by simp)
   refine Qc<|x (Qn hf O O)<|Qb<|xl O<|Qo (us:=[r2,.int .i64 c.ord.length,vk,ve]) ((p9.step I.st (kt _ (by omega))).step Y (by simp;omega)) O O O O ⟨hM.one,O,j1.one,j2.one,Z⟩ λj3 hT j4=>Qe ?_;have kx:Step [b4,mb] E hj:=I.st.then Y (λb hb=>.inl (by simp at hb;simp[hb]));have za:Step [] w j3:=(p5.then kx (λb hb=>.inr (by have:=gv b hb;omega))).then1 hT (by omega)
   refine Qk ⟨[.agg #[r2,.int .i64 c.ord.length,vk,ve],vo],⟨⟨_,O,Qw O (j4.at (L:=[]) (by simp)).cells⟩,rfl,Z⟩,za,_,_,rfl,?_,hS.one⟩;rw[←q9]at V;subst V;have k1:=Ql (Ql I.k Y (λb hb=>by have:=(Qp I.k b hb).1;simp;omega)) hT (λb hb=>by have:=(Qp I.k b hb).1;simp;omega)
   have k2:=Ql (Ql I.e Y (λb hb=>by have:=(Qp I.e b hb).1;simp;omega)) hT (λb hb=>by have:=(Qp I.e b hb).1;simp;omega);have k3:=Ql (Ql qc kx (λb hb=>kt b (pj b hb))) hT (λb hb=>by have:=(Qp hv b hb).1;simp;omega)
   exact⟨r2,vk,ve,O,λL' hE=>⟨by rw[qo];exact Qt.ints k3 hA.a.al.le (λb hb=>by have:=hE b hb;omega),Qt.ints k1 (by show c.mk'.length≤_;omega) (λb hb=>by have:=hE b hb;omega),Z2.eds k2 (by show c.ed.length≤_;have:=hc.el;omega) (λb hb=>by have:=hE b hb;omega)⟩⟩
  have G:i<c.ord.length:=by omega
  refine Qi ?_;have kz:=Zm G;have hsr:=hc.ord _ (X4 G);have hh:=QeD (a:=R) G;refine Zb (cget c.ord i) λs0 k0=>?_;rw[k0]at kz hsr hh;have k5:s0=(s0.toNat:Int):=by omega
  have gz:s0.toNat<q.n:=by omega
  have zb:zY R.ed s0.toNat=ZC R.ed s0:=by unfold zY;rw[←k5]
  have hU:=kr s0.toNat gz;rw[zb]at hU;have zv:=Jw R.ed s0;have k6:∀e∈ZC R.ed s0,0≤e.2.2∧e.2.2<q.a.st:=λe he=>⟨(gx e (Ys he).1).2.2.1,(gx e (Ys he).1).2.2.2⟩;refine Zb (ZC R.ed s0) λos z0=>?_;rw[z0]at hU zv k6 hh;refine Qg<|Qh<|Qg<|Qc<|Qb<|Qb<|Qb<|xii (i:=i) hS O O G λa87 k7=>?_;rw[kz]at k7
  refine x (Qv k7 O)<|x (QS (i:=s0.toNat) O (congrArg (Value.int .i64) k5) gz)<|x (Qd (u:=rv s0.toNat) (hH.step I.st p7) O (VL gz))<|x (Qr (hU.st I.st) O)<|Qb<|xe<|Qh<|QA (α:=Nat×Cs×List (Int×Value)×Value×Value) [(9,9),(12,14),(92,126)] (λz=>[(9,z.2.2.2.1),(92,.int .i64 z.1)])
   (λz w'=>J8 b4 mb r2 E z.2.1 z.2.2.1 z.2.2.2.1 vk z.2.2.2.2 w'∧z.1≤os.length∧VA q.a.st z.2.1∧z.2.1.mk'=c.mk'∧z.2.1.ed.length=c.ed.length+z.1∧(∃r,z.2.1.ord=c.ord++r)∧(os.drop z.1).foldl (Zj i) z.2.1=os.foldl (Zj i) c) (λz=>os.length - z.1) (by rfl) (0,c,m,vo,ve) ⟨O,O,Z⟩
   ⟨I,Ll _,hc,O,O,⟨[],by simp⟩,rfl⟩ ?_
  rintro⟨k4,d,m4,hV,hW⟩ g hj ⟨hg,z2,J,g0,k8,hX,hy⟩;simp only[]at hg z2 J g0 k8 hX hy;have hcle4:=J.le;have z3:=Qt.ints (L:=[]) hg.o (by omega) (by simp);have g1:i<d.ord.length:=by obtain⟨r,hr⟩:=hX;rw[hr,Lj];omega
  have k9:cget d.ord i=s0:=by obtain⟨r,hr⟩:=hX;rw[hr,zx G];exact k0
  refine Qc<|x (Qz O O)<|xe<|Qg<|QC O (λz4=>?_) (λz4=>?_)
  ·refine Qy ?_;rw[Ls (by omega),Nz]at hy;rw[←hy]at hh;have ma:=p6.st hg.st;have z9:d.ord[i]'g1=s0:=by rw[Zm g1];exact k9
   have hmkC:ZS R i d=if s0∈q.a.mr then⟨d.ord,d.num,d.mk'++[(i:Int)],d.ed⟩else d:=by
    unfold ZS;rw[KR,L9,k9,kw]
   rw[hmkC]at hh;have hY:Xh R (q.n - (i+1)) (i+1) (UW R i c)=Xh R q.n 0 (Yj R):=by
    rw[←gy];obtain⟨t,ht⟩:∃t,q.n - i=t+1:=⟨q.n - i - 1,by omega⟩;rw[ht,Xh,if_pos G,show q.n - (i+1)=t by omega]
   have hm4l:=congrArg List.length g0;refine Qg<|QV (Step [] hj) [(0,true),(1,true),(2,true),(3,true),(4,true),(5,true),(6,true),(7,true),(8,true),(9,false)] mixed (by rfl) (by kernel_rfl) (Step.drew _ _) ?_;refine p (λ_=>Qm)<|p (λ_=>QG O)<|p (λ_=>Qa O)<|p (λ_=>Qa O)<|pq (λ_ hc=>Qd (ma.B.ext hc) O O)<|p (λ_=>Qm) <|
    p (λ_=>Qm)<|pii (i:=i) O z3 O O g1 λa134 mc=>?_
   rw[z9]at mc;refine pq (λ_ hc=>Qv (mc.ext hc) O)<|pk<|xf<|(Yb (ma.a.mr.ext (Step.drew _ _)) s0).mono ?_;rintro r16 w16 ⟨rfl,rfl⟩;refine⟨Step.drew _ _,pe ?_⟩;have ha:=hg.ext (Step.drew [] hj);refine QC O (λg2=>?_) (λg2=>?_)
   ·rw[if_neg g2]at hh;refine Qi<|Qx<|Qb<|QM O O<|Qe ?_;rw[hh]at hY;exact⟨(i+1,d,m4,hV,vk,hW),by simp only[];omega,⟨O,O,Z⟩,ha,by simp only[];omega,J,by simp only[];omega,by simp only[];omega,hY⟩
   rw[if_pos g2]at hh;refine Qx<|x (Qa O)<|x (Qd ha.B4 O O)<|Qb<|xl O<|QF (us:=[[.int .i64 i]]) O O (by decide) (by simp) ⟨rfl,rfl,Z⟩ λb140 w17 hs17 hb140 hB140=>?_;have hJ:=ha.ext hs17;refine xl O<|Q5 (news:=[.int .i64 i]) (L:=[]) hJ.k O O O (hB140.at (by simp)) (by simp[Value.oneCell']) (by omega) hJ.st.size λmf w18 mg mh hn18=>?_
   have hk18:Qt 3 E.heap.size w18 mf (d.mk'++[(i:Int)]):=Qt.snoc mg;refine x (Qa O)<|xl O<|QB (hJ.B4.step mh (QR hJ.k hG)) O O (by simp) (QK mg) λw19 hs19 hB19=>xe ?_;have hI19:=hJ.setK hG hQ gu mh hk18 hn18 hs19 hB19;refine Qx<|Qb<|QM O O<|Qe ?_;rw[hh]at hY
   exact⟨(i+1,⟨d.ord,d.num,d.mk'++[(i:Int)],d.ed⟩,m4,hV,mf,hW),by simp only[];omega,⟨O,O,Z⟩,hI19,by simp only[];omega,⟨J.nl,J.sum,J.ord,J.num,J.el⟩,by simp only[List.length_append,List.length_singleton];omega,by simp only[];omega,hY⟩
  refine Qi ?_;have hZ:k4<os.length:=by omega
  have hdr:=Q9 hZ;rw[hdr,LM]at hy;have g3:=k6 _ (Li hZ);refine Zb (os[k4]'hZ) λe he=>?_;rw[he]at hy g3;have ga:e.2.2=(e.2.2.toNat:Int):=by omega
  have gb:e.2.2.toNat<d.num.length:=by rw[J.nl];omega
  have mj:=hg.nm e.2.2.toNat gb;rw[←ga]at mj;have mo:Zr d.num e.2.2=cget d.num e.2.2.toNat:=rfl;refine Qg<|Qh<|Qc<|xie (hU.st hg.st) O O hZ λa94 mq=>?_;rw[he]at mq;refine x (QI mq O O)<|xl O<|Qu (us:=[.int .i64 0,.int .i64 0,.int .i64 0]) O λg4 w20 hs20 g5 hf=>xl O<|Qo (us:=QD e) hf O O O O ⟨O,O,O,Z⟩ λgc hs21 hf=>xe ?_;have ms:Step [] hj gc:=hs20.then1 hs21 g5
  have ha:=hg.ext ms;have hl12:=hf.lt;have hz21:=ms.size;have hIz:=hg.st.size;have hc5:VA q.a.st (Zj i d e):=Qay J g3.1 g3.2 (by have:=J.el;omega);have mt:Zj i d e=⟨(Z1 d e).ord,(Z1 d e).num,(Z1 d e).mk',(Z1 d e).ed++[((i:Int),e.2.1,Zr (Z1 d e).num e.2.2)]⟩:=qt gb
  refine QX (α:=Value) [(13,14),(96,102)] (λz=>[(13,.int .i64 (if cget d.num e.2.2.toNat<0 then 0 else cget d.num e.2.2.toNat)),(14,.bool (!decide (cget d.num e.2.2.toNat<0)))]) (λz w'=>w'=gc) (by rfl) ?_ ?_
  ·refine Qx<|Qb<|x (Qa O)<|x (Qd hf O O)<|x (v:=.tuple #[.int .i64 (if cget d.num e.2.2.toNat<0 then 0 else cget d.num e.2.2.toNat),.bool (!decide (cget d.num e.2.2.toNat<0))]) ((Kk (k:=e.2.2) ha.M O O).trans (congrArg (λv=>Result.ok (Next.value v) _) ?_))<|Qb<|x (Qj O O)<|x (Qj O O)<|x Qf<|Qe ?_
   ·rw[mj];by_cases ho:cget d.num e.2.2.toNat<0
    ·simp[ho]
    simp[ho]
   exact⟨.bool true,⟨O,O,Z⟩,O⟩
  rintro z5 g gc rfl;refine QX (α:=Value×List (Int×Value)×Int) [(9,9),(13,13),(103,115)] (λz=>[(9,z.1),(13,.int .i64 z.2.2)]) (λz w'=>cget (Z1 d e).num e.2.2.toNat=z.2.2∧J8 b4 mb r2 E (Z1 d e) z.2.1 z.1 vk hW w'∧QT w'.heap g4 129 (QD e)∧gc.heap.size≤w'.heap.size) (by rfl) ?_ ?_
  ·refine Qc<|Qb<|x (Zq O)<|xe<|QY O (λg6=>?_) (λg6=>?_)
   ·have ho:cget d.num e.2.2.toNat<0:=by simpa using g6
    have hK:Z1 d e=⟨d.ord++[e.2.2],d.num.set e.2.2.toNat d.ord.length,d.mk',d.ed⟩:=by unfold Z1;rw[mo,if_pos ho]
    have hcg:cget (Z1 d e).num e.2.2.toNat=(d.ord.length:Int):=by rw[hK];unfold cget;simp[List.getD,gb]
    refine Qc<|Qb<|x (Qr (Qt.ints (L:=[]) ha.o (by omega) (by simp)) rfl)<|Qe<|Qc<|Qb<|x (Qa rfl)<|x (Qd hf rfl rfl)<|Qb<|xl rfl<|YI (k:=e.2.2) ha.M rfl rfl λw22 g7 hM22=>xe ?_;have mu:=ha.nm.set gb (v:=(d.ord.length:Int)) (by omega);rw[←ga]at mu;have hI6:=ha.setN hQ gu g7 hM22 mu;have ge:=hf.step g7 (by simp;omega)
    refine Qx<|Qb<|x (Qa O)<|x (Qd ge O O)<|xl O<|QF (us:=[[.int .i64 e.2.2]]) O O (by decide) (by simp) ⟨rfl,rfl,Z⟩ λb114 w23 g8 hb114 hB114=>?_;have g9:=hI6.ext g8;refine xl O<|Q5 (news:=[.int .i64 e.2.2]) (L:=[]) g9.o O O O (hB114.at (by simp)) (by simp[Value.oneCell']) (by show d.ord.length+1≤_;omega) g9.st.size λmv w24 ho24 T hn24=>Qe ?_
    have hk24:Qt 3 E.heap.size w24 mv (d.ord++[e.2.2]):=Qt.snoc ho24;have hb12o:g4∉ob hV:=λhb=>by have:=Q3 hg.o g4 hb;omega
    have h3:=g9.setO hG hQ T hk24 hn24;have:=g7.size;have:=g8.size;have:=T.size;refine⟨(mv,mput m4 e.2.2 (.int .i64 d.ord.length),(d.ord.length:Int)),⟨O,O,Z⟩,hcg,?_,(ge.ext g8).step T hb12o,by omega⟩;simp only[];rw[hK];exact h3
   have ho:¬cget d.num e.2.2.toNat<0:=by simpa using g6
   have hK:Z1 d e=d:=by unfold Z1;rw[mo,if_neg ho]
   have kf:(if cget d.num e.2.2.toNat<0 then 0 else cget d.num e.2.2.toNat)=cget (Z1 d e).num e.2.2.toNat:=by rw[hK,if_neg ho]
   refine Qi<|⟨(hV,m4,if cget d.num e.2.2.toNat<0 then 0 else cget d.num e.2.2.toNat),⟨O,O,Z⟩,kf.symm,?_,hf,Lt _⟩
   rw[hK];exact ha
  rintro⟨vo5,m5,tn⟩ g w25 ⟨mw,h3,ge,hz25⟩;simp only[]at h3 mw;have mx:(Z1 d e).ed=d.ed:=by unfold Z1;split <;> rfl
  have hgN:Zr (Z1 d e).num e.2.2=cget (Z1 d e).num e.2.2.toNat:=rfl;rw[hgN,mx,mw]at mt;have heN:Z2 129 E.heap.size w25 hW d.ed:=by have:=h3.e;rw[mx]at this;exact this
  refine Qx<|x (Qa O)<|x (Qd h3.B4 O O)<|Qb<|x (Qa O)<|x (Qd ge O O)<|Qb<|x (QN ⟨O,O,O,Z⟩) <|
   xl rfl<|QF (us:=[QD ((i:Int),e.2.1,tn)]) O O (by decide) (by exact(by decide:1*3≤1000000)) ⟨O,O,Z⟩ λb123 w26 my hb123 hB123=>?_
  have gg:=h3.ext my;refine xl O<|Q5 (m:=1) (news:=QD ((i:Int),e.2.1,tn)) (L:=[]) (Qs heN my) O O O (hB123.at (by simp)) (λu hu=>by simp only[QD,List.mem_cons,List.not_mem_nil,or_false]at hu;rcases hu with rfl|rfl|rfl <;> rfl) (by have:=J.el;omega) gg.st.size λmz w27 m0 m1 hn27=>?_
  have hk27:Z2 129 E.heap.size w27 mz (d.ed++[((i:Int),e.2.1,tn)]):=Z2.snoc m0;refine x (Qa O)<|xl O<|QB (gg.B4.step m1 (QR gg.e hG)) O O (by simp) (QK m0) λw28 hs28 hB28=>xe ?_;have m2:=gg.setE hG hQ gu m1 hk27 hn27 hs28 hB28;rw[←mt]at m2;refine Qx<|QM O O<|Qb<|xe<|⟨(k4+1,Zj i d e,m5,vo5,mz),by simp only[];omega,⟨O,O,Z⟩,m2,by simp only[];omega,hc5,?_,?_,?_,hy⟩
  ·simp only[];rw[←g0];exact(Qaz i d [] e).2
  ·simp only[];rw[QaA,k8];omega
  simp only[];obtain⟨r1,h1⟩:=yk i d e;obtain⟨r2',h2⟩:=hX;exact⟨r2'++r1,by rw[h1,h2,LB]⟩
 refine Qi ?_;have G:k<q.a.ed.length:=by have hP:(k:Int)<(q.a.ed.length:Int):=gq;omega
 have m3:=hq.ok.ed _ (Li G);have htk:q.a.ed.take (k+1)=q.a.ed.take k++[q.a.ed[k]'G]:=Le G;have h4:(q.a.ed.take (k+1)).filter (λe=>lft lf e.2.2)=(q.a.ed.take k).filter (λe=>lft lf e.2.2)++if lft lf (q.a.ed[k]'G).2.2=true then[q.a.ed[k]'G]else[]:=by
  rw[htk,L2];congr 1;by_cases h:lft lf (q.a.ed[k]'G).2.2=true
  ·simp[h]
  simp[h]
 have hfll:((q.a.ed.take k).filter (λe=>lft lf e.2.2)).length≤k:=LJ (L3 _ _) (by rw[Ly];omega);refine Zb ((q.a.ed.take k).filter (λe=>lft lf e.2.2)) λkept hkept=>?_;rw[hkept]at h4 U hfll;refine Zb (q.a.ed[k]'G) λe he=>?_;rw[he]at m3 h4;have m6:e.1=(e.1.toNat:Int):=by omega
 have ga:e.2.2=(e.2.2.toNat:Int):=by omega
 have gl:=Ut (l:=lf) (s:=e.2.2) (by omega);have hp:e.1.toNat<q.n:=by omega
 refine Qg<|Qh<|Qc<|xie kn.a.ed O O G λa52 hP=>?_;rw[he]at hP;refine x (QI hP O O)<|xl O<|Qu (us:=[.int .i64 0,.int .i64 0,.int .i64 0]) O λb7 w8 gr hb7 h5=>xl O<|Qo (us:=QD e) h5 O O O O ⟨O,O,O,Z⟩ λE gs h5=>xe ?_;have H:Step [] w7 E:=gr.then1 gs hb7;have p0:=H.size;have hA9:=kn.ext H;have hB9:=hB.ext (go.trans H);have ka:=U.ext H;have hH:=gn.ext H
 refine Qg<|QV (Step [] E) [(0,true),(1,true),(2,true),(3,true),(4,true),(5,true),(6,true),(7,true)] mixed (by rfl) (by kernel_rfl) (Step.drew _ _) ?_;refine p (λ_=>Qm)<|p (λ_=>QG O)<|p (λ_=>Qa O)<|pq (λ_ hc=>Qd (hA9.B.ext hc) O O)<|p (λ_=>Qa O)<|pq (λ_ hc=>Qd (h5.ext hc) O O) <|
  p (λ_=>QS (i:=e.2.2.toNat) O (congrArg (Value.int .i64) ga) (by omega))<|pq (v:=.bool (lft lf e.2.2)) (λ_ hc=>(Jg (i:=e.2.2.toNat) (hB9.ext hc) O (by omega)).trans (by rw[gl]))<|pe ?_
 have h6:Step [] E { E with drawn:=E.drawn+1 }:=Step.drew _ _
 refine QY rfl (λkb=>?_) (λkb=>?_)
 ·rw[if_pos kb]at h4;have hrow:=ka.own _ hp;have kc:∀b∈ob (rv e.1.toNat),w6.heap.size≤b∧b<w7.heap.size:=λb hb=>⟨(Qp (U.own _ hp) b hb).1,Q3 (U.own _ hp) b hb⟩;have m7:bE∉ob (rv e.1.toNat):=λhb=>by have:=kc _ hb;omega
  have ke:b7∉ob (rv e.1.toNat):=λhb=>by have:=kc _ hb;omega
  have ko:=QaK kept e.1.toNat;refine QV (Step (ob (rv e.1.toNat)) E) [(0,true),(1,true),(2,true),(3,true),(4,true),(5,true),(6,true),(7,true),(8,true),(9,false),(10,false),(11,true),(12,false)] mixed (by rfl) (by kernel_rfl) (h6.any.trans' (Step.drew _ _)) ?_;refine p (λ_=>Qm)<|p (λ_=>Qa O)<|pq (λ_ hc=>Qd (h5.step hc ke) O O)<|p (λ_=>Qm)<|p (λ_=>Qa O) <|
   pq (λ_ hc=>Qd (h5.step hc ke) O O)<|p (λ_=>QS (i:=e.1.toNat) O (congrArg (Value.int .i64) m6) hp)<|pq (λ_ hc=>Qd (u:=rv e.1.toNat) (hH.step hc m7) O (VL hp)) <|
   pq (λ_ hc=>Qn (h5.step hc ke) O O)<|pk<|QF (us:=[QD e]) O O (by decide) (by exact(by decide:1*3≤1000000)) ⟨O,O,Z⟩ λb71 gt hw hb71 hB71=>⟨(h6.any.trans' (Step.drew _ _)).trans' hw.any,?_⟩
  have h7:Step [] E gt:=(h6.trans (Step.drew _ _)).trans hw;have hz10:=h7.size;refine pk<|Q5 (m:=1) (news:=QD e) (L:=[]) (Qs hrow h7) O O O (hB71.at (by simp)) (λu hu=>by simp only[QD,List.mem_cons,List.not_mem_nil,or_false]at hu;rcases hu with rfl|rfl|rfl <;> rfl) (by omega) (by omega) λvr qr m8 gh hn11=>⟨h7.any.trans' gh,?_⟩
  have hBE11:=(hH.ext h7).step gh m7;have hlen:((List.range q.n).map rv).length=q.n:=by simp
  refine p (λ_=>QS (i:=e.1.toNat) O (congrArg (Value.int .i64) m6) hp)<|pkl (hl:=by kernel_rfl)<|QB (j:=0+e.1.toNat*1) (u:=vr) hBE11 O O (by rw[hlen];omega) (QK m8) λhj Y hBE12=>pe ?_;have g5:QT hj.heap bE 48 ((List.range q.n).map (J3 rv e.1.toNat vr)):=by
   have e1:=Qar id q.n rv e.1.toNat vr;simp only[id]at e1;rw[←e1];simpa using hBE12
  have hvn:∀b∈ob vr,b∈ob (rv e.1.toNat)∨E.heap.size≤b:=λb hb=>(hn11 b hb).imp id (λh=>by omega);have m9:=ka.app hp (Z2.snoc m8) (h7.any.trans' gh) hvn;have pa:=m9.step Y (λi hi b hb=>by have:=(Qp (m9.own i hi) b hb).1;simp only[List.mem_singleton];omega);rw[QeC kept e m3.1,←h4]at pa;refine Qx<|QM O O<|Qb<|xe ?_
  exact⟨(k+1,J3 rv e.1.toNat vr),by simp only[];omega,La,G,(((hO.trans H).trans h7).then gh (λb hb=>.inr (kc b hb).1)).trans' Y,g5,pa⟩
 rw[if_neg (by rw[kb];decide),LK]at h4;refine Qi<|Qx<|QM O O<|Qb<|xe ?_;exact⟨(k+1,rv),by simp only[];omega,La,G,(hO.trans H).trans h6,(hH.ext h6),by simp only[];rw[h4];exact ka.ext h6⟩
open Go.Sort
abbrev Rz:={ x:Int×Int×Int×Int // 0≤x.1∧x.1<4096 }
instance:Inhabited Rz:=⟨⟨(0,0,0,0),by decide⟩⟩
abbrev qB (x:Rz):LV:=[.int .i64 x.1.1,.int .i64 x.1.2.1,.int .i64 x.1.2.2.1,.int .i64 x.1.2.2.2]
abbrev RzO (base:Nat)(w:World)(v:Value)(l:List Rz):Prop:=w.ownsRow base 269 4 v l.length (l.flatMap qB)
set_option maxHeartbeats 1000000 in
theorem Qno (x y:Rz)(W:World):Calls prog 149 #[.agg (qB x).toArray,.agg (qB y).toArray] W λe w'=>e=.returned (.int .i64 (x.1.1 - y.1.1))∧∃q os',w'=grow (W.drewN q) os':=by
 have E:IntKind.i64.wrap (x.1.1 - y.1.1)=x.1.1 - y.1.1:=Xl ⟨by have:=x.2;have:=y.2;omega,by have:=x.2;have:=y.2;omega⟩
 go_enter func149,ntmps149
 go_wp2
 go_ret;exact⟨by rw[←E];rfl,0,_,by rw[alloc_eq_grow,alloc_eq_grow,grow_grow];rfl⟩
theorem jr (x:Rz):(qB x).length=4:=rfl
theorem jq:∀l:List Rz,(l.flatMap qB).length=l.length*4
 | []=>rfl
 | x::l=>by rw[LH,Lj,jq l,jr,LG];omega
theorem Qdk {l:List Rz}{j:Nat}(hj:j<l.length*4):(l.flatMap qB)[j]?=some ((flatK qB 4 l.toArray)[j]!):=by
 have h1:j / 4<l.length:=Nat.div_lt_of_lt_mul (by omega);have h2:j % 4<4:=Nat.mod_lt _ (by decide);rw[get_flatK _ _ _ _ (by simpa using hj)];have h3:=Jl qB 4 jr l (j / 4) h1;have h4:(l.flatMap qB)[j]?=(qB (l[j / 4]'h1))[j % 4]?:=by
  rw[←h3,L1,if_pos h2,MB];congr 1;omega
 rw[h4];have h5:(l.toArray)[j / 4]! = l[j / 4]'h1:=by simp[h1]
 rw[h5];have E:j % 4<(qB (l[j / 4]'h1)).length:=h2;exact(Lz E).trans (congrArg some (getElem!_pos (qB (l[j / 4]'h1)) (j % 4) E).symm)
theorem Qlq:SWO (ltOf λx y:Rz=>x.1.1 - y.1.1) where
 irrefl x:=by unfold ltOf;simp
 trans x y z h1 h2:=by unfold ltOf at *;simp at *;omega
 ntrans x y z h1 h2:=by unfold ltOf at *;simp at *;omega
set_option maxHeartbeats 1000000 in
theorem Qey {w:World}{base:Nat}{v:Value}{l:List Rz}(h:RzO base w v l)(hl:l.length≤1099511627776):
  QE prog 148 [v,.func (.func 149) #[] #[]] w λ_ w'=>Step (ob v) w w'∧∃l',l'.length=l.length∧RzO base w' v l':=by
 unfold QE;rcases h.2 with⟨rfl,U⟩|⟨g,cap,cur,rfl,V,G,Y,ha,hb,hf⟩
 ·have hh:l=[]:=Lr U;subst hh;have hc:=AnyF.slices_SortFunc_none Tryz.sortRm none 0 (.func (.func 149) #[] #[]) w;change Calls prog 148 _ _ _ at hc;refine Calls.mono hc λe w' he=>?_;obtain⟨rfl,rfl⟩:=he;exact⟨Step.refl _ _,[],O,h⟩
 have J:g<w.heap.size:=(LD.1 G).1;have hH:HoldsK qB 4 w g 0 l.toArray:=by
  intro j hj;rw[size_flatK,L8]at hj;have h1:=Qdk hj;rw[←hf,L1,if_pos hj]at h1;constructor
  ·show(match w.heap[g]? with|some (.cells c _ _)=>if(none:Option _).isSome then none else c[0+j]?|_=>none)=_
   rw[G];simp only[Nat.zero_add,Option.isSome_none,Bool.false_eq_true,if_false];rw[←M2,h1];rfl
  show(match w.heap[g]? with|some (.cells _ _ (lo,hi))=>decide (lo≤0+j) && decide (0+j<hi)|_=>false)=false
  rw[G];simp
 have eg:∀args w,(callFunc 149 args).run prog w=.ok (.enter 149 args) w:=enters_of func149 (by kernel_rfl) O;have hc:=AnyQ.slices_SortFunc Tryz.sortRm 4 Tryz.isAgg269 Tryz.sizeOf269 qB jr (λx v T=>by simp at T;rcases T with rfl|rfl|rfl|rfl <;> rfl) (λx y=>x.1.1 - y.1.1) Qlq 149 #[] g 0 cap l.toArray w eg (λm os dk _ x y=>Qno x y _) hH J (by simp;omega)
 change Calls prog 148 _ _ _ at hc;rw[L8]at hc;refine Calls.mono hc λe w' he=>?_;obtain⟨rfl,E,n,os,hp,_,rfl⟩:=he;have H:E.size=l.length:=by have:=hp.1;simpa using this
 have I:(sortWorldK qB 4 w g 0 n E os).heap=w.heap.modify g (onCells (putCells id 0 (flatK qB 4 E)))++os:=rfl;refine⟨⟨rfl,O,O,?_,λk hk hn=>?_⟩,E.toList,by simpa using H,?_⟩
 ·rw[I,Array.size_append,MX];omega
 ·rw[I,MO,MX,if_pos hk,Nl,if_neg (λe=>hn (by simp[ob,e]))]
 refine⟨jq _,.inr ⟨g,cap,putCells id 0 (flatK qB 4 E) cur,by simp[H],V,?_,by simp[H];exact Y,ha,by simp[putCells,hb],?_⟩⟩
 ·rw[I,MO,MX,if_pos J,Nl,if_pos rfl,G];rfl
 apply Nq;intro j;rw[L1];by_cases hj:j<E.toList.length*4
 ·rw[if_pos hj,Qdk hj,M2];have hm:j<cur.size:=by simp[H]at hj;omega
  have ho:j<(flatK qB 4 E).size:=by simpa using hj
  simp only[putCells,Array.getElem?_mapIdx,Array.getElem?_eq_getElem hm,Option.map_some,Nat.zero_le,Nat.zero_add,true_and,if_pos ho,Nat.sub_zero,id]
 rw[if_neg hj,M4];rw[jq];omega
theorem QlA {a:QO}{ul:LI}{lf:Lf}{n:Nat}(E:Q2 a)(G:a.st=(n:Int))(hl:lf.length=n):∀x∈nxs a ul lf,0≤x∧x<(n:Int):=λx hx=>by
 have h1:=Qgy x hx;have h2:x.toNat<n:=by
  refine Decidable.byContradiction λh=>?_;unfold lft at h1;simp[List.getD,List.getElem?_eq_none (show lf.length≤x.toNat by omega)]at h1
 unfold nxs at hx;split at hx
 ·obtain⟨p,hp,rfl⟩:=Lx.1 hx;obtain⟨_,e,he,h3,_⟩:=(jK a ul lf).1 p hp;have:=E.ed e he;omega
 have:=((Ud lf (dsts a lf) 0).1 x hx).2;omega
theorem QkR {rk rs:Int}:∀(l:List (Int×Int)),(∀x∈l.map (·.1),0≤x∧x<4096)→∃lz:List Rz,lz.flatMap qB=l.flatMap (rmC rk rs)∧lz.length=l.length
 | [],_=>⟨[],O,O⟩
 | x::l,h=>by
  obtain⟨lz,h1,h2⟩:=QkR l (λy hy=>h y (Lk _ hy));exact⟨⟨(x.1,rk,rs,x.2),h x.1 Lp⟩::lz,by rw[LH,LH,h1],by simp[h2]⟩
theorem Qdx:∀l:List Rz,∀u∈l.flatMap qB,u.oneCell'=true
 | [],u,h=>by cases h
 | x::l,u,h=>by
  rw[LH,Lq]at h;rcases h with h|h
  ·simp only[qB,List.mem_cons,List.not_mem_nil,or_false]at h;rcases h with rfl|rfl|rfl|rfl <;> rfl
  exact Qdx l u h
theorem RzO.snoc {base:Nat}{w:World}{v:Value}{l m:List Rz}(h:w.ownsRow base 269 4 v (l.length+m.length) (l.flatMap qB++m.flatMap qB)):RzO base w v (l++m):=by
 unfold RzO;rw[Lj,LC];exact h
abbrev Xt (k d r:Value)(n:Int):LV:=[k,d,r,.int .i64 n,nS,.int .i64 0,nS,nS,nS]
structure ReI (b10:Nat)(q:Pz)(wB:World)(lf:Lf)(rn:Int)(vr:Value)(lz:List Rz)(w:World):Prop where
 st:Step [b10,q.bl] wB w
 B10:QT w.heap b10 120 (Xt (nS) (nS) vr rn)
 R:RzO wB.heap.size w vr lz
 F:QT w.heap q.bl 4 (lf.map Value.bool)
 n:lf.length=q.n
section
variable {b10:Nat}{q:Pz}{wB w w' w'':World}{lf:Lf}{rn:Int}{vr:Value}{lz:List Rz}
theorem ReI.ext (h:ReI b10 q wB lf rn vr lz w)(hs:Step [] w w'):ReI b10 q wB lf rn vr lz w':=⟨h.st.trans hs,h.B10.ext hs,Qs h.R hs,h.F.ext hs,h.n⟩
theorem ReI.cut (h:ReI b10 q wB lf rn vr lz w)(l:q.bl<wB.heap.size)(ne:b10≠q.bl)(hs:Step [q.bl] w w'){E:Lf}(G:QT w'.heap q.bl 4 (E.map Value.bool))(H:E.length=q.n):ReI b10 q wB E rn vr lz w' :=
 ⟨h.st.then hs (λb hb=>.inl (by simp only[List.mem_singleton]at hb;simp[hb])),h.B10.step hs (by simpa using ne),Ql h.R hs (λb hb=>by have:=(Qp h.R b hb).1;simp only[List.mem_singleton];omega),G,H⟩
theorem ReI.app (h:ReI b10 q wB lf rn vr lz w)(l:q.bl<wB.heap.size)(T:b10<wB.heap.size)(ne:b10≠q.bl){E:Value}{H:List Rz}{I:Int}(hs:Step (ob vr) w w')(hR:RzO wB.heap.size w' E H)(G:Step [b10] w' w'')
  (J:QT w''.heap b10 120 (Xt (nS) (nS) E I)):ReI b10 q wB lf I E H w'':=by
 have hge:=Qp h.R;exact⟨(h.st.then hs (λb hb=>.inr (hge b hb).1)).then G (λb hb=>.inl (by simp only[List.mem_singleton]at hb;simp[hb])),J,Ql hR G (λb hb=>by have:=(Qp hR b hb).1;simp only[List.mem_singleton];omega),
  (h.F.step hs (λhb=>by have:=(hge _ hb).1;omega)).step G (by simpa using ne.symm),h.n⟩
theorem ReI.rounds (h:ReI b10 q wB lf rn vr lz w)(I:b10<wB.heap.size)(ne:b10≠q.bl){G:Int}(E:Step [b10] w w')(H:QT w'.heap b10 120 (Xt (nS) (nS) vr G)):ReI b10 q wB lf G vr lz w' :=
 ⟨h.st.then E (λb hb=>.inl (by simp only[List.mem_singleton]at hb;simp[hb])),H,Ql h.R E (λb hb=>by have:=(Qp h.R b hb).1;simp only[List.mem_singleton];omega),h.F.step E (by simpa using ne.symm),h.n⟩
end
set_option maxHeartbeats 8000000 in
theorem yq {w:World}{va vm ve vf vu:Value}{a:QO}{forb unc:LI}(h:Zp [] w.heap va vm ve a)(hv:Q2 a)(hf:QH [] w.heap vf forb)(gu:∀x∈forb,0≤x∧x<a.st)(q9:forb.length≤4096)(hu:QH [] w.heap vu unc):
  QE prog 91 [.agg #[va,.int .i64 a.st,vm,ve],vf,vu,.bool true] w λr w'=>Step [] w w'∧∃c0 c1 c2 c3 sa sm se o,r=.agg #[c0,c1,c2,c3,sa,.int .i64 (J4 a forb unc).st,sm,se,o] ∧
   ZH [c0,c1,c2,c3,o]∧∀L:LN,(∀b∈L,b<w.heap.size)→Zp L w'.heap sa sm se (J4 a forb unc):=by
 have j1:=hv.st0;have j2:=hv.st1;obtain⟨n,hn⟩:∃n:Nat,a.st=n:=⟨a.st.toNat,by omega⟩;have kx:a.st.toNat=n:=by omega
 have hB:J4 a forb unc=J5 a (UX a unc (n+1) (lf0 n forb)):=by unfold J4 QeF;rw[kx]
 refine Zb (J4 a forb unc) λSA kz=>?_;rw[kz]at hB ⊢;refine QE.of_W func91 O ntmps91 results91 (by simp) ?_;refine Qc<|xl O<|QQ (us:=[va,.int .i64 a.st,vm,ve]) O λb4 w1 gv j3 k0=>xl O<|Qu (us:=Xt (nS) (nS) (nS) 0) O λb8 w2 gx j4 gy=>xe ?_;have hC:=gv.trans gx;have za:=gy.lt;have zb:=gv.size
 refine Qc<|x (Qn (k0.ext gx) O O)<|Qb<|Qb<|xl O<|xf<|(QfP (h.ext hC) hv hn (hf.ext hC) gu (hu.ext hC)).mono ?_;rintro r3 w3 ⟨gz,bp,q,rfl,k4,k5,k6,zv,hP,hF⟩;refine Qe ?_;subst k4 k5 k6;have hq:PzQ q:=⟨hv,hn⟩;have k7:=hC.trans gz;have z0:=hF.lt;refine Qc<|xl O<|Qu (us:=Xt (nS) (nS) (nS) 0) O λb10 I hw k8 g0=>xe ?_;have hU:=k7.trans hw;have z2:=hw.size
 have hE:=g0.lt;have he:b10≠q.bl:=by omega
 have hV:q.bl<I.heap.size:=by omega
 have k9:PzA [b10,q.bl] I.heap bp q:=(hP.up (λb hb=>by
  simp only[List.mem_cons,List.not_mem_nil,or_false]at hb;rcases hb with rfl|rfl
  ·exact .inr k8
  exact .inl (by simp))).ext hw
 have ma:=QjA q.n forb;have hz:∀{w'},Step [b10,q.bl] I w'→PzA [] w'.heap bp q:=λhs=>(k9.st hs).up (by simp);refine Qg<|Qc<|Qb<|x (Qr (hf.ext hU) O)<|Qb<|xe ?_
 refine Qh<|QA (α:=Nat×Int×Value×List Rz) [(12,12),(25,39)] (λz=>[(25,.int .i64 z.1)]) (λz w'=>z.1≤forb.length∧ReI b10 q I (lf0 q.n forb) z.2.1 z.2.2.1 z.2.2.2 w'∧z.2.2.2.length=z.1∧(z.2.1=0∨z.2.1=1)) (λz=>forb.length - z.1) (by rfl) (0,0,nS,[]) La
  ⟨Ll _,⟨Step.refl _ _,g0,QP _ _ _ _,hF.ext hw,ma⟩,O,.inl O⟩ ?_
 rintro⟨k,rn,vr,lz⟩ g w5 ⟨hk,G,hW,hG⟩;simp only[]at hk G hW hG;have mc:QH [] w5.heap vf forb:=((hf.up (L':=[b10,q.bl]) (λb hb=>by
  simp only[List.mem_cons,List.not_mem_nil,or_false]at hb;exact .inr (by omega))).ext hU |>.st G.st).up (by simp)
 refine Qc<|x (Qz O O)<|xe<|Qg<|QC O (λg1=>?_) (λg1=>?_)
 ·refine Qy ?_;have z3:=Qd5 (lf0 q.n forb);refine Qg<|Qc<|Qe<|Qh<|QA (α:=Nat×Nat×Int×Value×List Rz×Lf) [(13,14),(16,16),(40,71)] (λz=>[(13,.int .i64 z.2.1)])
   (λz w'=>ReI b10 q I z.2.2.2.2.2 z.2.2.1 z.2.2.2.1 z.2.2.2.2.1 w'∧z.2.1+z.1=q.n+3∧z.2.2.2.2.1.length≤4096+z.2.1*1000000∧UX q.a q.unc z.1 z.2.2.2.2.2=UX q.a q.unc (q.n+1) (lf0 q.n forb)∧K7 z.2.2.2.2.2+1≤z.1) (λz=>z.1) (by rfl)
   (q.n+1,2,rn,vr,lz,lf0 q.n forb) La ⟨G,by simp only[];omega,by simp only[];omega,O,by simp only[];omega⟩ ?_
  rintro⟨f,rank,rn,vr,lz,lf⟩ g w6 ⟨G,mf,hW,h3,mg⟩;simp only[]at G mf hW h3 mg;refine Qg<|Qh<|Qc<|Qb<|Qb<|Qb<|xl O<|xf<|(Qgp (hz G.st) hq G.F G.n rank).mono ?_;rintro r7 w7 ⟨hH,rs,l,hX,hJ,z4⟩;refine Qe ?_;have J:=G.ext hH;have g2:Zv [] w7.heap r7 l.length 4 (l.flatMap (rmC rank rs)):=QW hX (by omega) (by simp)
  have g3:(nxs q.a q.unc lf).length=l.length:=by rw[←hJ,Lh]
  have hY:=QlA (ul:=q.unc) hv hn G.n;rw[←hJ]at hY;refine Qg<|Qc<|Qb<|x (Qr g2 O)<|x (Zl O O)<|xe<|Q4 O (λhZ=>?_) (λhZ=>?_)
  ·refine Qy ?_;have hM:l.length=0:=by have z5:(l.length:Int)=0:=hZ;omega
   rw[QeE (by rw[g3];exact hM)]at h3;rw[←h3]at hB;refine Qc<|x (Qa O)<|x (Qa O)<|x (Qd J.B10 O O)<|xl O<|xf<|(Qey J.R (by omega)).mono ?_;rintro r8 T ⟨U,z9,_,mh⟩;refine xe ?_;have hge:=Qp J.R;have ga:Step [b10,q.bl] I T:=J.st.then U (λb hb=>.inr (hge b hb).1);have gb:QT T.heap b10 120 (Xt (nS) (nS) vr rn):=J.B10.step U (λhb=>by have:=(hge _ hb).1;omega)
   have g4:QT T.heap q.bl 4 (lf.map Value.bool):=J.F.step U (λhb=>by have:=(hge _ hb).1;omega);have g5:=QK mh;have hz8:=ga.size;refine Qg<|Qc<|Qb<|xl O<|xf<|(V6 (hz ga) hq g4 J.n).mono ?_;rintro r9 E ⟨V,bD,rfl,hbD,g6,hN⟩;refine Zb (dsts q.a lf) λD hD=>?_;rw[hD]at g6 hN;have g7:QH [b10] E.heap (.slice (some ⟨bD,0,none⟩) q.n q.n) D:=by
    have h1:=g6.arr (L:=[b10]) (by simp only[List.mem_singleton];omega) (n:=q.n) (cap:=q.n) (sz:=1) (by simp[hN]) (by omega) (Lt _);unfold QH;rw[hN];exact h1
   have mj:=ga.trans V;have hz9:=V.size;have mo:=g4.ext V;refine x (Qr g7 O)<|Qb<|xe<|Qh<|QA (α:=Nat×Value×Value×LI×LI) [(17,18),(79,107)] (λz=>[(79,.int .i64 z.1)])
    (λz w'=>z.1≤D.length∧Step [b10] E w'∧QT w'.heap b10 120 (Xt z.2.1 z.2.2.1 vr rn)∧Qt 3 E.heap.size w' z.2.1 z.2.2.2.1∧Qt 3 E.heap.size w' z.2.2.1 z.2.2.2.2∧Dj z.2.1 z.2.2.1∧z.2.2.2.1.length≤z.1∧z.2.2.2.2.length≤z.1) (λz=>D.length - z.1) (by rfl) (0,nS,nS,[],[]) La
    ⟨Ll _,Step.refl _ _,gb.ext V,QP _ _ _ _,QP _ _ _ _,Dj.nil' _,Lt _,Lt _⟩ ?_
   rintro⟨i,vk,vd,lk,ld⟩ g h4 ⟨hi,Y,h5,hK,hg,hO,mq,ms⟩;simp only[]at hi h5 hK hg hO mq ms;have hz10:=Y.size;have hQ:Step [b10,q.bl] I h4:=mj.then Y (λb hb=>.inl (by simp only[List.mem_singleton]at hb;simp[hb]));have g8:QT h4.heap q.bl 4 (lf.map Value.bool):=mo.step Y (by simpa using he.symm);refine Qc<|x (Qz O O)<|xe ?_
   refine Qg<|QC O (λg9=>?_) (λg9=>?_)
   ·refine Qy<|Qc<|Qb<|xl O<|xf<|(qJ (hz hQ) hq g8 J.n).mono ?_;rintro r11 mt ⟨hh,_,o,rfl,⟨sa,sm,se,rfl,gc⟩,ge⟩;rw[←hB]at gc;have hp:=gc [] (by simp);refine Qb<|x (Qj O O)<|x (Qj O O)<|x (Qa O)<|xl O<|Jy (us:=[sa,.int .i64 SA.st,sm,se]) (h5.ext hh) O (by rw[←hB];rfl) O (by simp) ⟨hp.al.one,rfl,hp.mr.one,hp.ed.one,Z⟩ rfl λw12 gg mu =>
     x (Qa rfl)<|xl O<|QB (j:=8) (u:=o) mu O O (by simp) ge λw13 gh mv=>xe ?_
    have mw:b8∉[b10,q.bl]:=by simp only[List.mem_cons,List.not_mem_nil,or_false];omega
    have ka:b8∉[b10]:=by simp only[List.mem_singleton];omega
    have mx:=(((((gy.ext (gz.trans hw)).step hQ mw).ext hh).step gg ka).step gh ka);refine Qc<|x (Qn mv O O)<|xl O<|Qo (us:=[vk,vd,vr,.int .i64 rn,sa,.int .i64 SA.st,sm,se,o]) mx O O O O ⟨QK hK,QK hg,g5,O,hp.al.one,O,hp.mr.one,hp.ed.one,ge,Z⟩ λmy kb mz=>xe ?_
    have m0:∀b∈[b10,q.bl],w.heap.size≤b:=λb hb=>by simp only[List.mem_cons,List.not_mem_nil,or_false]at hb;omega
    have m1:Step [] w my:=((((hU.then hQ (λb hb=>.inr (m0 b hb))).trans hh).then1 gg (by omega)).then1 gh (by omega)).then1 kb (by omega);refine Qk ⟨[.agg [vk,vd,vr,.int .i64 rn,sa,.int .i64 SA.st,sm,se,o].toArray],⟨⟨_,O,Qw O (mz.at (L:=[]) (by simp)).cells⟩,Z⟩,m1,vk,vd,vr,.int .i64 rn,sa,sm,se,o,rfl,⟨QK hK,QK hg,g5,rfl,ge,Z⟩,λL hL=>?_⟩
    have h1:=gc (b10::b8::L) (λb hb=>by
     simp only[List.mem_cons]at hb;rcases hb with rfl|rfl|hb
     ·omega
     ·omega
     have:=hL b hb;omega)
    have h2:=((h1.st (gg.mono (by simp))).st (gh.mono (by simp))).st (kb.mono (by simp));exact h2.up (λb hb=>.inl (by simp[hb]))
   refine Qi ?_;have h6:i<D.length:=by have h81:(i:Int)<(D.length:Int):=g9;omega
   have gi:i<lf.length:=by rw[J.n,←hN];exact h6
   have m2:lf[i]'gi=lf.getD i false:=by simp[List.getD,gi]
   refine Qg<|Qh<|Qc<|Qb<|xii (i:=i) (g7.st Y) O O h6 λa82 kc=>?_;refine Zb (D[i]'h6) λd hd=>?_;rw[hd]at kc;refine x (Qv kc O)<|x Qf<|Qe<|Qc<|Qb<|x (QG O)<|x (Qa O)<|x (Qd (hz hQ).B O O)<|Qb<|x (QS (i:=i) O O (by omega))<|x (v:=.bool (lf.getD i false)) ((Jg (i:=i) g8 O gi).trans (by rw[m2]))<|xe<|QY O (λm3=>?_) (λm3=>?_)
   ·have h7:∀{v:Value} {l:LI} {w':World},Qt 3 E.heap.size w' v l→b10∉ob v:=λho hm=>by have:=(Qp ho b10 hm).1;omega
    refine Qc<|x (Qa O)<|x (Qa O)<|x (Qd h5 O O)<|Qb<|xl O<|QF (us:=[[.int .i64 i]]) O O (by decide) (by simp) ⟨rfl,rfl,Z⟩ λb95 y1 hr hb95 m4=>xl rfl<|Q5 (m:=1) (news:=[.int .i64 i]) (L:=[]) (Qs hK hr) rfl rfl rfl (m4.at (by simp)) (by simp[Value.oneCell']) (by omega) (by have:=hr.size;omega) λh8 y2 ke hR m5 =>
     x (Qa rfl)<|x (Qa O)<|xl O<|QB (j:=0) (u:=h8) ((h5.ext hr).step hR (h7 hK)) O O (by simp) (QK ke) λy3 gj kf=>xe ?_
    have m6:Qt 3 E.heap.size y2 h8 (lk++[(i:Int)]):=Qt.snoc ke;have hzy1:=hr.size;have hzy2:=hR.size;have hzy3:=gj.size;have m7:Qt 3 E.heap.size y2 vd ld:=Ql (Qs hg hr) hR (λb hb hm=>hO b hm hb);have kg:Dj h8 vd:=λb hb hm=>by
     rcases m5 b hb with h1|h1
     ·exact hO b h1 hm
     have:=Q3 hg b hm;omega
    have kh:∀{v:Value} {l:LI},Qt 3 E.heap.size y2 v l→Qt 3 E.heap.size y3 v l:=λho=>Ql ho gj (λb hb hm=>by simp only[List.mem_singleton]at hm;subst hm;exact h7 ho hb);have ki:=kh m6;have gk:=kh m7;have m8:Step [b10] E y3:=(((Y.trans hr).then hR (λb hb=>.inr (Qp hK b hb).1))).trans' gj
    refine Qx<|x (Qa O)<|x (Qa O)<|x (Qd kf O O)<|Qb<|xl O<|QF (us:=[[.int .i64 d]]) O O (by decide) (by simp) ⟨rfl,rfl,Z⟩ λb103 y4 ht hb103 m9=>xl rfl<|Q5 (m:=1) (news:=[.int .i64 d]) (L:=[]) (Qs gk ht) rfl rfl rfl (m9.at (by simp)) (by simp[Value.oneCell']) (by omega) (by have:=ht.size;omega) λgl y5 kj gm pa =>
     x (Qa rfl)<|x (Qa O)<|xl O<|QB (j:=1) (u:=gl) ((kf.ext ht).step gm (h7 gk)) O O (by simp) (QK kj) λy6 gn pc=>xe ?_
    have kk:Qt 3 E.heap.size y5 gl (ld++[d]):=Qt.snoc kj;have kn:Qt 3 E.heap.size y5 h8 (lk++[(i:Int)]):=Ql (Qs ki ht) gm (λb hb hm=>kg b hb hm);have hzy4:=ht.size;refine Qx<|QM O O<|Qb<|xe ?_
    refine⟨(i+1,h8,gl,_,_),by simp only[];omega,La,h6,(((m8.trans ht).then gm (λb hb=>.inr (Qp gk b hb).1))).trans' gn,pc,Ql kn gn (λb hb hm=>by simp only[List.mem_singleton]at hm;subst hm;exact h7 kn hb),Ql kk gn (λb hb hm=>by simp only[List.mem_singleton]at hm;subst hm;exact h7 kk hb),λb hb hm=>?_,by simp only[List.length_append,List.length_singleton];omega,by simp only[List.length_append,List.length_singleton];omega⟩
    rcases pa b hm with h1|h1
    ·exact kg b hb h1
    have:=Q3 ki b hb;omega
   refine Qi<|Qx<|QM O O<|Qb<|xe ?_;exact⟨(i+1,vk,vd,lk,ld),by simp only[];omega,La,h6,Y,h5,hK,hg,hO,by simp only[];omega,by simp only[];omega⟩
  refine Qi ?_;have hM:¬l.length=0:=λe=>hZ (by show(l.length:Int)=0;omega);have ko:(nxs q.a q.unc lf).length≠0:=by rw[g3];exact hM
  have pd:=QaS ko;refine Exists.elim (MN (show f≠0 by omega)) λf' pf=>?_;subst pf;rw[yr ko,←hJ]at h3;rw[←hJ]at pd;refine Exists.elim (QkR (rk:=(rank:Int)) (rs:=rs) l (λx hx=>by have:=hY x hx;omega)) λln h9=>?_;refine Qg<|Qc<|Qb<|x (Qr g2 O)<|Qb<|xe ?_
  refine Qh<|QA (α:=Nat) [(16,16),(51,62)] (λz=>[(51,.int .i64 z)]) (λz w'=>z≤l.length∧Step [q.bl] w7 w'∧ReI b10 q I (((l.take z).map (·.1)).foldl cut lf) rn vr lz w') (λz=>l.length - z) (by rfl) 0 La ⟨Ll _,Step.refl _ _,J⟩ ?_;rintro j g T ⟨hj,U,H⟩;have hG:∀b∈ob r7,b≠q.bl:=λb hb e=>by have:=(Qp hX b hb).1;have:=G.st.size;omega
  have pg:RmO w6.heap.size T r7 rank rs l:=Ql hX U (λb hb hm=>hG b hb (by simpa using hm));have kp:Zv [q.bl] T.heap r7 l.length 4 (l.flatMap (rmC rank rs)):=QW pg (by omega) (λb hb hm=>hG b hb (by simpa using hm));refine Qc<|x (Qz O O)<|xe<|Qg<|QC O (λgo=>?_) (λgo=>?_)
  ·refine Qy ?_;have ph:l.length≤j:=by have hS:¬(j:Int)<(l.length:Int):=go;omega
   rw[Ln ph]at H;obtain⟨ad,cap7,pj,_,pn⟩:∃ad cap,r7=.slice (some ad) l.length cap∧l.length≤cap∧At [q.bl] T.heap ad (l.flatMap (rmC rank rs)):=by
    rcases kp.2.2 with⟨_,h0⟩|h1
    ·exact absurd h0 hM
    exact h1
   refine Qc<|x (Qa O)<|x (Qa O)<|x (Qd H.B10 O O)<|Qb<|xl O<|Q5 (m:=l.length) (news:=l.flatMap (rmC rank rs)) (L:=[q.bl]) H.R O pj (by rw[←h9.1,jq,h9.2]) pn (by rw[←h9.1];exact Qdx ln) (by omega) H.st.size λgq po kq kr hn22 =>
    x (Qa O)<|x (Qa O)<|xl O<|QB (j:=2) (u:=gq) (H.B10.step kr (λhb=>by have:=(Qp H.R _ hb).1;omega)) O O (by simp) (QK kq) λw23 pp pt=>xe ?_
   have pu:RzO I.heap.size po gq (lz++ln):=RzO.snoc (by rw[h9.1,h9.2];exact kq);have kt:=H.app hV hE he kr pu pp pt;refine Qx<|Qb<|x (Qa O)<|xl O<|QB (j:=3) (u:=.int .i64 rank) kt.B10 O O (by simp) rfl λw24 pw pz=>xe ?_;have p0:=kt.rounds hE he pw pz;have p4:(-9223372036854775808:Int)≤(rank:Int)+1:=by omega
   have p5:(rank:Int)+1≤9223372036854775807:=by omega
   refine Qx<|Qb<|x (Xa O O ⟨p4,p5⟩)<|Qe ?_;exact⟨(f',rank+1,(rank:Int),gq,lz++ln,(l.map (·.1)).foldl cut lf),by simp only[];omega,La,p0,by simp only[];omega,by simp only[List.length_append];omega,h3,by simp only[];omega⟩
  refine Qi ?_;have ha:j<l.length:=by have hS:(j:Int)<(l.length:Int):=go;omega
  have p6:l.take (j+1)=l.take j++[l[j]'ha]:=Le ha;have ku:((l.take (j+1)).map (·.1)).foldl cut lf=cut (((l.take j).map (·.1)).foldl cut lf) (l[j]'ha).1:=by rw[p6,Lv,Mn];rfl
  have p7:=hY (l[j]'ha).1 (LL (Li ha));refine Zb (l[j]'ha) λy hy=>?_;rw[hy]at ku p7;have p8:y.1=(y.1.toNat:Int):=by omega
  refine Qg<|Qh<|Qc<|xig (g:=rmC rank rs) (i:=j) (Qdl rank rs) kp O O ha λa53 hS=>?_;rw[hy]at hS;refine x (QI hS O O)<|xl O<|Qu (us:=[.int .i64 0,.int .i64 0,.int .i64 0,.int .i64 0]) O λb16 E V p9 gr=>xl O<|Qo (us:=rmC rank rs y) gr O O O O ⟨O,O,O,O,Z⟩ λh4 Y gr=>xe ?_;have kv:Step [] T h4:=V.then1 Y p9;have gs:=H.ext kv;have qc:=H.n
  refine QV (Step [] h4) [(0,true),(1,true),(2,true),(3,true),(4,true),(5,true),(6,true),(7,false)] mixed (by rfl) (by kernel_rfl) (Step.drew _ _) ?_;refine p (λ_=>Qm)<|p (λ_=>QG O)<|p (λ_=>Qa O)<|pq (λ_ hc=>Qd ((hz gs.st).B.ext hc) O O)<|p (λ_=>Qa O)<|pq (λ_ hc=>Qd (gr.ext hc) O O) <|
   p (λ_=>QS (i:=y.1.toNat) O (congrArg (Value.int .i64) p8) (by omega))<|pkl (hl:=by kernel_rfl)<|qM (i:=y.1.toNat) (gs.F.ext (Step.drew _ _)) O O (by omega) λmt hh qf=>pe ?_
  refine Qx<|QM O O<|Qb<|xe<|⟨j+1,by omega,La,ha,((U.trans kv).trans (Step.drew _ _)).trans' hh,?_⟩;rw[ku];exact(gs.ext (Step.drew _ _)).cut hV he hh qf (by rw[Qd2];exact qc)
 refine Qi ?_;have hT:k<forb.length:=by have gt:(k:Int)<(forb.length:Int):=g1;omega
 have ql:=gu _ (Li hT);refine Zb (forb[k]'hT) λy hy=>?_;rw[hy]at ql;refine Qg<|Qh<|Qc<|xii (i:=k) mc O O hT λa27 gt=>?_;rw[hy]at gt;refine x (Qv gt O)<|Qe<|Qc<|x (Qa O)<|x (Qa O)<|x (Qd G.B10 O O)<|Qb<|x (QN ⟨O,O,O,O,Z⟩)<|xl O<|QF (us:=[[.int .i64 y,.int .i64 1,.int .i64 1,.int .i64 (-1)]]) O O (by decide) (by simp) ⟨rfl,rfl,Z⟩ λb34 w6 qo hb34 qr=>?_
 have hA:=G.ext qo;refine xl rfl<|Q5 (m:=1) (news:=[.int .i64 y,.int .i64 1,.int .i64 1,.int .i64 (-1)]) (L:=[]) hA.R O O O (qr.at (by simp)) (by simp[Value.oneCell']) (by omega) hA.st.size λv7 w7 kw hH hn7 =>
  x (Qa rfl)<|x (Qa O)<|xl O<|QB (j:=2) (u:=v7) (hA.B10.step hH (λhb=>by have:=(Qp hA.R _ hb).1;omega)) O O (by simp) (QK kw) λT U gb=>xe ?_
 have q0:RzO I.heap.size w7 v7 (lz++[⟨(y,1,1,-1),by simp only[];omega⟩]):=RzO.snoc kw;have H:=hA.app hV hE he hH q0 U gb;refine Qx<|x (Qa O)<|xl O<|QB (j:=3) (u:=.int .i64 1) H.B10 O O (by simp) rfl λE V q4=>xe ?_;have q5:=H.rounds hE he V q4;refine Qx<|QM O O<|Qb<|xe ?_
 exact⟨(k+1,1,v7,_),by simp only[];omega,La,hT,q5,by simp only[List.length_append,List.length_singleton];omega,.inr O⟩
instance:Bw prog 120 (Xt (nS) (nS) (nS) 0) [(0,3),(3,1),(4,4),(8,1)]:=⟨by kernel_rfl,by decide⟩
theorem Qlm {c:ZA}{pl:QO}{ps:List (LI)}{l:List (LI)}:∀r∈spF c pl ps l,0≤r.st∧r.st<(l.length:Int):=λr E=>by
 unfold spF at E;obtain⟨⟨t,i⟩,hp,h1⟩:=MI.1 E;have hi:=List.snd_lt_add_of_mem_zipIdx hp;simp only[Nat.zero_add]at hi;have h2:r.st=(i:Int):=by
  simp only[]at h1;unfold rsn at h1;split at h1
  ·cases h1;rfl
  split at h1
  ·cases h1;rfl
  cases h1
 omega
theorem QfV {c:ZA}(h:Y1 c=0):Q2 (spc c).a∧(∀x∈fbs (spc c),0≤x∧x<(spc c).a.st)∧(fbs (spc c)).length≤4096∧(spc c).fb.length≤4096∧XM c.ev=0:=by
 unfold Y1 at h;by_cases h1:Zk c≠0
 ·rw[if_pos h1]at h;exact absurd h h1
 rw[if_neg h1]at h;have hck:Zk c=0:=Lm.1 h1;have E:=ZX hck;by_cases h2:JJ (auts c.co)≠0
 ·rw[if_pos h2]at h;exact absurd h h2
 rw[if_neg h2]at h;cases hs:sync (auts c.co)with
 | none=>rw[hs]at h;cases h
 | some z =>
  rw[hs]at h;simp only[]at h;by_cases h3:JJ (auts c.co++auts c.rq)≠0
  ·rw[if_pos h3]at h;exact absurd h h3
  rw[if_neg h3]at h;cases G:sync (auts c.co++auts c.rq)with
  | none=>rw[G]at h;cases h
  | some y =>
   have H:∀a∈auts c.co++auts c.rq,Q2 a:=λa ha=>by
    rcases Lq.1 ha with ha|ha
    ·exact Xr E.co a ha
    exact Xr E.rq a ha
   have hsp:=(XN H (A:=y.1) (Q:=y.2) G).1;have he:=QfW (c:=c) (pl:=z.1) (ps:=z.2) (sa:=y.1) (ts:=y.2) hs G;have hl:=Qdi c z.1 z.2 y.2;have J:=hsp.le;rw[he];unfold fbs;refine⟨hsp.okay H,λx hx=>?_,by rw[Lh];simp only[];omega,by simp only[];omega,E.e0⟩;obtain⟨r,I,rfl⟩:=Lx.1 hx;have:=Qlm r I;rw[hsp.st];exact this
theorem st4 (r:Rsn):(Yw r).length=4:=rfl
set_option maxHeartbeats 4000000 in
theorem Qb1 {L:LN}{w:World}{c:CL}(h0:ZJ L w.heap c)(hO:Kb w 4096):
  QE prog 43 [c.val] w λr w'=>Step [] w w'∧∃us c0 T U c3 sa sm se o,r=.tuple #[.agg us.toArray,.agg #[c0,T,U,c3,sa,.int .i64 (if Y1 c.cel=0 then(K9 c.cel).st else 0),sm,se,o],.int .i64 (Y1 c.cel)]∧us.length=8∧ZH us∧ZH [c0,T,U,c3,sa,sm,se,o] ∧
   (Y1 c.cel≠0→sa=nS∧sm=nS∧se=nS)∧(Y1 c.cel=0→∀L:LN,(∀b∈L,b<w.heap.size)→Zp L w'.heap sa sm se (K9 c.cel)):=by
 have h:=h0.up (L':=[]) (by simp);have hj:K9 c.cel=J4 (spc c.cel).a (fbs (spc c.cel)) (unc c.cel.ev):=rfl;have hP:c.cel.ev=c.ev:=rfl;have hm:=QfV (c:=c.cel);refine Zb (K9 c.cel) λSA hQ=>?_;rw[hQ]at hj ⊢;refine Zb (Y1 c.cel) λE hE=>?_;rw[hE]at hm ⊢;refine Zb (spc c.cel) λS hS=>?_;rw[hS]at hm hj;rw[hP]at hm hj;refine QE.of_W func43 O ntmps43 results43 (by simp) ?_
 refine Qc<|xl O<|QQ (us:=c.cells) O λb1 w1 hA gv hB=>xl O<|Qu (us:=[nS,.int .i64 0,nS,nS,nS,nS,nS,nS]) O λb2 w2 hy gx hn=>xl O<|Qu (us:=Xt (nS) (nS) (nS) 0) O λb3 w3 ho gy hp=>Qe ?_;have hz:=(hA.trans hy).trans ho;have gz:=hA.size;have g0:=hn.lt;have g1:=hp.lt;have hsp:=QcV (h.ext hz) (hO.ext hz);rw[hE,hS]at hsp
 refine Qc<|x (Qn ((hB.ext hy).ext ho) O O)<|xl O<|xf<|hsp.mono ?_;rintro r4 w4 ⟨hf,v,rfl,⟨us,rfl,h2,h3⟩,hF⟩;have g2:=hf.size;refine Qb<|x (Qj O O)<|x (Qj O O)<|xl O<|Qu (us:=[nS,.int .i64 0,nS,nS,nS,nS,nS,nS]) O λb5 w5 hR hT hg=>xl O<|Qo (us:=us) hg O O h2 O h3 λw6 hV hg=>Qe ?_;have V:Step [] w4 w6:=hR.then1 hV hT;have h4:=(hz.trans hf).trans V
 have hC:=(hn.ext (ho.trans hf)).ext V;have hD:=(hp.ext hf).ext V;have g3:=hg.lt;refine Qg<|Qc<|Qb<|x (Q7 O O)<|xe<|Q4 rfl (λhq=>?_) (λhq=>?_)
 ·refine Qc<|x (Zx [] Z)<|x (Zx [] Z)<|Qb<|xl O<|Qo (us:=[nS,.int .i64 0,nS,nS,nS,nS,nS,nS]) hC O O O O ⟨O,O,O,O,O,O,O,O,Z⟩ λw7 G hW =>
   xl rfl<|Qo (us:=Xt (nS) (nS) (nS) 0) (hD.step G (by simp only[List.mem_singleton];omega)) O O O O ⟨O,O,O,O,O,O,O,O,O,Z⟩ λw8 hs hX=>Qe<|Qk ⟨[.agg [nS,.int .i64 0,nS,nS,nS,nS,nS,nS].toArray,.agg (Xt (nS) (nS) (nS) 0).toArray,.int .i64 E],⟨⟨_,O,Qw O ((hW.step hs (by simp only[List.mem_singleton];omega)).at (L:=[]) (by simp)).cells⟩,⟨_,rfl,Qw rfl (hX.at (L:=[]) (by simp)).cells⟩,rfl,Z⟩,(h4.then1 G (by omega)).then1 hs (by omega),[nS,.int .i64 0,nS,nS,nS,nS,nS,nS],nS,nS,nS,.int .i64 0,nS,nS,nS,nS,by rw[if_neg hq];rfl,O,⟨O,O,O,O,O,O,O,O,Z⟩,⟨O,O,O,O,O,O,O,O,Z⟩,λ_=>⟨O,O,O⟩,λe=>absurd e hq⟩
 have ht:E=0:=Lm.1 hq;obtain⟨hY,hZ,ga,g4,hG⟩:=hm ht;obtain⟨va,vm,ve,v1,v2,v3,v4,cos,rqs,gb,_,_,gc⟩:=hF ht;have ge:us=[va,.int .i64 S.a.st,vm,ve,v1,v2,v3,v4]:=by
  have h1:=congrArg (λv=>match v with|Value.agg a=>a.toList|_=>[]) gb
  simpa using h1
 subst ge;have hH:=(gc [] (by simp));have gg:=hH.1.ext V;have hI:=hH.2.2.2.2.ext V;refine Qi<|Qc<|Qe<|Qg<|Qc<|x (Qa O)<|x (Qd hg O O)<|x (Qr hI O)<|Qb<|xe ?_
 refine Qh<|QA (α:=Nat×Value) [(7,7),(9,9),(24,33)] (λz=>[(7,z.2),(24,.int .i64 z.1)]) (λz w'=>z.1≤S.fb.length∧Step [] w6 w'∧Qt 3 w6.heap.size w' z.2 ((S.fb.take z.1).map (·.st))) (λz=>S.fb.length - z.1) (by rfl) (0,nS) ⟨O,O,Z⟩ ⟨Ll _,Step.refl _ _,QP _ _ _ _⟩ ?_;rintro⟨k,vf⟩ g w7 ⟨hk,G,J⟩;simp only[]at hk J;refine Qc<|x (Qz O O)<|xe<|Qg<|QC O (λh5=>?_) (λh5=>?_)
 ·refine Qy ?_;have gh:S.fb.length≤k:=by have hu:¬(k:Int)<(S.fb.length:Int):=h5;omega
  rw[Ln gh]at J;have J:Qt 3 w6.heap.size w7 vf (fbs S):=J;have gi:=h4.trans G;have gj:=G.size;refine Qc<|x (Qa O)<|x (Qd ((hB.ext (hy.trans ho)).ext ((hf.trans V).trans G)) O O)<|xl O<|xf<|(UD (h.ev.ext gi)).mono ?_;rintro g5 I ⟨Y,vu,rfl,hU⟩;rw[if_pos hG]at hU;refine Qb<|x (Qj O O)<|x (Qj O O)<|x Qf<|Qe<|Qg<|Qc<|Qb<|x (Q7 O O)<|xe ?_
  refine Q4 O (λgk=>absurd hG gk) (λ_=>?_);refine Qi ?_;have h2:(unc c.ev).length≤1099511627776:=LJ (KQ _ c.ev 0) h.ev.arr.le;have ha:=G.trans Y;have gl:=gg.ext ha;have hv:Step [] I { I with drawn:=I.drawn+1 }:=Step.drew _ _
  have hJ:=hg.ext ha;have hK:b5∉[b2]:=by simp only[List.mem_singleton];omega
  have g6:=ha.size;refine Qg<|QV (Step [b2] I) [(0,true),(1,true),(2,true),(3,true),(4,true),(5,false),(6,false),(7,false),(8,true)] mixed (by rfl) (by kernel_rfl) (Step.drew _ _) ?_;refine pq (λ_ hc=>Qn (hJ.step hc hK) O O)<|p (λ_=>Qa O)<|pq (λ_ hc=>ZB (us:=[va,.int .i64 S.a.st,vm,ve]) (hJ.step hc hK) O O O) <|
   p (λ_=>Qm)<|p (λ_=>Qm)<|pk<|xf<|(yq (gl.ext hv) hY (((Qt.ints (L:=[]) J (by omega) (by simp)).ext Y).ext hv) hZ ga ((Qt.ints (L:=[]) hU h2 (by simp)).ext hv)).mono ?_
  rintro g7 g8 ⟨gm,c0,T,U,c3,sa,sm,se,o,rfl,H,h6⟩;have hh:=hv.trans gm;refine⟨hh.any,?_⟩;have hM:J4 S.a (fbs S) (unc c.ev)=SA:=hj.symm;rw[hM]at h6;have he:=h6 [] (by simp);refine pk<|Qo (us:=[va,.int .i64 S.a.st,vm,ve,v1,v2,v3,v4]) ((hC.ext ha).ext hh) O O O O h3 λg9 hw hn=>⟨hh.any.trans' hw,?_⟩
  refine pkl (hl:=by kernel_rfl)<|Qo (us:=[c0,T,U,c3,sa,.int .i64 SA.st,sm,se,o]) (((hD.ext ha).ext hh).step hw (by simp only[List.mem_singleton];omega)) O (by rw[←hM];rfl) O O ⟨H.1,H.2.1,H.2.2.1,H.2.2.2.1,he.al.one,O,he.mr.one,he.ed.one,H.2.2.2.2.1,Z⟩ λka h7 hp=>p (λ_=>Qf)<|pe ?_;have gn:b2∉[b3]:=by simp only[List.mem_singleton];omega
  refine Qk ⟨[.agg [va,.int .i64 S.a.st,vm,ve,v1,v2,v3,v4].toArray,.agg [c0,T,U,c3,sa,.int .i64 SA.st,sm,se,o].toArray,.int .i64 0],⟨⟨_,O,Qw O ((hn.step h7 gn).at (L:=[]) (by simp)).cells⟩,⟨_,rfl,Qw rfl (hp.at (L:=[]) (by simp)).cells⟩,rfl,Z⟩,
   (((h4.trans ha).trans hh).then1 hw (by omega)).then1 h7 (by omega),_,c0,T,U,c3,sa,sm,se,o,by rw[ht,if_pos rfl];rfl,O,h3,⟨H.1,H.2.1,H.2.2.1,H.2.2.2.1,he.al.one,he.mr.one,he.ed.one,H.2.2.2.2.1,Z⟩,λe=>absurd ht e,λ_ L hL=>?_⟩
  have h1:=h6 (b2::b3::L) (λb hb=>by
   have kb:({ I with drawn:=I.drawn+1 }:World).heap.size=I.heap.size:=rfl
   simp only[List.mem_cons]at hb;rcases hb with rfl|rfl|hb
   ·omega
   ·omega
   have:=hL b hb;omega)
  exact((h1.st (hw.mono (by simp))).st (h7.mono (by simp))).up (λb hb=>.inl (by simp[hb]))
 refine Qi ?_;have hi:k<S.fb.length:=by have hu:(k:Int)<(S.fb.length:Int):=h5;omega
 have hN:S.fb.take (k+1)=S.fb.take k++[S.fb[k]'hi]:=Le hi;have kc:((S.fb.take k).map (·.st)).length=k:=by rw[Lh,Ly];omega
 refine Zb (S.fb[k]'hi) λr hr=>?_;rw[hr]at hN;refine Qg<|Qh<|Qc<|xig (g:=Yw) (i:=k) st4 (hI.ext G) O O hi λke hu=>?_;rw[hr]at hu;refine x (QI hu O O)<|xl O<|Qu (us:=[.int .i64 0,.int .i64 0,.int .i64 0,.int .i64 0]) O λb9 w8 hs go h8=>xl O<|Qo (us:=Yw r) h8 O O O O ⟨O,O,O,O,Z⟩ λw9 gq h8=>xe ?_;have h9:Step [] w7 w9:=hs.then1 gq go;have kf:=h9.size;have gj:=G.size
 refine Qx<|Qb<|x (Qa O)<|x (Qd h8 O O)<|xl O<|QF (us:=[[.int .i64 r.st]]) O O (by decide) (by simp) ⟨rfl,rfl,Z⟩ λkg I Y kh gr =>
  xl rfl<|Q5 (m:=1) (news:=[.int .i64 r.st]) (L:=[]) (Qs J (h9.trans Y)) O O O (gr.at (by simp)) (by simp[Value.oneCell']) (by omega) (by have:=Y.size;omega) λgs ki gt gu kj=>Qe<|Qx<|QM O O<|Qb<|xe ?_
 refine⟨(k+1,gs),by simp only[];omega,⟨O,O,Z⟩,hi,((G.trans h9).trans Y).then gu (λb hb=>.inr (Qp J b hb).1),?_⟩;simp only[];rw[hN,Lv];exact Qt.snoc gt
theorem Js {L:LN}{w:World}{c:CL}(h0:ZJ L w.heap c)(he:Kb w 4096):
  QE prog 12 [c.val] w λr w'=>Step [] w w'∧∃sa sm se,r=.tuple #[.agg #[sa,.int .i64 (if Y1 c.cel=0 then(K9 c.cel).st else 0),sm,se],.int .i64 (suE c.cel)]∧ZH [sa,sm,se] ∧
   (suE c.cel≠0→sa=nS∧sm=nS∧se=nS)∧(suE c.cel=0→∀L:LN,(∀b∈L,b<w.heap.size)→Zp L w'.heap sa sm se (K9 c.cel)):=by
 have h:=h0.up (L':=[]) (by simp);have hf:suE c.cel=Y1 c.cel:=rfl;rw[hf];refine QE.of_W func12 O ntmps12 results12 (by simp) ?_;refine Qc<|xl O<|QQ (us:=c.cells) O λb1 w1 T hp hg=>xl O<|Qu (us:=[nS,.int .i64 0,nS,nS]) O λb2 w2 U hq G=>Qe ?_;have H:=T.trans U;have hr:=T.size;have hs:=G.lt
 refine Qc<|x (Qn (hg.ext U) O O)<|xl O<|xf<|(Qb1 (h.ext H) (he.ext H)).mono ?_;rintro r3 w3 ⟨V,us,c0,c1,c2,c3,sa,sm,se,o,rfl,hh,hi,E,hj,hk⟩;refine Zb (if Y1 c.cel=0 then(K9 c.cel).st else 0) λN hN=>?_
 rw[hN];refine Qb<|x (Qj O O)<|x (Qj O O)<|x (Qj O O)<|xl O<|Qu (us:=[nS,.int .i64 0,nS,nS,nS,nS,nS,nS]) O λb4 w4 hl ht I=>xl O<|Qu (us:=Xt (nS) (nS) (nS) 0) O λb5 w5 Y hu hm =>
  xl rfl<|Qo (us:=us) (I.ext Y) O O hh O hi λw6 ha hv=>xl O<|Qo (us:=[c0,c1,c2,c3,sa,.int .i64 N,sm,se,o]) (hm.step ha (by have:=I.lt;simp only[List.mem_singleton];omega)) O O O O ⟨E.1,E.2.1,E.2.2.1,E.2.2.2.1,E.2.2.2.2.1,O,E.2.2.2.2.2.1,E.2.2.2.2.2.2.1,E.2.2.2.2.2.2.2.1,Z⟩ λw7 hn ho=>Qe ?_
 have hw:=I.lt;have J:Step [] w3 w7:=((hl.trans Y).then1 ha (by omega)).then1 hn (by omega)
 refine Qc<|x (Qa O)<|x (ZB (us:=[sa,.int .i64 N,sm,se]) ho O O O)<|Qb<|xl O<|Qo (us:=[sa,.int .i64 N,sm,se]) ((G.ext V).ext J) O O O O ⟨E.2.2.2.2.1,O,E.2.2.2.2.2.1,E.2.2.2.2.2.2.1,Z⟩ λw8 hc G=>Qe<|Qk ⟨[.agg [sa,.int .i64 N,sm,se].toArray,.int .i64 (Y1 c.cel)],⟨⟨_,O,Qw O (G.at (L:=[]) (by simp)).cells⟩,rfl,Z⟩,((H.trans V).trans J).then1 hc (by omega),sa,sm,se,rfl,⟨E.2.2.2.2.1,E.2.2.2.2.2.1,E.2.2.2.2.2.2.1,Z⟩,hj,λe L hL=>?_⟩
 have h1:=hk e (b2::L) (λb hb=>by
  simp only[List.mem_cons]at hb;rcases hb with rfl|hb
  ·omega
  have:=hL b hb;omega)
 exact((h1.ext J).st (hc.mono (by simp))).up (λb hb=>.inl (by simp[hb]))
theorem Qas {L:LN}{w:World}{va vm ve vf vu:Value}{a:QO}{fb ul:LI}(h:Zp L w.heap va vm ve a)(Y:QH L w.heap vf fb)(hu:QH L w.heap vu ul):
  QE prog 121 [.agg #[va,.int .i64 a.st,vm,ve],vf,vu] w λr w'=>r=.int .i64 (Vh a fb ul)∧Step [] w w':=by
 have G:Vh a fb ul=if Xq a≠0 then Xq a else if Y0 a.st none fb≠0 then Y0 a.st none fb else Y0 32 none ul:=rfl
 refine Zb (Vh a fb ul) λE hE=>?_;rw[hE]at G ⊢;refine QE.of_W func121 O ntmps121 results121 (by simp) ?_;refine Qc<|xl O<|QQ (us:=[va,.int .i64 a.st,vm,ve]) O λb3 w1 T ha U=>Qe<|Qg<|Qc<|x (Qn U O O)<|xl O<|xf<|(Y6 (h.ext T)).mono ?_;rintro r2 w2 ⟨rfl,V⟩;have H:=T.trans V;refine Qe<|Qc<|Qb<|x (Q7 O O)<|xe<|Q4 rfl (λI=>?_) (λI=>?_)
 ·rw[if_pos I]at G;subst G;refine Qc<|Qb<|Qe ?_;exact Qk ⟨[_],La,O,H⟩
 rw[if_neg I]at G;refine Qi<|Qg<|Qc<|Qb<|x (Qa O)<|x (Qd (U.ext V) O O)<|xl O<|xf<|(KK (Y.ext H) _).mono ?_;rintro r3 w3 ⟨rfl,rfl⟩;refine Qe<|Qc<|Qb<|x (Q7 O O)<|xe<|Q4 rfl (λJ=>?_) (λJ=>?_)
 ·rw[if_pos J]at G;subst G;refine Qc<|Qb<|Qe ?_;exact Qk ⟨[_],La,O,H⟩
 rw[if_neg J]at G;subst G;refine Qi<|Qc<|Qb<|xl O<|xf<|(KK (hu.ext H) _).mono ?_;rintro r4 w4 ⟨rfl,rfl⟩;refine Qe ?_;exact Qk ⟨[_],La,O,H⟩
theorem Vc {L:LN}{w:World}{va vm ve vf vu:Value}{a:QO}{fb ul:LI}(h0:Zp L w.heap va vm ve a)(hm:QH L w.heap vf fb)(hn:QH L w.heap vu ul):
  QE prog 66 [.agg #[va,.int .i64 a.st,vm,ve],vf,vu] w λr w'=>Step [] w w'∧∃c0 I J c3 sa sm se o,r=.tuple #[.agg #[c0,I,J,c3,sa,.int .i64 (if Vh a fb ul=0 then(J4 a fb ul).st else 0),sm,se,o],.int .i64 (Vh a fb ul)]∧ZH [c0,I,J,c3,sa,sm,se,o] ∧
   (Vh a fb ul≠0→sa=nS∧sm=nS∧se=nS)∧(Vh a fb ul=0→∀L:LN,(∀b∈L,b<w.heap.size)→Zp L w'.heap sa sm se (J4 a fb ul)):=by
 have h:=h0.up (L':=[]) (by simp);have hf:=hm.up (L':=[]) (by simp);have hu:=hn.up (L':=[]) (by simp);refine QE.of_W func66 O ntmps66 results66 (by simp) ?_;refine Qc<|xl O<|QQ (us:=[va,.int .i64 a.st,vm,ve]) O λb3 w1 hh hq hi=>xl O<|Qu (us:=Xt (nS) (nS) (nS) 0) O λb6 w2 hc hr H=>Qe ?_;have Y:=hh.trans hc;have hs:=hh.size;have ht:=H.lt
 refine Qg<|Qc<|x (Qn (hi.ext hc) O O)<|Qb<|Qb<|xl O<|xf<|(Qas (h.ext Y) (hf.ext Y) (hu.ext Y)).mono ?_;rintro r3 w3 ⟨rfl,V⟩;have T:=Y.trans V;have hv:=V.size;refine Qe<|Qc<|Qb<|x (Q7 O O)<|xe<|Q4 rfl (λha=>?_) (λha=>?_)
 ·refine Qc<|x (Zx [] Z)<|Qb<|xl O<|Qo (us:=Xt (nS) (nS) (nS) 0) (H.ext V) O O O O ⟨O,O,O,O,O,O,O,O,O,Z⟩ λw4 ho H=>Qe<|Qk ⟨[.agg (Xt (nS) (nS) (nS) 0).toArray,.int .i64 (Vh a fb ul)],⟨⟨_,O,Qw O (H.at (L:=[]) (by simp)).cells⟩,rfl,Z⟩,T.then1 ho (by omega),nS,nS,nS,.int .i64 0,nS,nS,nS,nS,by rw[if_neg ha];rfl,⟨O,O,O,O,O,O,O,O,Z⟩,λ_=>⟨O,O,O⟩,λe=>absurd e ha⟩
 have G:Vh a fb ul=0:=Lm.1 ha;have hck:Xq a=0∧Y0 a.st none fb=0:=by
  unfold Vh at G;by_cases h1:Xq a≠0
  ·rw[if_pos h1]at G;exact absurd G h1
  rw[if_neg h1]at G;by_cases h2:Y0 a.st none fb≠0
  ·rw[if_pos h2]at G;exact absurd G h2
  exact⟨Lm.1 h1,Lm.1 h2⟩
 have hj:=(Zu a).1 hck.1;have he:=(Z7 a.st fb none).1 hck.2;have hp:fb.length≤4096:=by have:=X0 fb 0 a.st he.2.1 he.1;have:=hj.st1;omega
 refine Qi<|Qc<|x (Qn (hi.ext (hc.trans V)) O O)<|Qb<|Qb<|xl O<|xf<|(yq (h.ext T) hj (hf.ext T) he.1 hp (hu.ext T)).mono ?_;rintro r5 w5 ⟨hg,c0,I,J,c3,sa,sm,se,o,rfl,E,hk⟩;have U:=hk [] (by simp);have hw:=hg.size
 refine xl rfl<|Qo (us:=[c0,I,J,c3,sa,.int .i64 (J4 a fb ul).st,sm,se,o]) ((H.ext V).ext hg) O O O O ⟨E.1,E.2.1,E.2.2.1,E.2.2.2.1,U.al.one,O,U.mr.one,U.ed.one,E.2.2.2.2.1,Z⟩ λw6 hl H=>Qe<|Qk ⟨[.agg [c0,I,J,c3,sa,.int .i64 (J4 a fb ul).st,sm,se,o].toArray,.int .i64 0],⟨⟨_,O,Qw O (H.at (L:=[]) (by simp)).cells⟩,rfl,Z⟩,(T.trans hg).then1 hl (by omega),c0,I,J,c3,sa,sm,se,o,by rw[if_pos G,G];rfl,⟨E.1,E.2.1,E.2.2.1,E.2.2.2.1,U.al.one,U.mr.one,U.ed.one,E.2.2.2.2.1,Z⟩,λe=>absurd G e,λ_ L hL=>?_⟩
 have hy:=T.size;have h1:=hk (b6::L) (λb hb=>by
  simp only[List.mem_cons]at hb;rcases hb with rfl|hb
  ·omega
  have:=hL b hb;omega)
 exact(h1.st (hl.mono (by simp))).up (λb hb=>.inl (by simp[hb]))
theorem jL {L:LN}{H:Array Obj}{b T:Nat}{n:Int}(h:QT H b T [.int .i64 n])(hb:b∉L):QH L H (.slice (some ⟨b,0,none⟩) 1 1) [n]:=
 h.arr hb (n:=1) (cap:=1) (sz:=1) O (by omega) (Lt _)
set_option maxHeartbeats 4000000 in
theorem QgL {L:LN}{w:World}{c:CL}{q:MV}(h0:ZJ L w.heap c)(h8:QH L w.heap q.v q.co):
  QE prog 100 [c.val,.agg #[.int .i64 q.kd,.int .i64 q.ix,q.v]] w λr w'=>Step [] w w'∧∃us,r=.tuple #[.agg us.toArray,.int .i64 (mcE c.cel q.m)]∧us.length=5∧ZH us∧(mcE c.cel q.m≠0→us=YR)∧(mcE c.cel q.m=0→Qiq w.heap.size w'.heap (.agg us.toArray) (mcC c.cel q.m)):=by
 have h:=h0.up (L':=[]) (by simp);have hm:=h8.up (L':=[]) (by simp);have T:mcE c.cel q.m=if mdE c.cel q.m≠0 then mdE c.cel q.m else jp c.cel (prt q.m):=rfl
 have h9:mcC c.cel q.m=QeA c.cel (prt q.m):=rfl;rw[h9];refine Zb (mcE c.cel q.m) λE hE=>?_;rw[hE]at T ⊢;refine QE.of_W func100 O ntmps100 results100 (by simp) ?_;refine Qc<|xl O<|QQ (us:=c.cells) O λb2 w1 hq hR hg=>xl O<|QQ (us:=YA q) O λb3 w2 Y hS ht=>xl O<|Qu (us:=YR) O λb4 w3 U hT hu=>Qe ?_;have hh:=(hq.trans Y).trans U;have hU:=hq.size;have hV:=Y.size
 have hW:=hu.lt;refine Qg<|Qc<|x (Qn ((hg.ext Y).ext U) O O)<|x (Qn (ht.ext U) O O)<|xl O<|xf<|(QeT (h.ext hh) (hm.ext hh)).mono ?_;rintro r4 w4 ⟨rfl,V⟩;refine Qe ?_;have hv:=hh.trans V;have hX:=V.size;have hA:=((hg.ext Y).ext U).ext V;have hi:=(ht.ext U).ext V;have hw:=hu.ext V;refine Qc<|Qb<|x (Q7 O O)<|xe<|Q4 rfl (λha=>?_) (λha=>?_)
 ·rw[if_pos ha]at T;subst T;refine Qc<|x (QN Z)<|Qb<|xl O<|Qo (us:=YR) hw O O O O ⟨O,O,O,O,O,Z⟩ λw5 hB hC=>Qe ?_;exact Qk ⟨[.agg YR.toArray,.int .i64 (mdE c.cel q.m)],⟨⟨_,O,Qw O (hC.at (L:=[]) (by simp)).cells⟩,rfl,Z⟩,hv.then1 hB (by omega),YR,rfl,rfl,⟨rfl,rfl,rfl,rfl,rfl,Z⟩,λ_=>rfl,λh0=>absurd h0 ha⟩
 rw[if_neg ha]at T;subst T;refine Qi<|Qc<|x (Qa O)<|x (Qd hi O O)<|x (QN ⟨hm.cells,Z⟩)<|xl O<|Qu (us:=[nS,nS,nS,nS]) O λb7 w6 hD hF hG=>xl O<|Qo (us:=[q.v,nS,nS,nS]) hG O O O O ⟨hm.one,O,O,O,Z⟩ λw7 hH hy =>
  xe ?_
 have hz:Step [] w4 w7:=hD.then1 hH hF;have hY:=hy.lt;refine Qc<|x (Qa O)<|x (Qd (hi.ext hz) O O)<|xl O<|QF (us:=[[.int .i64 q.ix]]) O O (by decide) (by simp) ⟨rfl,rfl,Z⟩ λI w8 hj hZ hI =>
  Qe ?_
 have hc:=hz.trans hj;have hJ:=hv.trans hc;have ga:=hj.size;have hk:=hy.ext hj;have hK:w.heap.size≤b7:=by omega
 refine QX (α:=Value×Value×Value) [(22,33)] (λ_=>[]) (λz w'=>Step [b7] w8 w'∧QT w'.heap b7 281 [q.v,z.1,z.2.1,z.2.2]∧QH [] w'.heap z.1 (prt q.m).rq∧QH [] w'.heap z.2.1 (prt q.m).ex∧QH [] w'.heap z.2.2 (prt q.m).cs) (by rfl) ?_ ?_
 ·have hl:∀{w':World},Step [b7] w8 w'→QH [] w'.heap (.slice (some ⟨I,0,none⟩) 1 1) [q.ix]:=λhs=>jL (hI.step hs (by simp only[List.mem_singleton];omega)) (by simp);refine Qc<|x (Qa O)<|x (Qd (hi.ext hc) O O)<|xe<|Qh<|Qc<|x (Zl O O)<|Qe<|Q4 O (λhn=>?_) (λhn=>?_)
  ·have hk1:q.kd=1:=hn;refine Qx<|Qb<|x (Qa O)<|xl O<|QB (j:=1) (u:=.slice (some ⟨I,0,none⟩) 1 1) hk O O (by simp) rfl λJ G H=>xe ?_;refine⟨(.slice (some ⟨I,0,none⟩) 1 1,nS,nS),Z,G,H,?_,?_,?_⟩
   ·show QH _ _ _ (if q.kd=1 then[q.ix]else[]);rw[if_pos hk1];exact hl G
   ·show QH _ _ _ (if q.kd=2 then[q.ix]else[]);rw[if_neg (by omega)];exact XJ _ _
   show QH _ _ _ (if q.kd≠1∧q.kd≠2 then[q.ix]else[]);rw[if_neg (by omega)];exact XJ _ _
  have hk1:¬q.kd=1:=hn;refine Qc<|x (Zl O O)<|Qe<|Q4 O (λho=>?_) (λho=>?_)
  ·have he:q.kd=2:=ho;refine Qx<|Qb<|x (Qa O)<|xl O<|QB (j:=2) (u:=.slice (some ⟨I,0,none⟩) 1 1) hk O O (by simp) rfl λJ G H=>xe ?_;refine⟨(nS,.slice (some ⟨I,0,none⟩) 1 1,nS),Z,G,H,?_,?_,?_⟩
   ·show QH _ _ _ (if q.kd=1 then[q.ix]else[]);rw[if_neg hk1];exact XJ _ _
   ·show QH _ _ _ (if q.kd=2 then[q.ix]else[]);rw[if_pos he];exact hl G
   show QH _ _ _ (if q.kd≠1∧q.kd≠2 then[q.ix]else[]);rw[if_neg (by omega)];exact XJ _ _
  have he:¬q.kd=2:=ho;refine Qx<|Qb<|x (Qa O)<|xl O<|QB (j:=3) (u:=.slice (some ⟨I,0,none⟩) 1 1) hk O O (by simp) rfl λJ G H=>xe ?_;refine⟨(nS,nS,.slice (some ⟨I,0,none⟩) 1 1),Z,G,H,?_,?_,?_⟩
  ·show QH _ _ _ (if q.kd=1 then[q.ix]else[]);rw[if_neg hk1];exact XJ _ _
  ·show QH _ _ _ (if q.kd=2 then[q.ix]else[]);rw[if_neg he];exact XJ _ _
  show QH _ _ _ (if q.kd≠1∧q.kd≠2 then[q.ix]else[]);rw[if_pos ⟨hk1,he⟩];exact hl G
 rintro⟨v1,v2,v3⟩ g J ⟨G,H,h2,h3,h4⟩;simp only[]at H h2 h3 h4;have hf:Step [] w J:=hJ.then1 G hK;have gb:=G.size;have hM:QT J.heap b2 37 c.cells:=(hA.ext hc).step G (by have:=hg.lt;simp only[List.mem_singleton];omega);have hN:QT J.heap b4 37 YR:=(hw.ext hc).step G (by simp only[List.mem_singleton];omega)
 refine Qc<|x (Qn hM O O)<|x (Qn H O O)<|xl O<|xf<|(QcM (p:=prt q.m) (h.ext hf) (hm.ext hf) h2 h3 h4).mono ?_;rintro gc ge ⟨h5,us,rfl,hp,h6,hO,hP⟩
 refine x (Qj O O)<|x (Qj O O)<|xl O<|Qo (us:=us) (hN.ext h5) O O hp O h6 λgg h7 hQ=>Qe<|Qk ⟨[.agg us.toArray,.int .i64 (jp c.cel (prt q.m))],⟨⟨_,O,Qw hp (hQ.at (L:=[]) (by simp)).cells⟩,rfl,Z⟩,(hf.trans h5).then1 h7 (by omega),us,rfl,hp,h6,hO,λe=>?_⟩;obtain⟨cl,e1,e2,e3⟩:=hP e;refine⟨cl,e1,e2,λL hL=>?_⟩;have h1:=e3 (b4::L) (λb hb=>by
  rcases Lc.1 hb with rfl|hb
  ·omega
  have:=hL b hb;have:=hf.size;omega)
 exact(h1.st (h7.mono (by simp))).up (λb hb=>.inl (by simp[hb]))
set_option maxHeartbeats 4000000 in
theorem Qjv {L:LN}{w:World}{c:CL}{q:MV}(Y:ZJ L w.heap c)(ho:QH L w.heap q.v q.co)(hp:Kb w 4096):
  QE prog 49 [c.val,.agg #[.int .i64 q.kd,.int .i64 q.ix,q.v]] w λr w'=>Step [] w w'∧∃sa st sm se,r=.tuple #[.agg #[sa,.int .i64 st,sm,se],.int .i64 (msE c.cel q.m)]∧ZH [sa,sm,se] ∧
   (msE c.cel q.m=0→st=(msA c.cel q.m).st∧∀L:LN,(∀b∈L,b<w.heap.size)→Zp L w'.heap sa sm se (msA c.cel q.m))∧(msE c.cel q.m≠0→st=0∧sa=nS∧sm=nS∧se=nS):=by
 have h:=Y.up (L':=[]) (by simp);have hm:=ho.up (L':=[]) (by simp);have G:msE c.cel q.m=if mcE c.cel q.m≠0 then mcE c.cel q.m else suE (mcC c.cel q.m):=rfl
 have hq:msA c.cel q.m=K9 (mcC c.cel q.m):=rfl;rw[hq];refine Zb (msE c.cel q.m) λE hE=>?_;rw[hE]at G ⊢;refine QE.of_W func49 O ntmps49 results49 (by simp) ?_;refine Qc<|xl O<|QQ (us:=c.cells) O λb2 w1 hg hG hs=>xl O<|QQ (us:=YA q) O λb3 w2 ha hH ht=>xl O<|Qu (us:=[nS,.int .i64 0,nS,nS]) O λb4 w3 hc hI hh=>Qe ?_;have he:=(hg.trans ha).trans hc;have hJ:=hg.size
 have hK:=ha.size;have hM:=hh.lt;refine Qc<|x (Qn ((hs.ext ha).ext hc) O O)<|x (Qn (ht.ext hc) O O)<|xl O<|xf<|(QgL (h.ext he) (hm.ext he)).mono ?_;rintro r4 w4 ⟨hf,us,rfl,hi,hu,hO,hw⟩;have hP:=hf.size;have hy:=he.trans hf;refine Qb<|x (Qj O O)<|x (Qj O O)<|xl O<|Qu (us:=YR) O λb6 w5 hz h2 h3=>xl O<|Qo (us:=us) h3 O O hi O hu λJ h4 h5 =>
  Qe ?_
 have T:Step [] w4 J:=hz.then1 h4 h2;have U:=hy.trans T;have hQ:=T.size;have hj:=(hh.ext hf).ext T;refine Qg<|Qc<|Qb<|x (Q7 O O)<|xe<|Q4 rfl (λH=>?_) (λH=>?_)
 ·rw[if_pos H]at G;subst G;refine Qc<|x (QN Z)<|Qb<|xl O<|Qo (us:=[nS,.int .i64 0,nS,nS]) hj O O O O ⟨O,O,O,O,Z⟩ λw7 h6 h7=>Qe ?_;exact Qk ⟨[.agg [nS,.int .i64 0,nS,nS].toArray,.int .i64 (mcE c.cel q.m)],⟨⟨_,O,Qw O (h7.at (L:=[]) (by simp)).cells⟩,rfl,Z⟩,U.then1 h6 (by omega),nS,0,nS,nS,rfl,⟨rfl,rfl,rfl,Z⟩,λY=>absurd Y H,λ_=>⟨rfl,rfl,rfl,rfl⟩⟩
 rw[if_neg H]at G;subst G;obtain⟨cl,hv,h8,h9⟩:=hw (Lm.1 H);have hA:ZJ [] J.heap cl:=(h9 [] (by simp)).ext T;have hk:=Js hA (hp.ext U);rw[h8]at hk;have hB:∀R,QE prog 12 [cl.val] J R→QE prog 12 [.agg us.toArray] J R:=λR hR=>by rw[hv];exact hR
 have hsup':=hB _ hk;refine Qi<|Qc<|x (Qn h5 O hi)<|xl O<|xf<|hsup'.mono ?_;rintro r8 w8 ⟨hl,sa,sm,se,rfl,V,hC,hD⟩;refine Zb (if Y1 (mcC c.cel q.m)=0 then(K9 (mcC c.cel q.m)).st else 0) λN I=>?_
 rw[I];refine x (Qj O O)<|x (Qj O O)<|xl O<|Qo (us:=[sa,.int .i64 N,sm,se]) (hj.ext hl) O O O O ⟨V.1,O,V.2.1,V.2.2.1,Z⟩ λw9 hn hF=>Qe<|Qk ⟨[.agg [sa,.int .i64 N,sm,se].toArray,.int .i64 (suE (mcC c.cel q.m))],⟨⟨_,O,Qw O (hF.at (L:=[]) (by simp)).cells⟩,rfl,Z⟩,(U.trans hl).then1 hn (by omega),sa,N,sm,se,rfl,V,λe=>⟨?_,λL hL=>?_⟩,λe=>?_⟩
 ·have e':Y1 (mcC c.cel q.m)=0:=e;rw[if_pos e']at I;exact I.symm
 ·have h1:=hD e (b4::L) (λb hb=>by
   rcases Lc.1 hb with rfl|hb
   ·omega
   have:=hL b hb;have:=U.size;omega)
  exact(h1.st (hn.mono (by simp))).up (λb hb=>.inl (by simp[hb]))
 have e':¬Y1 (mcC c.cel q.m)=0:=e;rw[if_neg e']at I;exact⟨I.symm,hC e⟩
theorem Xj.app3 {α:Type}{g:α→LV}{sz T:Nat}{ps:α→List (Value×Nat×Nat×LV)}{base:Nat}{E G:World}{v H:Value}{l:List α}{q:α}(h:Xj g sz T ps base E v l)
  (hq:∀t∈ps q,ZY base (ob v) E.heap t.1 t.2.1 t.2.2.1 t.2.2.2)
  (U:G.ownsRow base T sz H (l.length+1) (l.flatMap g++g q)) (I:Step (ob v) E G) (J:∀b∈ob H,b∈ob v∨E.heap.size≤b):Xj g sz T ps base G H (l++[q]):=by
 refine⟨?_,λd hd t ht=>?_⟩
 ·rw[Lj,LC];simpa using U
 rcases Lq.1 hd with hd|hd
 ·exact(h.each d hd t ht).app I J
 simp only[List.mem_singleton]at hd;subst hd;exact(hq t ht).app I J
abbrev Qnv (p:AV):List (Value×Nat×Nat×LV):=[(p.va,p.a.al.length,1,p.a.al.map (.int .i64)),(p.vm,p.a.mr.length,1,p.a.mr.map (.int .i64)),(p.ve,p.a.ed.length,3,p.a.ed.flatMap QD)]
abbrev AvP (base:Nat)(w:World)(v:Value)(l:List AV):Prop:=Xj Za 4 50 Qnv base w v l
theorem AvP.auts {base:Nat}{w:World}{v:Value}{l:List AV}{L:LN}(h:AvP base w v l)(G:l.length≤1099511627776)(E:∀b∈L,b<base):YX L w.heap v l :=
 ⟨QW h.own G (λb hb H=>by have:=(Qp h.own b hb).1;have:=E b H;omega),λp hp=>⟨h.each p hp (p.va,p.a.al.length,1,p.a.al.map (.int .i64)) (by simp) L (λb hb=>.inl (E b hb)),h.each p hp (p.vm,p.a.mr.length,1,p.a.mr.map (.int .i64)) (by simp) L (λb hb=>.inl (E b hb)),h.each p hp (p.ve,p.a.ed.length,3,p.a.ed.flatMap QD) (by simp) L (λb hb=>.inl (E b hb))⟩⟩
def QnG (N:Nat)(H:Array Obj)(v:Value)(l:List QO):Prop:=∃ps:List AV,ps.map (·.a)=l∧∀L:LN,(∀b∈L,b<N)→YX L H v ps
theorem Qh5 {p:AV}(h1:p.va.oneCell'=true)(h2:p.vm.oneCell'=true)(h3:p.ve.oneCell'=true):∀u∈Za p,u.oneCell'=true:=by
 intro u hu;simp only[Za,List.mem_cons,List.not_mem_nil,or_false]at hu;rcases hu with rfl|rfl|rfl|rfl
 ·exact h1
 ·rfl
 ·exact h2
 exact h3
theorem Zp.parts {base N:Nat}{av:LN}{H:Array Obj}{p:AV}(h:∀L:LN,(∀b∈L,b<N)→Zp L H p.va p.vm p.ve p.a)(hb:base≤N)(G:∀b∈av,b<N):∀t∈Qnv p,ZY base av H t.1 t.2.1 t.2.2.1 t.2.2.2:=by
 intro t ht;simp only[List.mem_cons,List.not_mem_nil,or_false]at ht;rcases ht with rfl|rfl|rfl
 ·exact ZY.of_lt (λL E=>(h L E).al) hb G
 ·exact ZY.of_lt (λL E=>(h L E).mr) hb G
 exact ZY.of_lt (λL E=>(h L E).ed) hb G
theorem QgF {c:ZA}(h:UZ c):(mods c).length≤96:=by have:=jH h 3 (by omega);rw[QaZ]at this;omega
theorem Qdm:∀(l:LN) (b:Nat),l.foldl (λl b=>l &&& (65535 ^^^ b)) b≤b
 | [],_=>Lt _
 | _::l,_=>LJ (Qdm l _) Nat.and_le_left
theorem Qga {c:ZA}:∀i∈rem c,0≤i∧i<(c.co.length:Int):=by
 intro i hi;unfold rem setK at hi;obtain⟨j,hj,rfl⟩:=Lx.1 hi;have h1:=(LP.1 hj).2;have h2:=of_decide_eq_true h1;refine⟨by omega,?_⟩;refine Decidable.byContradiction λH=>?_;have E:c.co.length≤j:=by omega
 have I:Qb9 c≤2 ^ c.co.length - 1:=Qdm _ _;have hp:0<2 ^ c.co.length:=Nat.pow_pos (by decide);have J:2 ^ c.co.length≤2 ^ j:=Nat.pow_le_pow_right (by decide) E;have G:Qb9 c / 2 ^ j=0:=Nat.div_eq_of_lt (by omega);rw[G]at h2;cases h2
theorem Qb3 (c:ZA):VG c=if Zk c≠0 then Zk c else msL c (mods c):=rfl
theorem QaX (c:ZA)(m:Mdl)(l:List Mdl):msL c (m::l)=if msE c m≠0 then msE c m else msL c l:=rfl
abbrev coA (c:ZA)(i:Int):QO:=(c.co.getD i.toNat ⟨.empty,⟨[],0,[],[]⟩⟩).a
set_option maxRecDepth 4096 in
set_option maxHeartbeats 8000000 in
theorem KC {L:LN}{w:World}{c:CL}(I:ZJ L w.heap c)(g5:Kb w 4096):
  QE prog 14 [c.val] w λr w'=>Step [] w w'∧∃v,r=.tuple #[v,.int .i64 (VG c.cel)]∧(VG c.cel≠0→v=nS)∧(VG c.cel=0→v.oneCell'=true∧QnG w.heap.size w'.heap v (XX c.cel)):=by
 have h:=I.up (L':=[]) (by simp);have ho:=Qb3 c.cel;have g6:XX c.cel=(mods c.cel).map (msA c.cel)++(rem c.cel).map (coA c.cel):=rfl;refine Zb (VG c.cel) λE hE=>?_;rw[hE]at ho ⊢;refine QE.of_W func14 O ntmps14 results14 (by simp) ?_;refine Qc<|xl O<|QQ (us:=c.cells) O λb1 w1 hF mj ga=>x Qf<|Qe<|Qc<|x (Qn ga O O)<|xl O<|xf<|(Qc0 (h.ext hF)).mono ?_
 rintro r2 U ⟨hG,vM,lM,rfl,hM,mo,g7⟩;have gb:=hF.trans hG;have mq:=hF.size;have ms:=hG.size;refine Qb<|x (Qj O O)<|x (Qj O O)<|x Qf<|Qe<|Qg<|Qc<|Qb<|x (Q7 O O)<|xe<|Q4 rfl (λhp=>?_) (λhp=>?_)
 ·rw[if_pos hp]at ho;subst ho;refine Qc<|Qb<|x Qf<|Qe ?_;exact Qk ⟨[nS,.int .i64 (Zk c.cel)],⟨O,O,Z⟩,gb,nS,O,λ_=>O,λI=>absurd I hp⟩
 rw[if_neg hp]at ho;have hck:=Lm.1 hp;have g8:UZ c.cel:=(ZX hck).sr;have h4:=g7 hck;have mt:lM.length≤96:=by have:=QgF g8;rw[←h4,Lh]at this;exact this
 have gc:Zv [] U.heap vM lM.length 3 (lM.flatMap YA):=hM.arr (by omega) (by simp);have mu:(rem c.cel).length≤8:=YH _ _;have ge:=ga.ext hG;refine Qi<|Qc<|Qe<|Qg<|Qc<|Qb<|x (Qr gc O)<|Qb<|xe ?_
 refine Qh<|QA (α:=Nat×Value×List AV) [(2,3),(6,6),(8,10),(25,42)] (λz=>[(6,z.2.1),(25,.int .i64 z.1)]) (λz w'=>z.1≤lM.length∧Step [] U w'∧AvP U.heap.size w' z.2.1 z.2.2∧z.2.2.map (·.a)=(lM.take z.1).map (λq=>msA c.cel q.m)∧msL c.cel ((lM.drop z.1).map MV.m)=E) (λz=>lM.length - z.1) (by rfl) (0,nS,[]) ⟨O,O,Z⟩
  ⟨Ll _,Step.refl _ _,Xj.nil,O,by rw[List.drop_zero,h4];exact ho.symm⟩ ?_
 rintro⟨k,v,l⟩ g w3 ⟨hk,V,Y,hr,G⟩;simp only[]at hk Y hr G;have h6:=gb.trans V;have mv:=V.size;have mw:l.length=k:=by have:=congrArg List.length hr;rw[Lh,Lh,Ly]at this;omega
 have hH:=ge.ext V;have h3:=h.ext h6;refine Qc<|x (Qz O O)<|xe<|Qg<|QC O (λhI=>?_) (λhI=>?_)
 ·refine Qy ?_;have gg:lM.length≤k:=by have hJ:¬(k:Int)<(lM.length:Int):=hI;omega
  rw[Ln gg]at hr;rw[Ls gg]at G;have gh:E=0:=G.symm;have g9:l.map (·.a)=(mods c.cel).map (msA c.cel):=by rw[hr,←h4,MG];rfl
  refine Qc<|x (Qn hH O O)<|xl O<|xf<|(Qab h3).mono ?_;rintro r4 w4 ⟨h7,vR,rfl,_,ka⟩;have hR:=ka hck;have kb:=h6.trans h7;have mx:=h7.size;refine Qb<|x (Qj O O)<|x (Qj O O)<|x Qf<|Qe<|Qg<|Qc<|Qb<|x (Q7 O O)<|xe<|Q4 O (λgi=>?_) (λgi=>?_)
  ·exact absurd hck gi
  refine Qi ?_;have kc:QH [] w4.heap vR (rem c.cel):=Qt.ints hR (by omega) (by simp);refine Qg<|Qc<|Qb<|x (Qr kc O)<|Qb<|xe ?_
  refine Qh<|QA (α:=Nat×Value×List AV) [(6,6),(13,14),(53,78)] (λz=>[(6,z.2.1),(53,.int .i64 z.1)]) (λz w'=>z.1≤(rem c.cel).length∧Step (ob v) w4 w'∧AvP U.heap.size w' z.2.1 z.2.2∧z.2.2.map (·.a)=(mods c.cel).map (msA c.cel)++((rem c.cel).take z.1).map (coA c.cel)∧∀b∈ob z.2.1,b∈ob v∨w4.heap.size≤b) (λz=>(rem c.cel).length - z.1) (by rfl) (0,v,l) ⟨O,O,Z⟩
   ⟨Ll _,Step.refl _ _,Xj.ext Y h7,by simp only[List.take_zero,List.map_nil,List.append_nil];exact g9,λb hb=>.inl hb⟩ ?_
  rintro⟨j,vj,lj⟩ g w5 ⟨hj,hs,ha,hu,hK⟩;simp only[]at hj ha hu hK;have hN:=Qp Y.own;have gj:=Qp ha.own;have gk:Step [] w w5:=kb.then hs (λb hb=>.inr (by have:=(hN b hb).1;omega));have h5:=h.ext gk;have my:=hs.size;have mz:lj.length≤200:=by
   have e1:=congrArg List.length hu;rw[Lh,Lj,Lh,Lh,Ly,←h4,Lh]at e1;omega
  have ke:QT w5.heap b1 37 c.cells:=(hH.ext h7).step hs (λhb=>by have:=(hN b1 hb).1;have:=ge.lt;omega);have kf:QH [] w5.heap vR (rem c.cel):=(((Qt.ints hR (by omega) (L:=ob v) (λb hb=>(hN b hb).2)).st hs)).up (by simp);refine Qc<|x (Qz O O)<|xe<|Qg<|QC O (λhO=>?_) (λhO=>?_)
  ·refine Qy ?_;have kg:(rem c.cel).length≤j:=by have hJ:¬(j:Int)<((rem c.cel).length:Int):=hO;omega
   rw[Ln kg,←g6]at hu;refine Qc<|Qb<|x Qf<|Qe ?_;exact Qk ⟨[vj,.int .i64 0],⟨O,O,Z⟩,gk,vj,by rw[gh];rfl,λI=>absurd gh I,λ_=>⟨QK ha.own,lj,hu,λL hL=>AvP.auts ha (by omega) (λb hb=>by have:=hL b hb;omega)⟩⟩
  have he:j<(rem c.cel).length:=by have hJ:(j:Int)<((rem c.cel).length:Int):=hO;omega
  have gl:(rem c.cel).take (j+1)=(rem c.cel).take j++[(rem c.cel)[j]'he]:=Le he;have gm:=Qga _ (Li he);refine Qi<|Qg<|Qh<|Qc<|xii (i:=j) kf O O he λm0 gn=>?_;refine Zb ((rem c.cel)[j]'he) λi hi=>?_;rw[hi]at gn gl gm;have kh:c.cel.co.length=c.co.length:=Lh ..;rw[kh]at gm;have ki:i=(i.toNat:Int):=by omega
  have hv:i.toNat<c.co.length:=by omega
  have hw:=Li hv;have go:coA c.cel i=(c.co[i.toNat]'hv).p.a:=by
   show((c.co.map IV.it).getD i.toNat _).a=_;simp[List.getD,hv,IV.it]
  refine x (Qv gn O)<|Qe<|Qc<|x (Qa O)<|x (Qd ke O O)<|Qb<|xig (g:=Zi) (i:=i.toNat) Xf h5.co.arr O (congrArg (Value.int .i64) ki) hv λm1 gq=>?_;refine Zb (c.co[i.toNat]'hv) λq hq=>?_;rw[hq]at gq hw go;have J:=h5.co.each q hw;refine x (Zg O)<|x (QI (us:=[q.p.va,.int .i64 q.p.a.st,q.p.vm,q.p.ve]) (gq.from 1) O O)<|xl O<|Qu (us:=[nS,.int .i64 0,nS,nS]) O λgr w6 kj kk hf =>
   xl rfl<|Qo (us:=[q.p.va,.int .i64 q.p.a.st,q.p.vm,q.p.ve]) hf O O O O ⟨J.al.one,O,J.mr.one,J.ed.one,Z⟩ λH kn hf=>xe ?_
  have hP:Step [] w5 H:=kj.then1 kn kk;have hg:Step [] H { H with drawn:=H.drawn+1 }:=Step.drew _ _
  have m2:=hP.size;have h8:gr∉ob vj:=λhm=>by have:=(gj gr hm).2;omega
  have hQ:=J.ext hP;refine QV (Step (ob vj) H) [(0,true),(1,true),(2,true),(4,true),(5,true),(6,true),(7,true),(9,true),(10,true),(3,false),(8,false),(11,false),(12,true),(13,false),(14,false),(15,true)] mixed (by rfl) (by kernel_rfl) (Step.drew _ _) ?_;refine p (λ_=>Qm)<|p (λ_=>Qa O)<|pq (λ_ hc=>Qd (hf.step hc h8) O O)<|p (λ_=>Qa O)<|pq (λ_ hc=>Qd (hf.step hc h8) O O) <|
   p (λ_=>Qa O)<|pq (λ_ hc=>Qd (hf.step hc h8) O O)<|p (λ_=>Qa O)<|pq (λ_ hc=>Qd (hf.step hc h8) O O) <|
   pk<|xf<|(Yv (hQ.al.ext hg)).mono ?_
  rintro r8 w8 ⟨hh,hS⟩;refine⟨(hg.trans hh).any,?_⟩;refine pk<|xf<|(Yv ((hQ.mr.ext hg).ext hh)).mono ?_;rintro r9 w9 ⟨hy,hT⟩;refine⟨((hg.trans hh).trans hy).any,?_⟩;refine pk<|xf<|(zn (((hQ.ed.ext hg).ext hh).ext hy)).mono ?_;rintro hz m3 ⟨hU,hV⟩;have hB:=((hg.trans hh).trans hy).trans hU;refine⟨hB.any,?_⟩
  refine p (λ_=>QN ⟨Zo hS,O,Zo hT,Zo hV,Z⟩)<|pk<|QF (us:=[Za ⟨r8,r9,hz,q.p.a⟩]) O O (by decide) (by simp) ⟨rfl,rfl,Z⟩ λm4 m5 hl m6 ko=>⟨(hB.trans hl).any,?_⟩;have hC:=(hP.trans hB).trans hl;have m7:=hC.size;have m8:=hh.size;have m9:=hy.size;have pa:({ H with drawn:=H.drawn+1 }:World).heap.size=H.heap.size:=rfl
  refine pk<|Q5 (news:=Za ⟨r8,r9,hz,q.p.a⟩) (L:=[]) (Qs ha.own hC) O O O (ko.at (by simp)) (Qh5 (p:=⟨r8,r9,hz,q.p.a⟩) (QK hS) (QK hT) (QK hV)) (by omega) (by omega) λgs kp kq hW gt=>⟨(hB.trans hl).any.trans' hW,?_⟩;refine p (λ_=>Qf)<|pe ?_;have hX:∀b∈ob vj,b<H.heap.size:=λb hb=>by have:=(gj b hb).2;omega
  have kr:AvP U.heap.size kp gs (lj++[⟨r8,r9,hz,q.p.a⟩]):=Xj.app3 (Xj.ext ha hC) (λt ht=>by
   simp only[List.mem_cons,List.not_mem_nil,or_false]at ht;rcases ht with rfl|rfl|rfl
   ·exact ZY.of_own (Qs (Qs (Qs hS hy) hU) hl) J.al.le (by omega) (λb hb=>by have:=hX b hb;omega)
   ·exact ZY.of_own (Qs (Qs hT hU) hl) J.mr.le (by omega) (λb hb=>by have:=hX b hb;omega)
   exact ZY.of_own (Qs hV hl) J.ed.le (by omega) (λb hb=>by have:=hX b hb;omega)) kq hW gt
  refine Qx<|QM O O<|Qb<|xe<|⟨(j+1,gs,lj++[⟨r8,r9,hz,q.p.a⟩]),by simp only[];omega,⟨O,O,Z⟩,he,(hs.trans hC).then hW hK,kr,?_,λb hb=>?_⟩
  ·simp only[];rw[gl,Lv,hu,Lv,LB,Mo,Mo,go]
  rcases gt b hb with h9|h9
  ·exact hK b h9
  exact .inr (by omega)
 have T:k<lM.length:=by have hJ:(k:Int)<(lM.length:Int):=hI;omega
 have gu:lM.take (k+1)=lM.take k++[lM[k]'T]:=Le T;have hw:=Li T;rw[LE T,LT,QaX]at G;have kt:=Z5.ext hM V;have ku:=gc.ext V;refine Qi<|Qg<|Qh<|Qc<|xig (g:=YA) (i:=k) QlD ku O O T λpc gv=>?_;refine Zb (lM[k]'T) λq hq=>?_;rw[hq]at gv gu hw G
 have gx:QH [] w3.heap q.v q.co:=kt.each q hw [] (by simp);refine x (QI gv O O)<|xl O<|Qu (us:=[.int .i64 0,.int .i64 0,nS]) O λb8 pd kv kw hY=>xl O<|Qo (us:=YA q) hY O O O O ⟨O,O,gx.one,Z⟩ λgy kx hY =>
  xe ?_
 have h1:Step [] w3 gy:=kv.then1 kx kw;have gz:=h6.trans h1;have pf:=h1.size;refine Qc<|x (Qn (hH.ext h1) O O)<|x (Qn hY O O)<|xl O<|xf<|(Qjv (q:=q) (h.ext gz) (gx.ext h1) (g5.ext gz)).mono ?_;rintro pg kz ⟨k0,sa,st,sm,se,rfl,hn,k4,_⟩
 refine Qb<|x (Qj O O)<|x (Qj O O)<|xl O<|Qu (us:=[nS,.int .i64 0,nS,nS]) O λb9 ph k5 k6 hZ=>xl O<|Qo (us:=[sa,.int .i64 st,sm,se]) hZ O O O O ⟨hn.1,O,hn.2.1,hn.2.2.1,Z⟩ λk7 k8 hZ =>
  Qe ?_
 have g0:Step [] kz k7:=k5.then1 k8 k6;have g1:=(h1.trans k0).trans g0;refine Qg<|Qc<|Qb<|x (Q7 O O)<|xe<|Q4 rfl (λh2=>?_) (λh2=>?_)
 ·rw[if_pos h2]at G;subst G;refine Qc<|Qb<|x Qf<|Qe ?_;exact Qk ⟨[nS,.int .i64 (msE c.cel q.m)],⟨O,O,Z⟩,h6.trans g1,nS,O,λ_=>O,λI=>absurd I h2⟩
 rw[if_neg h2]at G;obtain⟨k9,hA⟩:=k4 (Lm.1 h2);subst k9;have hge:=Qp Y.own;refine Qi<|Qx<|Qb<|x (Qn hZ O O)<|xl O<|QF (us:=[Za ⟨sa,sm,se,msA c.cel q.m⟩]) O O (by decide) (by simp) ⟨rfl,rfl,Z⟩ λpj pn g2 po ma=>?_;have hD:=g1.trans g2;have pp:=hD.size
 refine xl rfl<|Q5 (news:=Za ⟨sa,sm,se,msA c.cel q.m⟩) (L:=[]) (Qs Y.own hD) O O O (ma.at (by simp)) (Qh5 (p:=⟨sa,sm,se,msA c.cel q.m⟩) hn.1 hn.2.1 hn.2.2.1) (by omega) (by omega) λg3 mc mf g4 mg =>
  Qe ?_
 have mh:AvP U.heap.size mc g3 (l++[⟨sa,sm,se,msA c.cel q.m⟩]):=Xj.app3 (Xj.ext Y hD) (Zp.parts (N:=gy.heap.size) (p:=⟨sa,sm,se,msA c.cel q.m⟩) (λL hL=>((hA L hL).ext g0).ext g2) (by omega) (λb hb=>by have:=(hge b hb).2;omega)) mf g4 mg;refine Qx<|QM O O<|Qb<|xe ?_
 refine⟨(k+1,g3,l++[⟨sa,sm,se,msA c.cel q.m⟩]),by simp only[];omega,⟨O,O,Z⟩,T,(V.trans hD).then g4 (λb hb=>.inr (hge b hb).1),mh,?_,G⟩;simp only[];rw[gu,Lv,hr,Lv];rfl
abbrev gtA (aa:List QO)(i:Nat):QO:=aa.getD i ⟨[],0,[],[]⟩
def rfP (aa:List QO)(t:LI)(v:Int)(i:Nat):Bool:=!(eget (gtA aa i).ed (cget t i) v).isSome && decide (v∈(gtA aa i).al)
def rfN (aa:List QO)(t:LI)(v:Int)(n:Nat):LI:=((List.range n).filter (rfP aa t v)).map λi:Nat=>(i:Int)
def rfL (aa:List QO)(t:LI)(v:Int):LI:=rfN aa t v aa.length
theorem Qf8 (aa:List QO)(t:LI)(v:Int)(n:Nat):rfN aa t v (n+1)=rfN aa t v n++if rfP aa t v n=true then[(n:Int)]else[]:=by
 unfold rfN;rw[ND,L2,Lv];congr 1;by_cases h:rfP aa t v n=true
 ·rw[if_pos h];simp[h]
 rw[if_neg h];simp[h]
theorem Qja (aa:List QO)(t:LI)(v:Int)(n:Nat):(rfN aa t v n).length≤n:=by
 unfold rfN;rw[Lh];have:=L3 (rfP aa t v) (List.range n);rw[List.length_range]at this;exact this
set_option maxHeartbeats 4000000 in
theorem jE {w:World}{v vt:Value}{ps:List AV}{ts:LI}(h:YX [] w.heap v ps)(ht:QH [] w.heap vt ts)(e:Int):
  QE prog 56 [v,vt,.int .i64 e] w λr w'=>Step [] w w'∧∃vr,r=.tuple #[vr,.int .i64 (ckV (ps.map (·.a)) ts e)]∧(ckV (ps.map (·.a)) ts e≠0→vr=Q0)∧(ckV (ps.map (·.a)) ts e=0→Qt 3 w.heap.size w' vr (rfL (ps.map (·.a)) ts e)):=by
 refine Zb (ckV (ps.map (·.a)) ts e) λE hE=>?_;rw[hE];refine QE.of_W func56 O ntmps56 results56 (by simp) ?_;refine Qc<|x Qf<|Qe<|Qg<|Qc<|Qb<|Qb<|Qb<|xl O<|xf<|(z8 h ht e).mono ?_;rintro r1 w1 ⟨hy,ha⟩;rw[hE]at hy;subst hy;refine Qe<|Qc<|Qb<|x (Q7 O O)<|xe<|Q4 rfl (λhe=>?_) (λhe=>?_)
 ·refine Qc<|Qb<|x Qf<|Qe ?_;exact Qk ⟨[Q0,.int .i64 E],⟨O,O,Z⟩,ha,Q0,O,λ_=>O,λe=>absurd e he⟩
 have hf:E=0:=Lm.1 he;have hc:ckV (ps.map (·.a)) ts e=0:=hE.trans hf;have hC:ckT (ps.map (·.a)) ts=0:=by
  unfold ckV at hc;split at hc
  ·rename_i h1;exact absurd hc h1
  rename_i h1;exact Lm.1 h1
 obtain⟨h1,h2,h3⟩:=Qbt hC;rw[Lh]at h1;have hl:ts.length=ps.length:=by have:=h3.1;rw[Lh]at this;exact this
 refine Qi<|Qc<|Qb<|xl O<|xf<|(Qdw (h.ext ha) h1 (λp hp=>(h2 p.a (LL hp)).al_le) (by simp)).mono ?_;rintro r2 w2 ⟨hD,ve,vs,ms,rfl,hM,hF⟩;have hG:=ha.trans hD;have hH:=hM.sl.one;refine xl rfl<|Qu (us:=[nS,nS,nS]) O λb9 w3 hI hJ hK=>xl O<|Qo (us:=[v,ve,vs]) hK O O O O ⟨h.arr.one,QK hF,hH,Z⟩ λw4 hL hN=>xe ?_;have hg:Step [] w2 w4:=hI.then1 hL hJ
 have hh:=hG.trans hg;have hO:=hh.size;have gl:=hg.size;refine Qc<|Qe<|Qg<|Qc<|Qb<|x (Qr (h.ext hh).arr O)<|Qb<|xe<|Qh<|QA (α:=Nat×Value) [(10,14),(26,58)] (λz=>[(10,z.2),(26,.int .i64 z.1)]) (λz w'=>z.1≤ps.length∧Step [] w4 w'∧Qt 3 w4.heap.size w' z.2 (rfN (ps.map (·.a)) ts e z.1)) (λz=>ps.length - z.1) (by rfl) (0,nS) ⟨O,O,Z⟩
  ⟨Ll _,Step.refl _ _,QP _ _ _ _⟩ ?_
 rintro⟨k,vo⟩ g w5 ⟨hk,I,J⟩;simp only[]at hk J;have hi:=hh.trans I;have gm:=Qja (ps.map (·.a)) ts e k;have gn:=I.size;refine Qc<|x (Qz O O)<|xe<|Qg<|QC O (λhj=>?_) (λhj=>?_)
 ·refine Qy ?_;have hQ:k=ps.length:=by have hR:¬(k:Int)<(ps.length:Int):=hj;omega
  have hS:rfN (ps.map (·.a)) ts e k=rfL (ps.map (·.a)) ts e:=by unfold rfL;rw[Lh,hQ]
  rw[hS]at J;refine Qc<|Qb<|x Qf<|Qe ?_;exact Qk ⟨[vo,.int .i64 0],⟨O,O,Z⟩,hi,vo,by rw[hf];rfl,λe=>absurd hf e,λ_=>Zc J hO⟩
 have G:k<ps.length:=by have hR:(k:Int)<(ps.length:Int):=hj;omega
 have T:k<ts.length:=by omega
 have h0:k<ms.length:=by rw[hM.ml];exact G
 have h4:=(hM.ext hg).ext I;obtain⟨h6,_⟩:=h4.mp k h0 G;have hm:=Li G;have hT:gtA (ps.map (·.a)) k=(ps[k]'G).a:=by unfold gtA;simp[List.getD,G]
 have hU:cget ts k=ts[k]'T:=by unfold cget;simp[List.getD,T]
 have H:=Qf8 (ps.map (·.a)) ts e k;have hP:rfP (ps.map (·.a)) ts e k=(!(eget (ps[k]'G).a.ed (ts[k]'T) e).isSome && decide (e∈(ps[k]'G).a.al)):=by unfold rfP;rw[hT,hU]
 rw[hP]at H;have h5:=h.ext hi;refine Qi<|Qg<|Qh<|Qc<|Qb<|xig (g:=Za) (i:=k) Jr h5.arr O O G λgo h7=>?_;refine Zb (ps[k]'G) λq hq=>?_;refine Zb (ts[k]'T) λtk h8=>?_;rw[hq]at h7 hm h6 H;rw[h8]at H;have Y:=h5.each q hm;have h9:=h2 q.a (LL hm);refine x (QI h7 O O)<|xl O<|Qu (us:=[nS,.int .i64 0,nS,nS]) O λgq w6 hV hW hX=>x Qf <|
  xl rfl<|Qo (us:=Za q) hX O O O O ⟨Y.al.one,O,Y.mr.one,Y.ed.one,Z⟩ λU hY hZ=>xe ?_
 have V:Step [] w5 U:=hV.then1 hY hW;have ga:=(hN.ext I).ext V;have gb:=h4.ext V;have gc:=h6.ext V;refine Qg<|QV (Step [] U) [(0,true),(1,true),(2,true),(3,true),(4,true),(5,true),(6,true),(7,true),(8,true),(9,true),(10,true),(11,true),(12,true),(13,true),(14,true),(15,true),(16,true)] mixed (by rfl) (by kernel_rfl) (Step.drew _ _) ?_
 refine p (λ_=>Qa O)<|pq (λ_ hc=>Qd (ga.ext hc) O O)<|p (λ_=>Qm)<|Go.Lg.pig O (g:=Qa0) (λ_=>O) gb.sl O O h0 λgr ge =>
  pq (λ_ hc=>Qv (ge.ext hc) O)<|p (λ_=>Qm)<|p (λ_=>Qm)<|pii O ((ht.ext hi).ext V) O O T λgs hA=>?_
 rw[h8]at hA;refine pq (λ_ hc=>Qv (hA.ext hc) O) <|
  p (λ_=>Qm)<|p (λ_=>QN ⟨O,O,Z⟩)<|pq (λ_ hc=>Qdp (s:=q.a) (q:=tk) (v:=e) (gc.ext hc) h9.edi O O)<|p (λ_=>Qm)<|p (λ_=>Qj O O) <|
  p (λ_=>Qj O O)<|p (λ_=>Qf)<|p (λ_=>Qf)<|pe ?_
 have hB:Step [] U { U with drawn:=U.drawn+1 }:=Step.drew _ _
 have hn:=V.trans hB;refine QX (α:=Bool) [(46,53)] (λz=>[(53,.bool z)]) (λz w'=>Step [] w5 w'∧z=(!(eget q.a.ed tk e).isSome && decide (e∈q.a.al))) (by rfl) ?_ ?_
 ·refine Qx<|Qb<|xB (Zq O) (λho=>?_) (λho=>?_)
  ·refine Qb<|x (Qa O)<|x (Qd (hZ.ext hB) O O)<|Qb<|xl O<|xf<|(YK ((Y.al.ext hn)) h9.ali e).mono ?_;rintro r8 w8 ⟨rfl,rfl⟩;refine x (Qq O)<|xe<|⟨decide (e∈q.a.al),La,hn,?_⟩;have hr:(!decide ((eget q.a.ed tk e).isSome=true))=true:=ho;have hs:(eget q.a.ed tk e).isSome=false:=by simpa using hr
   rw[hs];rfl
  refine Qb<|xs O<|xs O<|xs O<|xs O<|x (Qq O)<|xe<|⟨false,La,hn,?_⟩;have hr:(!decide ((eget q.a.ed tk e).isSome=true))=false:=ho;have hs:(eget q.a.ed tk e).isSome=true:=by simpa using hr
  rw[hs];rfl
 rintro z g w9 ⟨hu,hz⟩;rw[←hz]at H;refine QY rfl (λhv=>?_) (λhv=>?_)
 ·rw[if_pos hv]at H;refine Qx<|Qb<|Qb<|xl O<|QF (us:=[[.int .i64 k]]) O O (by decide) (by simp) ⟨rfl,rfl,Z⟩ λgt gu gg gv gh=>?_;have hw:=hu.trans gg;have gx:=hw.size;refine xl O<|Q5 (news:=[.int .i64 k]) (L:=[]) (Qs J hw) O O O (gh.at (by simp)) (by simp[Value.oneCell']) (by omega) (by omega) λgi gy gj gk gz =>
   Qe<|Qx<|QM O O<|Qb<|xe ?_
  have hge:=Qp J;refine⟨(k+1,gi),by simp only[];omega,⟨O,O,Z⟩,G,(I.trans hw).then gk (λb hb=>.inr (hge b hb).1),?_⟩;simp only[];rw[H];exact Qt.snoc gj
 rw[if_neg (by rw[hv];simp),LK]at H;refine Qi<|Qx<|QM O O<|Qb<|xe ?_;exact⟨(k+1,vo),by simp only[];omega,⟨O,O,Z⟩,G,I.trans hu,by simp only[];rw[H];exact Qs J hu⟩
section
variable {s:QO}{l:List VE}{n:Nat}
end
section
variable {s:QO}{l:List VE}{n:Nat}
end
section
variable {s:QO}{l:List VE}{n:Nat}
end
section
variable {p s:QO}{pairs:List (LI)}
end
section
variable {s:QO}{l:List VE}{n:Nat}
end
section
variable {s:QO}{l:List VE}{n:Nat}{nm:LI}
end
end Go.Proofs.YtjcgijbhaemldaaGreatDoor
