/- Merged out of 31 texts. -/
import Derived.Test.YtjcgijbhaemldaaGreatDoorKac
import Derived.Shelf.SlSortCmp.NoneTotal
import Derived.Ground.SlsfProg
import Derived.Tactics
namespace Go.Lg
theorem At.from {L:LN}{H:Array Obj}{a:Addr}{us:LV}(h:At L H a us) (j:Nat):At L H (a.add j) (us.drop j) :=
 ⟨λu hu=>by rw[Ym];exact h.out u (MO hu),λu hu=>by rw[Ym];exact h.lt u (MO hu),λi v E=>by
  rw[Addr.add_add];exact h.cell (j+i) v (by rw[←M2];exact E)⟩
end Go.Lg
namespace Go.Proofs.YtjcgijbhaemldaaGreatDoor
open Go.Proofs.Tryz
open Go.Lg
def lwB (l:LI) (n:Int):Nat:=(l.filter λx=>decide (x<n)).length
theorem QnZ {l:LI}{n:Int}{i:Nat}(_:Z8 l) (hi:i≤l.length) (h1:∀m (hm:m<l.length),m<i→l[m]<n) (h2:∀m (hm:m<l.length),i≤m→n≤l[m]):lwB l n=i:=by
 unfold lwB;have e1:(l.take i).filter (λx=>decide (x<n))=l.take i:=Nm.2 λx hx=>by
  obtain ⟨m,hm,rfl⟩:=LB hx;rw[Nb];have E:m<i∧m<l.length:=by rw[LD] at hm;omega
  exact decide_eq_true (h1 m E.2 E.1)
 have e2:(l.drop i).filter (λx=>decide (x<n))=[]:=MI.2 λx hx=>by
  obtain ⟨m,hm,rfl⟩:=LB hx;rw[List.getElem_drop];have E:i+m<l.length:=by rw[Ms] at hm;omega
  have:=h2 (i+m) E (by omega);simp;omega
 have H:l.filter (λx=>decide (x<n))=l.take i:=by
  conv=>lhs;rw[←ML i l]
  rw[Mb,e1,e2,LS]
 rw[H,LD];omega
theorem Qfr:∀{l:LI}{n:Int},Z8 l→n∈l→lwB l n=l.idxOf n
 | [],_,_,h=>by cases h
 | a::l,n,hi,h=>by
  have E:=L3.1 hi;unfold lwB;by_cases e:a=n
  ·subst e;have e2:l.filter (λx=>decide (x<a))=[]:=MI.2 λx hx=>by have:=E.1 x hx;simp;omega
   rw[Ml,if_neg (by simp),e2];simp
  have hm:n∈l:=by
   rcases Lh.1 h with h1 | h1
   ·exact absurd h1.symm e
   exact h1
  have ih:=Qfr E.2 hm;unfold lwB at ih;have ha:=E.1 n hm;rw[Ml,if_pos (decide_eq_true ha),LF,ih,List.idxOf_cons];have:(a == n)=false:=by simpa using e
  rw[this];rfl
theorem Qdg {L:LN}{w:World}{v:Value}{l:LI}(h:QL L w.heap v l) (hi:Z8 l) (n:Int) :
  QG prog 57 [v,.int .i64 n] w λr w'=>w'=w∧r=.tuple #[.int .i64 (lwB l n),.bool (decide (n∈l))]:=by
 have hu:=h.le;refine QG.of_W func57 Z ntmps57 results57 (by simp) ?_;refine Qc<|x Qe<|Qf<|Qc<|Qb<|x (Qr h Z)<|Qf<|Qc<|Qb<|x Qe<|Qf<|Qg<|Qh<|Qz (α:=Nat×Nat) [(7,9),(13,30)] (λz=>[(7,.int .i64 z.1),(8,.int .i64 z.2)])
  (λz w'=>w'=w∧z.1≤z.2∧z.2≤l.length∧(∀m (hm:m<l.length),m<z.1→l[m]<n)∧(∀m (hm:m<l.length),z.2≤m→n≤l[m])) (λz=>z.2 - z.1) (by rfl) (0,l.length) ⟨Z,Z,La⟩
  ⟨Z,Ln _,Lv _,λm _ U=>absurd U (Me m),λm h1 U=>absurd h1 (by simp only[] at U;omega)⟩ ?_
 rintro ⟨i,j⟩ g w1 ⟨rfl,hc,hj,E,H⟩;simp only[] at hc hj E H;refine Qg<|Qc<|Qb<|Qb<|x (QA Z Z)<|xe<|QC rfl (λhe=>?_) (λhe=>?_)
 ·have e:i=j:=by omega
  subst e;refine Qy<|QZ (α:=Bool) [(4,5),(31,53)] (λz=>[(4,.int .i64 i),(5,.bool z)]) (λz w'=>w'=w1∧z=decide (n∈l)) (by rfl) ?_ ?_
  ·refine Qx<|Qb<|Qb<|Qb<|xb (QA Z Z) (λhf=>?_) (λhf=>?_)
   ·have I:i<l.length:=by omega
    refine Qb<|Qb<|Qb<|xii h Z Z I λhv hg=>x (Qv hg Z)<|Qb<|xb (Zr Z Z) (λV=>?_) (λV=>?_)
    ·refine Qb<|xs Z<|xs Z<|xs Z<|xs Z<|xs Z<|xs Z<|xs Z<|xs Z<|xs Z<|x (Qo Z)<|x (Qo Z)<|x Qe<|Qf ?_;have:n∈l:=by rw[←V];exact Le I
     exact ⟨true,⟨Z,Z,La⟩,Z,by simp[this]⟩
    refine Qb<|Qb<|Qb<|xii h Z Z I λhw hk=>x (Qv hk Z)<|xl Z<|xf<|(QcC _).mono ?_;rintro r3 w3 ⟨rfl,rfl⟩;refine Qb<|xs Z<|xs Z<|x (Qo Z)<|x (Qo Z)<|x (Qo Z)<|x Qe<|Qf<|⟨false,⟨Z,Z,La⟩,Z,?_⟩;have:n∉l:=by
     intro hm;obtain ⟨m,J,Y⟩:=LB hm;by_cases hl:m<i
     ·have:=E m J hl;omega
     by_cases hn:m=i
     ·subst hn;exact V Y
     have:=Z8.get hi J (show i<m by omega);have:=H i I (Lv _);omega
    simp[this]
   refine Qb<|xs Z<|xs Z<|xs Z<|xs Z<|xs Z<|xs Z<|xs Z<|xs Z<|xs Z<|xs Z<|xs Z<|xs Z<|xs Z<|xs Z<|xs Z<|xs Z<|xs Z <|
    x (Qo rfl)<|x Qe<|Qf<|⟨false,⟨Z,Z,La⟩,Z,?_⟩
   have:n∉l:=by
    intro hm;obtain ⟨m,J,Y⟩:=LB hm;have:=E m J (by omega);omega
   simp[this]
  rintro z g w7 ⟨rfl,rfl⟩;exact Ql ⟨[.int .i64 i,.bool (decide (n∈l))],⟨Z,Z,La⟩,Z,by rw[QnZ hi (show i≤l.length by omega) E H];rfl⟩
 refine Qi<|Qh<|Qc<|Qb<|Qb<|QQ Z Z<|x (Xy Z (by exact ⟨by omega,by omega⟩))<|x (zz (n:=1) Z Z (by decide))<|x (Xy Z (by exact ⟨by omega,by omega⟩))<|Qf ?_;have hh:(((i:Int)+(j:Int)) / 2 ^ 1)=(((i+j) / 2:Nat):Int):=by omega
 rw[hh];generalize hq:(i+j) / 2=q;have ho:i≤q:=by omega
 have hp:q<j:=by omega
 have ha:q<l.length:=by omega
 refine Qc<|Qb<|Qb<|xii h Z Z ha λhy hr=>x (Qv hr Z)<|Qb<|xl Z<|xf<|(QfB _ _).mono ?_;rintro r8 w8 ⟨rfl,rfl⟩;refine xe<|QC rfl (λhb=>?_) (λhb=>?_)
 ·refine Qx<|Qb<|Qf<|⟨(i,q),by simp only[];omega,⟨Z,Z,La⟩,Z,ho,by omega,E,λm hm hs=>?_⟩;by_cases e:q=m
  ·subst e;omega
  have:=Z8.get hi hm (show q<m by simp only[] at hs;omega);omega
 refine Qx<|Qb<|QQ Z Z<|Qf<|⟨(q+1,j),by simp only[];omega,⟨Z,Z,La⟩,Z,hp,hj,λm hm ht=>?_,H⟩;by_cases e:m=q
 ·subst e;exact hb
 have:=Z8.get hi ha (show m<q by simp only[] at ht;omega);omega
theorem yt {L:LN}{w:World}{v:Value}{l:List Ed}(h:ZA L w.heap v l.length 3 (l.flatMap QB)) :
  QG prog 51 [v] w λr w'=>Step [] w w'∧w'.ownsRow w.heap.size 129 3 r l.length (l.flatMap QB):=by
 have hb:=h.le;refine QG.of_W func51 Z ntmps51 results51 (by simp) ?_;refine Qc<|Qf ?_;obtain ⟨ao,cap,E⟩:=h.shape;refine Qg<|Qc<|Qb<|x (Uh (show ev _ _=_ from E) Z)<|xe<|QW rfl (λh4=>?_) (λh4=>?_)
 ·refine Qc<|Qf<|Ql ⟨[nS],Lb,Step.refl _ _,?_⟩;rcases h.2.2 with ⟨h1,h2⟩ | ⟨a,c,h1,_⟩
  ·have:l=[]:=Lt h2;subst this;exact QP _ _ _ _
  rw[h1] at E;cases E;cases h4
 rcases h.2.2 with ⟨h1,h2⟩ | ⟨a,c,h1,h2,h3⟩
 ·rw[h1] at E;injection E with e1;subst e1;cases h4
 refine Qi<|Qc ?_;have U:∀u∈l.flatMap QB,u.oneCell'=true:=by
  intro u hu;obtain ⟨p,_,hp⟩:=MJ.1 hu;simp only[QB,List.mem_cons,List.not_mem_nil,or_false] at hp;rcases hp with rfl | rfl | rfl <;> rfl
 refine xl rfl<|U6 λb5 w1 H I J=>Qb<|xl Z<|Q6 (base:=w.heap.size) (J.own (n:=0) (sz:=3) Z (by omega) I) Z (show ev _ _=_ from h1) h.1 (h3.ext H) U (by omega) (by have:=J.lt;omega) λV w2 Y ha hc=>Qf<|Ql ⟨[V],Lb,H.then1 ha I,?_⟩;simpa[tup] using Y
theorem Qel {L:LN}{w:World}{v:Value}{l:List VD}(h:ZA L w.heap v l.length 5 (l.flatMap Zt)) :
  QG prog 195 [v] w λr w'=>Step [] w w'∧w'.ownsRow w.heap.size 89 5 r l.length (l.flatMap Zt):=by
 have hb:=h.le;refine QG.of_W func195 Z ntmps195 results195 (by simp) ?_;refine Qc<|Qf ?_;obtain ⟨ao,cap,E⟩:=h.shape;refine Qg<|Qc<|Qb<|x (Uh (show ev _ _=_ from E) Z)<|xe<|QW rfl (λh4=>?_) (λh4=>?_)
 ·refine Qc<|Qf<|Ql ⟨[nS],Lb,Step.refl _ _,?_⟩;rcases h.2.2 with ⟨h1,h2⟩ | ⟨a,c,h1,_⟩
  ·have:l=[]:=Lt h2;subst this;exact QP _ _ _ _
  rw[h1] at E;cases E;cases h4
 rcases h.2.2 with ⟨h1,h2⟩ | ⟨a,c,h1,h2,h3⟩
 ·rw[h1] at E;injection E with e1;subst e1;cases h4
 refine Qi<|Qc ?_;have U:∀u∈l.flatMap Zt,u.oneCell'=true:=by
  intro u hu;obtain ⟨p,_,hp⟩:=MJ.1 hu;simp only[Zt,List.mem_cons,List.not_mem_nil,or_false] at hp;rcases hp with rfl | rfl | rfl | rfl | rfl <;> rfl
 refine xl rfl<|U6 λb5 w1 H I J=>Qb<|xl Z<|Q6 (base:=w.heap.size) (J.own (n:=0) (sz:=5) Z (by omega) I) Z (show ev _ _=_ from h1) h.1 (h3.ext H) U (by omega) (by have:=J.lt;omega) λV w2 Y ha hc=>Qf<|Ql ⟨[V],Lb,H.then1 ha I,?_⟩;simpa[tup] using Y
structure Jh {α:Type}(g:α→LV) (sz T:Nat) (ps:α→List (Value×Nat×Nat×LV)) (base:Nat) (w:World) (v:Value) (l:List α):Prop where
 own:w.ownsRow base T sz v l.length (l.flatMap g)
 each:∀q∈l,∀t∈ps q,Z7 base (ob v) w.heap t.1 t.2.1 t.2.2.1 t.2.2.2
section
variable {α:Type} {g:α→LV} {sz T:Nat} {ps:α→List (Value×Nat×Nat×LV)} {base:Nat} {w w':World} {v:Value} {l:List α}
theorem Jh.nil:Jh g sz T ps base w (nS) []:=⟨QP _ _ _ _,λq hq=>by cases hq⟩
theorem Jh.ext (h:Jh g sz T ps base w v l) (hs:Step [] w w'):Jh g sz T ps base w' v l:=⟨Qt h.own hs,λq hq t ht=>(h.each q hq t ht).ext hs⟩
theorem Jh.low {X:LN}(h:Jh g sz T ps base w v l) (hs:Step X w w') (E:∀b∈X,b<base):Jh g sz T ps base w' v l :=
 ⟨Qk h.own hs (λb hb hm=>by have:=(Qq h.own b hb).1;have:=E b hm;omega),λq hq t ht=>(h.each q hq t ht).low hs E⟩
theorem Jh.app {E H:World}{I:Value}{q:α}(h:Jh g sz T ps base w v l) (hs:Step [] w E)
  (hq:∀t∈ps q,∃N e,E.ownsRow N e t.2.2.1 t.1 t.2.1 t.2.2.2∧t.2.1≤1099511627776∧w.heap.size≤N) (hb:base≤w.heap.size)
  (V:H.ownsRow base T sz I (l.length+1) (l.flatMap g++g q)) (J:Step (ob v) E H) (U:∀b∈ob I,b∈ob v∨E.heap.size≤b):Jh g sz T ps base H I (l++[q]):=by
 have Y:=Q2 h.own;refine ⟨?_,λd hd t ht=>?_⟩
 ·rw[Ll,LH];simpa using V
 rcases Lp.1 hd with hd | hd
 ·exact ((h.each d hd t ht).ext hs).app J U
 simp only[List.mem_singleton] at hd;subst hd;obtain ⟨N,e,h1,h2,h3⟩:=hq t ht;exact (Z7.of_own h1 h2 (by omega) (λb hb=>by have:=Y b hb;omega)).app J U
end
abbrev QlV (q:IV):List (Value×Nat×Nat×LV):=[(q.p.va,q.p.a.al.length,1,q.p.a.al.map (.int .i64)),(q.p.vm,q.p.a.mr.length,1,q.p.a.mr.map (.int .i64)),(q.p.ve,q.p.a.ed.length,3,q.p.a.ed.flatMap QB)]
abbrev IvP (base:Nat) (w:World) (v:Value) (l:List IV):Prop:=Jh Zm 5 92 QlV base w v l
def VJ (N:Nat) (H:Array Obj) (v:Value) (l:List Yo):Prop:=∃qs:List IV,qs.map IV.it=l∧∀L:LN,(∀b∈L,b<N)→Xr L H v qs
theorem IvP.itms {base:Nat}{w:World}{v:Value}{l:List IV}{L:LN}(h:IvP base w v l) (H:l.length≤1099511627776) (hm:∀q∈l,yW q.nm) (E:∀b∈L,b<base):Xr L w.heap v l :=
 ⟨QX h.own H (λb hb I=>by have:=(Qq h.own b hb).1;have:=E b I;omega),λq hq=>⟨h.each q hq (q.p.va,q.p.a.al.length,1,q.p.a.al.map (.int .i64)) (by simp) L (λb hb=>.inl (E b hb)),h.each q hq (q.p.vm,q.p.a.mr.length,1,q.p.a.mr.map (.int .i64)) (by simp) L (λb hb=>.inl (E b hb)),h.each q hq (q.p.ve,q.p.a.ed.length,3,q.p.a.ed.flatMap QB) (by simp) L (λb hb=>.inl (E b hb))⟩,hm⟩
instance:Bw prog 92 [.string .empty,nS,.int .i64 0,nS,nS] [(0,1),(1,4)]:=⟨by kernel_rfl,by decide⟩
set_option maxHeartbeats 4000000 in
theorem yB {L:LN}{w:World}{v vi:Value}{qs:List IV}{ix:LI}(h0:Xr L w.heap v qs) (hE:QL L w.heap vi ix) (hb:∀i∈ix,0≤i∧i<(qs.length:Int)) :
  QG prog 196 [v,vi] w λr w'=>Step [] w w'∧VJ w.heap.size w'.heap r (chs (qs.map IV.it) ix)∧r.oneCell'=true:=by
 have h:Xr [] w.heap v qs:=h0.up (by simp);have hi:QL [] w.heap vi ix:=hE.up (by simp);have hU:=hi.le;refine QG.of_W func196 Z ntmps196 results196 (by simp) ?_;refine Qc<|Qf<|Qc<|Qf<|Qg<|Qc<|Qb<|x (Qr hi Z)<|Qb<|xe ?_
 refine Qh<|Qz (α:=Nat×Value×List IV) [(5,5),(7,8),(11,41)] (λz=>[(5,z.2.1),(11,.int .i64 z.1)]) (λz w'=>z.1≤ix.length∧Step [] w w'∧IvP w.heap.size w' z.2.1 z.2.2∧z.2.2.map IV.it=chs (qs.map IV.it) (ix.take z.1)∧∀q∈z.2.2,yW q.nm) (λz=>ix.length - z.1) (by rfl) (0,nS,[]) ⟨Z,Z,La⟩
  ⟨Ln _,Step.refl _ _,Jh.nil,Z,λq hq=>by cases hq⟩ ?_
 rintro ⟨k,vo,qo⟩ g w1 ⟨hk,I,J,hg,hr⟩;simp only[] at hk J hg hr;have hV:qo.length=k:=by have:=congrArg List.length hg;unfold chs at this;rw[Li,Li,LD] at this;omega
 refine Qc<|x (QA Z Z)<|xe<|Qg<|QC Z (λhs=>?_) (λhs=>?_)
 ·refine Qy ?_;have hF:ix.length≤k:=by have hj:¬(k:Int)<(ix.length:Int):=hs;omega
  rw[Ls hF] at hg;refine Qc<|Qb<|Qf ?_;exact Ql ⟨[_],Lb,I,⟨qo,hg,λL hL=>J.itms (by omega) hr hL⟩,QO J.own⟩
 refine Qi ?_;have U:k<ix.length:=by have hj:(k:Int)<(ix.length:Int):=hs;omega
 have hG:=hb _ (Le U);have h7:ix.take (k+1)=ix.take k++[ix[k]'U]:=Lj U;refine Zh (ix[k]'U) λi h8=>?_;rw[h8] at hG h7;have hA:i=(i.toNat:Int):=by omega
 have V:i.toNat<qs.length:=by omega
 have hB:chs (qs.map IV.it) (ix.take (k+1))=chs (qs.map IV.it) (ix.take k)++[(qs[i.toNat]'V).it]:=by
  rw[h7];unfold chs;rw[Ly];simp[List.getD,V]
 have h1:=h.ext I;have hv:=Le V;refine Zh (qs[i.toNat]'V) λq hq=>?_;rw[hq] at hB hv;have H:=h1.each q hv;have hH:=h1.nm q hv;refine Qg<|Qh<|Qc<|xii (i:=k) (hi.ext I) Z Z U λhW hj=>?_;rw[h8] at hj;refine x (Qv hj Z)<|Qf<|Qc<|Qb<|Qb<|xig (g:=Zm) (i:=i.toNat) X0 h1.arr Z (congrArg (Value.int .i64) hA) V λhX hC=>?_;rw[hq] at hC
 refine x (Zj Z)<|x (QJ (us:=[q.p.va,.int .i64 q.p.a.st,q.p.vm,q.p.ve]) (hC.from 1) Z Z)<|xl Z<|Qu (us:=[nS,.int .i64 0,nS,nS]) Z λb8 w2 hI hJ Y =>
  xl rfl<|Qn (us:=[q.p.va,.int .i64 q.p.a.st,q.p.vm,q.p.ve]) Y Z Z Z Z ⟨H.al.one,Z,H.mr.one,H.ed.one,La⟩ λE hK Y=>xe ?_
 have hl:Step [] w1 E:=hI.then1 hK hJ;have ha:Step [] E { E with drawn:=E.drawn+1 }:=Step.drew _ _
 have hY:=hl.size;have hZ:=I.size;have hw:=Qq J.own;have h3:Xr (ob vo) E.heap v qs:=(h.up (L':=ob vo) (λb hb=>.inr (hw b hb).1)).ext (I.trans hl);have hn:b8∉ob vo:=λhm=>by have:=(hw b8 hm).2;omega
 have hy:=H.ext hl;refine QU (Step (ob vo) E) [(0,true),(1,true),(2,true),(3,true),(4,true),(5,true),(6,true),(7,true),(9,true),(10,true),(11,true),(12,true),(14,true),(15,true),(8,false),(13,false),(16,false),(17,true),(18,true),(19,false),(20,false),(21,true)] mixed (by rfl) (by kernel_rfl) (Step.drew _ _) ?_
 refine p (λ_=>Qm)<|p (λ_=>Qm)<|p (λ_=>Qm)<|Go.Lg.pig (g:=Zm) (i:=i.toNat) Z X0 h3.arr Z (congrArg (Value.int .i64) hA) V λga hD=>?_;rw[hq] at hD;refine p (λ_=>Zj Z)<|pq (λ_ hc=>Qv ((hD.fld 0 (.string q.nm) Z).st hc) Z)<|p (λ_=>Qa Z)<|pq (λ_ hc=>Qd (Y.step hc hn) Z Z)<|p (λ_=>Qa Z) <|
  pq (λ_ hc=>Qd (Y.step hc hn) Z Z)<|p (λ_=>Qa Z)<|pq (λ_ hc=>Qd (Y.step hc hn) Z Z) <|
  p (λ_=>Qa Z)<|pq (λ_ hc=>Qd (Y.step hc hn) Z Z)<|pk<|xf<|(Y2 (hy.al.ext ha)).mono ?_
 rintro r4 w4 ⟨he,hz⟩;refine ⟨(ha.trans he).any,?_⟩;refine pk<|xf<|(Y2 ((hy.mr.ext ha).ext he)).mono ?_;rintro r5 w5 ⟨hh,h2⟩;refine ⟨((ha.trans he).trans hh).any,?_⟩;refine pk<|xf<|(yt (((hy.ed.ext ha).ext he).ext hh)).mono ?_;rintro r6 w6 ⟨h4,h5⟩;have ho:=((ha.trans he).trans hh).trans h4;refine ⟨ho.any,?_⟩
 refine p (λ_=>QN ⟨Zp hz,Z,Zp h2,Zp h5,La⟩)<|p (λ_=>ZF [(0,[.string q.nm]),(1,[r4,.int .i64 q.p.a.st,r5,r6])] ⟨Z,Z,Z,Z,La⟩)<|pk<|QH (us:=[Zm ⟨q.nm,⟨r4,r5,r6,q.p.a⟩⟩]) Z Z (by decide) (by simp) ⟨rfl,rfl,La⟩ λgb w7 hf gc hM=>⟨(ho.trans hf).any,?_⟩;have hp:=(hl.trans ho).trans hf;have ge:=hp.size;have gg:({ E with drawn:=E.drawn+1 }:World).heap.size=E.heap.size:=rfl
 have gh:=he.size;have gi:=hh.size;refine pk<|Q6 (m:=1) (news:=Zm ⟨q.nm,⟨r4,r5,r6,q.p.a⟩⟩) (L:=[]) (Qt J.own hp) Z Z Z (hM.at (by simp)) (λu hu=>by
   simp only[List.mem_cons,List.not_mem_nil,or_false] at hu;rcases hu with rfl | rfl | rfl | rfl | rfl
   ·rfl
   ·exact QO hz
   ·rfl
   ·exact QO h2
   exact QO h5) (by omega) (by omega) λv8 w8 hN h6 hO=>⟨(ho.trans hf).any.trans' h6,?_⟩
 refine p (λ_=>Qe)<|pe ?_;have hP:=H.al.le;have hQ:=H.mr.le;have hR:=H.ed.le;have hS:IvP w.heap.size w8 v8 (qo++[⟨q.nm,⟨r4,r5,r6,q.p.a⟩⟩]):=J.app hp (λt ht=>by
  simp only[List.mem_cons,List.not_mem_nil,or_false] at ht;rcases ht with rfl | rfl | rfl
  ·exact ⟨_,_,Qt (Qt (Qt hz hh) h4) hf,hP,by omega⟩
  ·exact ⟨_,_,Qt (Qt h2 h4) hf,hQ,by omega⟩
  exact ⟨_,_,Qt h5 hf,hR,by omega⟩) (by omega) hN h6 hO
 refine Qx<|QQ Z Z<|Qb<|xe<|⟨(k+1,v8,_),by simp only[];omega,⟨Z,Z,La⟩,U,(I.trans hp).then h6 (λb hb=>.inr (hw b hb).1),hS,?_,λq' hT=>?_⟩
 ·simp only[];rw[hB,Ly,hg];rfl
 rcases Lp.1 hT with h9 | h9
 ·exact hr q' h9
 simp only[List.mem_singleton] at h9;subst h9;exact hH
theorem jx {L:LN}{w:World}{bp bm:Nat}{H I J U:Value}{co:LI}{mi:Bool}(V:QT w.heap bp 281 [H,I,J,U]) (hm:QT w.heap bm 4 [.bool mi]) (Y:QL L w.heap H co) (hi:Z8 co) (n:Int) :
  QG prog 197 [.int .i64 n,.pointer (some ⟨bp,0,none⟩),.pointer (some ⟨bm,0,none⟩)] w λr w'=>Step [bm] w w'∧r=.int .i64 (lwB co n)∧QT w'.heap bm 4 [.bool (mi || !decide (n∈co))]:=by
 refine QG.of_W func197 Z ntmps197 results197 (by simp) ?_;refine Qc<|Qf<|Qc<|x (Qa Z)<|x (Qd V Z Z)<|Qb<|xl Z<|xf<|(Qdg Y hi n).mono ?_;rintro r1 w1 ⟨rfl,rfl⟩;refine Qb<|x (Qj Z Z)<|x (Qj Z Z)<|x Qe<|Qf<|QZ (α:=Bool) [(14,18)] (λz=>[]) (λz w'=>Step [bm] w1 w'∧QT w'.heap bm 4 [.bool (mi || !decide (n∈co))]) (by rfl) ?_ ?_
 ·refine Qx<|xB (Qd hm Z Z) (λE=>?_) (λE=>?_)
  ·refine Qb<|xs Z<|xs Z<|x (Qo Z)<|xl Z<|QF (j:=0) (u:=.bool true) hm Z Z (by simp) rfl λw2 ha hb=>xe ?_;exact ⟨true,La,ha,by rw[E];exact hb⟩
  refine Qb<|Qb<|x (Zs Z)<|x (Qo Z)<|xl Z<|QF (j:=0) (u:=.bool (!decide (n∈co))) hm Z Z (by simp) rfl λw3 hc he=>xe ?_;exact ⟨true,La,hc,by rw[E];exact he⟩
 rintro z g w4 ⟨hf,hg⟩;refine Qc<|Qb<|Qf ?_;exact Ql ⟨[_],Lb,hf,Z,hg⟩
theorem Z7.of_lt {base N:Nat}{av:LN}{H:Array Obj}{v:Value}{n sz:Nat}{cs:LV}(h:∀L:LN,(∀b∈L,b<N)→ZA L H v n sz cs) (hb:base≤N) (E:∀b∈av,b<N):Z7 base av H v n sz cs:=λL I =>
 h L (λb J=>(I b J).elim (λh=>by omega) (E b))
theorem Kj (L:LN) (H:Array Obj):QL L H (nS) []:=ZA.nil L H 1
end Go.Proofs.YtjcgijbhaemldaaGreatDoor
namespace Go.Lg
open Go.RowKit
def yK (P:Program) (all:List Oper) (C:World→Prop) (K:LN→Fr→World→Prop):List (Nat×Bool)→LN→Fr→World→Prop
 | [],own,f,w=>K own f w
 | (j,true)::l,own,f,w=>Yi all f (QK all j)=true∧∃v,(∀w',(yV (QK all j)=true→C w')→(execOp (ev f) (QK all j)).run P w'=.ok (.value v) w')∧yK P all C K l own (QV f (QK all j).dst v) w
 | (j,false)::l,own,f,w=>Yi all f (QK all j)=true∧∀w1,Step [] w w1→C w1→XO P (QK all j) f w1 λE w'=>C w'∧∃own',Step own w1 w'∧(∀b∈own',b∈own∨(w1.heap.size≤b∧b<w'.heap.size))∧yK P all C K l own' E w'
section
variable {P:Program} {n:Nat} {f:Fr} {w:World} {all:List Oper} {C:World→Prop} {K:Fr→World→Prop} {KF:LN→Fr→World→Prop}
theorem yK.ext (E:∀own f w w',KF own f w→Step [] w w'→KF own f w'):∀{l:List (Nat×Bool)}{own:LN}{f:Fr}{w w':World},yK P all C KF l own f w→Step [] w w'→yK P all C KF l own f w'
 | [],_,_,_,_,h,hs=>E _ _ _ _ h hs
 | (_,true)::_,_,_,_,_,h,hs=>by
  obtain ⟨H,v,I,hx⟩:=h;exact ⟨H,v,I,yK.ext E hx hs⟩
 | (_,false)::_,_,_,_,_,h,hs=>⟨h.1,λJ h1 hc=>h.2 J (hs.trans h1) hc⟩
structure Fl2 (P:Program) (all:List Oper) (C:World→Prop) (K:Fr→World→Prop) (KF:LN→Fr→World→Prop) (i d:Nat) (rest:List (Nat×Bool)) (Φ:Value→World→Prop) (Dc:List (Nat×Nat)) (f1:Fr):Prop where
 stab:∀v (own:LN) w w',Φ v w→Step own w w'→(∀b∈ow v,b∉own)→Φ v w'
 spec:∀f w,(∀t,Xp Dc t=false→f t=f1 t)→C w→XO P (QK all i) f w λf' w'=>Step [] w w'∧C w'∧Φ (f' d) w'∧∀b∈ow (f' d),w.heap.size≤b∧b<w'.heap.size
 fin:∀own f w,KF own f w→∀v,C w→Φ v w→(∀b∈ow v,b∉own∧b<w.heap.size)→XP P all C K rest (QV f (some d) v) w
 mono:∀own f w w',KF own f w→Step [] w w'→KF own f w'
attribute [local semireducible] XP in
theorem qn {i d:Nat}{rest:List (Nat×Bool)}{Φ:Value→World→Prop}{Dc:List (Nat×Nat)}{f1:Fr}(H:Fl2 P all C K KF i d rest Φ Dc f1) (hs:Region.noSelect all.toArray=true) {v:Value}:∀(l:List (Nat×Bool)) (own:LN) (f:Fr) (w:World),Yv all d l=true→yK P all C KF l own f w→C w→Φ v w →
  (∀b∈ow v,b∉own∧b<w.heap.size)→XP P all C K (l++rest) (QV f (some d) v) w
 | [],own,f,w,_,h,hC,I,hb=>H.fin own f w h v hC I hb
 | (j,q)::l,own,f,w,hfr,h,hC,I,hb=>by
  simp only[Yv,List.all_cons,Bool.and_eq_true,Bool.not_eq_true',List.contains_eq_mem,decide_eq_false_iff_not,beq_eq_false_iff_ne,ne_eq] at hfr;obtain ⟨⟨h1,h2⟩,hfr⟩:=hfr;have J:Yv all d l=true:=by simpa[Yv] using hfr
  have V:∀cs b,(QK all j).op≠.select cs b:=by
   intro cs b;cases U:all[j]? with
   | none =>
    have:QK all j=default:=by
     clear h h1 h2 hfr J;have key:∀(l:List Oper) (j:Nat),l[j]?=none→QK l j=default:=by
      intro l;induction l with
      | nil=>intro j _;rfl
      | cons a l ih=>intro j hj;cases j with | zero=>simp at hj | succ j=>exact ih j (by simpa using hj)
     exact key all j U
    rw[this];intro e;cases e
   | some o=>rw[Zd U];exact Region.noSelect_spec hs j o cs b (by simpa using U)
  have hd:∀e,some d=some e→e∉(QK all j).looksAt all.toArray:=λe he=>by cases he;exact h1
  cases q with
  | true =>
   obtain ⟨hg,u,hu,hx⟩:=h;simp only[List.cons_append,XP];rw[J8 (QK all j) f (some d) v hd,hg,cond_true,cond_true];refine ⟨u,λw' hc=>?_,?_⟩
   ·rw[XW (all:=all) V f (some d) v hd];exact hu w' hc
   rw[Vr f v u (λe he=>by cases he;exact h2)];exact qn H hs l own _ w J hx hC I hb
  | false =>
   simp only[List.cons_append,XP];rw[J8 (QK all j) f (some d) v hd,h.1,cond_true,cond_false];refine Qgn (all:=all) V h1 h2 (λu w' hx=>?_) (h.2 w (Step.refl _ _) hC);obtain ⟨Y,own',ha,hf,hx⟩:=hx;refine ⟨.inr (.inr Y),qn H hs l own' _ w' J hx Y (H.stab v own w w' I ha (λb E=>(hb b E).1)) (λb E=>⟨λhm=>?_,Mc (hb b E).2 ha.size⟩)⟩
   rcases hf b hm with h3 | h3
   ·exact (hb b E).1 h3
   exact Nat.lt_irrefl _ (Mc (hb b E).2 h3.1)
theorem Qey {i d:Nat}{rest:List (Nat×Bool)}{Φ:Value→World→Prop}{Dc:List (Nat×Nat)}{f1:Fr}(H:Fl2 P all C K KF i d rest Φ Dc f1) (hs:Region.noSelect all.toArray=true) (U:(QK all i).guard=none) (hd:(QK all i).dst=some d):∀(l:List (Nat×Bool)) (ls:Array Bool) (own:LN) (f:Fr) (w:World),ls.size=all.length→Yv all d l=true→Yr all Dc l=true→(∀t,Xp Dc t=false→f t=f1 t) →
  yK P all C KF l own f w→C w→(∀b∈own,b<w.heap.size)→yh all.toArray i rest l ls=true→XA P all C K (l.length+1+rest.length) ls f w
 | [],ls,own,f,w,Y,hfr,I,hk1,h,hC,V,hp=>by
  simp only[yh,Bool.and_eq_true,beq_iff_eq] at hp;obtain ⟨J,hp⟩:=hp;rw[show ([]:List (Nat×Bool)).length+1+rest.length=rest.length+1 by simp;omega];refine Y7 (λh0=>(by rw[h0] at J;cases J)) ?_;rw[J];intro k hk o E;have hc:k=i:=by simpa using hk
  subst hc;have ha:=Zd E;have hx:=H.spec f w hk1 hC;rw[ha] at U hd hx;rw[Ju U,cond_true];refine hx.mono λv w' hx=>?_;rw[hd] at hx ⊢;obtain ⟨h1,h2,h3,h4⟩:=hx;simp only[QV,Y0] at h3 h4
  refine ⟨.inr (.inr h2),Zy hs rest _ _ _ (by simpa using Y) (.inl h2) hp (H.fin own f w' (H.mono own f w w' h h1) v h2 h3 (λb hb=>⟨λhm=>Nat.lt_irrefl _ (Mc (V b hm) (h4 b hb).1),(h4 b hb).2⟩))⟩
 | (j,true)::l,ls,own,f,w,Y,hfr,I,hk1,h,hC,V,hp=>by
  simp only[yh,Bool.and_eq_true] at hp;obtain ⟨⟨J,hf⟩,he⟩:=hp;have hl:j∈Region.ready .any all.toArray ls:=by simpa using J
  have e:(List.length ((j,true)::l))+1+rest.length=(l.length+1+rest.length)+1:=by simp;omega
  rw[e];have hh:Yv all d l=true:=by simp only[Yv,List.all_cons,Bool.and_eq_true] at hfr;exact hfr.2
  simp only[Yr,List.all_cons,Bool.and_eq_true] at I;have hi:Yr all Dc l=true:=I.2;cases E:all[j]? with
  | none =>
   exfalso;obtain ⟨_,o,hw,_⟩:=mem_ready.1 hl;simp[E] at hw
  | some o =>
   obtain ⟨hn,v,hv,hx⟩:=h;rw[Zd E] at hn hv hx;have hy:∀(j:Nat) (o:Oper) cs b,all[j]?=some o→o.op≠.select cs b:=λj o cs b hj=>Region.noSelect_spec hs j o cs b (by simpa using hj);have hz:=λk ok hk=>Region.free_spec (ops:=all.toArray) (md:=.any) (i:=j) (oi:=o) (listed:=ls) (by simpa using E) hf k ok (by simpa using hk)
   exact XX (v:=v) (D:=λw=>yV o=true→C w) E (λ_ h=>h) hy _ ls f w (λ_=>hC) hz hl (.inl ⟨hn,hv⟩) (Qey H hs U hd l _ own _ w (by simpa using Y) hh hi (by have:=K3 (v:=v) I.1 hk1;rw[Zd E] at this;exact this) hx hC V he)
 | (j,false)::l,ls,own,f,w,Y,hfr,I,hk1,h,hC,V,hp=>by
  simp only[yh,Bool.and_eq_true,List.all_eq_true,Bool.or_eq_true,beq_iff_eq,Bool.not_eq_true'] at hp;obtain ⟨⟨⟨hq,J⟩,h5⟩,he⟩:=hp;have e:(List.length ((j,false)::l))+1+rest.length=(l.length+1+rest.length)+1:=by simp;omega
  rw[e];have hh:Yv all d l=true:=by simp only[Yv,List.all_cons,Bool.and_eq_true] at hfr;exact hfr.2
  simp only[Yr,List.all_cons,Bool.and_eq_true] at I;have hi:Yr all Dc l=true:=I.2;refine Y7 (λh0=>(by rw[h0] at hq;cases hq)) ?_;intro k hk o E;have ha:=Zd E;have ht:(ls.setIfInBounds k true).size=all.length:=by simpa using Y
  by_cases hc:k=i
  ·subst hc;have hx:=H.spec f w hk1 hC;rw[ha] at U hd hx;rw[Ju U,cond_true];refine hx.mono λv w' hx=>?_;rw[hd] at hx ⊢;obtain ⟨h1,h2,h3,h4⟩:=hx;simp only[QV,Y0] at h3 h4;refine ⟨.inr (.inr h2),?_⟩;have hx:=qn H hs ((j,false)::l) own f w' hfr (yK.ext H.mono h h1) h2 h3 (λb hb=>⟨λhm=>Nat.lt_irrefl _ (Mc (V b hm) (h4 b hb).1),(h4 b hb).2⟩)
   have:=Zy hs ((j,false)::(l++rest)) _ _ _ ht (.inl h2) h5 hx;rw[show ((j,false)::(l++rest)).length=l.length+1+rest.length by simp;omega] at this;exact this
  have h6:k=j:=(J k hk).resolve_right hc;subst h6;have h1:=h.1;have h2:=h.2 w (Step.refl _ _) hC;rw[ha] at h1 h2;rw[h1,cond_true];refine h2.mono λv w' hx=>?_;obtain ⟨hu,own',h7,h8,hx⟩:=hx;refine ⟨.inr (.inr hu),Qey H hs U hd l _ own' _ w' ht hh hi (by have:=K3 (v:=v) I.1 hk1;rw[ha] at this;exact this) hx hu (λb hb=>?_) he⟩;rcases h8 b hb with h3 | h3
  ·exact Mc (V b h3) h7.size
  exact h3.2
theorem yK.keeps {D:List (Nat×Nat)}{H:Fr}:∀(l:List (Nat×Bool)) (own:LN) (f:Fr) (w:World),Yr all D l=true→(∀t,Xp D t=false→f t=H t)→yK P all C KF l own f w→yK P all C (λo I w'=>(∀t,Xp D t=false→I t=H t)∧KF o I w') l own f w
 | [],own,f,w,_,E,h=>⟨E,h⟩
 | (j,true)::l,own,f,w,hd,E,h=>by
  simp only[Yr,List.all_cons,Bool.and_eq_true] at hd;obtain ⟨J,v,U,hx⟩:=h;exact ⟨J,v,U,yK.keeps l own _ _ hd.2 (K3 hd.1 E) hx⟩
 | (j,false)::l,own,f,w,hd,E,h=>by
  simp only[Yr,List.all_cons,Bool.and_eq_true] at hd;refine ⟨h.1,λV h1 hc=>XO.mono (λv w' hx=>?_) (h.2 V h1 hc)⟩;obtain ⟨Y,own',ha,hb,hx⟩:=hx;exact ⟨Y,own',ha,hb,yK.keeps l own' _ _ hd.2 (K3 hd.1 E) hx⟩
theorem f2p {j:Nat}{l:List (Nat×Bool)}{own:LN}{v:Value}(E:∀w',(execOp (ev f) (QK all j)).run P w'=.ok (.value v) w') (h:yK P all C KF l own (QV f (QK all j).dst v) w)
  (H:Yi all f (QK all j)=true:=by rfl):yK P all C KF ((j,true)::l) own f w:=⟨H,v,λw' _=>E w',h⟩
theorem f2k {j:Nat}{l:List (Nat×Bool)}{own:LN}(h:∀w1,Step [] w w1→C w1→XO P (QK all j) f w1 λE w'=>C w'∧∃own',Step own w1 w'∧(∀b∈own',b∈own∨(w1.heap.size≤b∧b<w'.heap.size))∧yK P all C KF l own' E w')
  (H:Yi all f (QK all j)=true:=by rfl):yK P all C KF ((j,false)::l) own f w:=⟨H,h⟩
theorem f2e {own:LN}(h:KF own f w):yK P all C KF [] own f w:=h
theorem Qah {Q:Exit→Fr→World→Prop}{id:Nat}{α:Type}(C:World→Prop) (pre l:List (Nat×Bool)) (i d:Nat) (rest:List (Nat×Bool)) (own:LN) (D Dc:List (Nat×Nat)) (S:α→List (Nat×Value)) (I:α→LN→World→Prop) (Φ:Value→World→Prop) (hm:P.follows .mixedOrders=true) (V:Xs n all=true)
  (hp:Qjl all pre l i rest=true) (H:(Yr all D pre && Yr all D l && Yr all Dc l)=true) (hd:(QK all i).dst=some d) (hC:C { w with drawn:=w.drawn+1 }) (Y:∀b∈own,b<w.heap.size)
  (stab:∀v (own:LN) w w',Φ v w→Step own w w'→(∀b∈ow v,b∉own)→Φ v w') (mono:∀z own w w',I z own w→Step [] w w'→I z own w')
  (fin:∀z g own w v,I z own w→C w→Φ v w→(∀b∈ow v,b∉own∧b<w.heap.size)→XP P all C (λf w=>Q .normal f w) rest (QV (VP (S z) (mix D f g)) (some d) v) w)
  (h:XP P all C (λf1 _=>(∀g w,C w→XO P (QK all i) (mix Dc f1 g) w λE w'=>Step [] w w'∧C w'∧Φ (E d) w'∧∀b∈ow (E d),w.heap.size≤b∧b<w'.heap.size)∧yK P all C (λo E w'=>∃z,Y4 E (S z)∧I z o w') l own f1 { w with drawn:=w.drawn+1 }) pre f { w with drawn:=w.drawn+1 }):W P n (.region id all.toArray true) Q f w:=by
 rw[Lu,Lu] at H;simp only[Qjl,Bool.and_eq_true,beq_iff_eq,Option.isNone_iff_eq_none] at hp;obtain ⟨⟨⟨⟨⟨hs,hl⟩,hq⟩,ha⟩,hg⟩,hfr⟩:=hp;rw[hd] at hfr;refine Xe C hm V ?_;have h1:=ZR (K:=λf w=>Q .normal f w) (m:=l.length+1+rest.length) hs pre (Array.replicate all.length false) f _ hC hq
  (B:=λf1 _=>Fl2 P all C (λf w=>Q .normal f w) (λo E w'=>(∀t,Xp D t=false→E t=f t)∧∃z,Y4 E (S z)∧I z o w') i d rest Φ Dc f1∧yK P all C (λo E w'=>(∀t,Xp D t=false→E t=f t)∧∃z,Y4 E (S z)∧I z o w') l own f1 { w with drawn:=w.drawn+1 })
  (λf1 U=>Qey U.1 hs hg hd l (Zu pre (Array.replicate all.length false)) own f1 _ (by rw[ZQ];simp) hfr H.2 (λ_ _=>rfl) U.2 hC Y ha)
  (XP.keeps_mono _ _ _ (XP.keeps pre f _ H.1.1 (λ_ _=>Z) h) (λf1 w1 hx=>⟨⟨stab,?_,?_,?_⟩,yK.keeps l own _ _ H.1.2 hx.1 hx.2.2⟩))
 ·rw[hl] at h1;exact h1
 ·intro E w' hk J;have:=hx.2.1 E w' J;rw[Xk hk] at this;exact this
 ·rintro o E w' ⟨hk,z,hs,hi⟩ v J hv hb;have:=fin z E o w' v hi J hv hb;rw[Xk hk,YB hs] at this;exact this
 rintro o E w' he ⟨hk,z,hs,hi⟩ hc;exact ⟨hk,z,hs,mono z o _ _ hi hc⟩
end
attribute [irreducible] yK
end Go.Lg
namespace Go.Proofs.YtjcgijbhaemldaaGreatDoor
open Go.Lg
abbrev Xj:LV:=[nS,nS,nS,nS,nS]
abbrev Qlq:LV:=[nS,.int .i64 0,nS,nS]
theorem Jk {a:Array UInt8}(h:a.size≤100):(⟨a⟩:ByteArray).size≤9223372036854775807:=by
 show a.size≤_;omega
def rgB (N M:Nat):LN:=(List.range M).filter λb=>decide (N≤b)
theorem JN {N M b:Nat}:b∈rgB N M↔N≤b∧b<M:=by
 unfold rgB;rw[LL,L8,decide_eq_true_iff];exact And.comm
open Go.Proofs.Tryz
def VL (co:LI) (ls:List (Int×Int)):List (Int×Int):=ls.map λl=>((lwB co l.1:Int),l.2)
theorem QfH {co:LI}(hi:Z8 co) {ls:List (Int×Int)}(h:mis co ls=false):VL co ls=ixP co ls:=by
 unfold VL ixP;refine MK λl hl=>?_;unfold mis at h;have h1:=M8.1 h l hl;have hm:l.1∈co:=by simpa using h1
 rw[Qfr hi hm]
abbrev exG (c:Q4) (i:Int):Exc:=c.ex.getD i.toNat ⟨.empty,[]⟩
abbrev csG (c:Q4) (i:Int):JF:=c.cs.getD i.toNat ⟨.empty,[],0⟩
def exB (c:Q4) (co ix:LI):List Exc:=ix.map λi=>⟨(exG c i).nm,VL co (exG c i).ls⟩
def csB (c:Q4) (co ix:LI):List JF:=ix.map λi=>⟨(csG c i).nm,VL co (csG c i).ts,(csG c i).bd⟩
def exM (c:Q4) (co ix:LI):Bool:=ix.any λi=>mis co (exG c i).ls
def csM (c:Q4) (co ix:LI):Bool:=ix.any λi=>mis co (csG c i).ts
theorem Qk5 (c:Q4) (p:Prt):Qh0 c p=(exM c p.co p.ex || csM c p.co p.cs):=rfl
theorem Qmi {c:Q4}{p:Prt}(hi:Z8 p.co) (h:exM c p.co p.ex=false):exB c p.co p.ex=Qk4 c p:=by
 unfold exB Qk4;refine MK λi E=>?_;rw[QfH hi (by have:=M8.1 h i E;simpa using this)]
theorem Qmp {c:Q4}{p:Prt}(hi:Z8 p.co) (h:csM c p.co p.cs=false):csB c p.co p.cs=Qk6 c p:=by
 unfold csB Qk6;refine MK λi E=>?_;rw[QfH hi (by have:=M8.1 h i E;simpa using this)]
def ck4:List (Value×LI×Int)→Int
 | []=>0
 | (_,s,n)::l=>if YV n none s≠0 then YV n none s else ck4 l
abbrev skC (x:Value×LI×Int):LV:=[x.1,.int .i64 x.2.2]
theorem Qny (x:Value×LI×Int):(skC x).length=2:=rfl
theorem Qc8:∀{l:List (Value×LI×Int)},ck4 l=0→∀x∈l,YV x.2.2 none x.2.1=0
 | [],_,x,hx=>by cases hx
 | (v,s,n)::l,h,x,hx=>by
  rw[ck4] at h;by_cases h1:YV n none s≠0
  ·rw[if_pos h1] at h;exact absurd h h1
  rw[if_neg h1] at h;rcases Lh.1 hx with rfl | hx
  ·exact Lo.1 h1
  exact Qc8 h x hx
theorem Yh.app2 {α:Type}{g:α→LV}{sz T:Nat}{p:α→Value×Nat×Nat×LV}{base N e:Nat}{E H:World}{v I:Value}{l:List α}{q:α}(h:Yh g sz T p base E v l)
  (hq:E.ownsRow N e (p q).2.2.1 (p q).1 (p q).2.1 (p q).2.2.2) (V:(p q).2.1≤1099511627776) (hb:base≤N) (Y:∀b∈ob v,b<N)
  (ho:H.ownsRow base T sz I (l.length+1) (l.flatMap g++g q)) (J:Step (ob v) E H) (U:∀b∈ob I,b∈ob v∨E.heap.size≤b):Yh g sz T p base H I (l++[q]):=by
 refine ⟨?_,λd hd=>?_⟩
 ·rw[Ll,LH];simpa using ho
 rcases Lp.1 hd with hd | hd
 ·exact (h.each d hd).app J U
 simp only[List.mem_singleton] at hd;subst hd;exact (Z7.of_own hq V hb Y).app J U
instance:Bw prog 37 [nS,nS,nS,nS,nS] [(0,1),(1,1),(2,1),(3,1),(4,1)]:=⟨by kernel_rfl,by decide⟩
theorem Jj {v:Value}(h:v.oneCell'=true):v.cells=[v].toArray:=by
 cases v <;> first | rfl | cases h
theorem Qi7 {N M:Nat}{w':World}{v:Value}{qs:List IV}(h:∀L:LN,(∀b∈L,b<N)→Xr L w'.heap v qs) (I:w'.heap.size=M) {L:LN}(E:∀b∈L,b∉rgB N M):Xr L w'.heap v qs:=by
 refine (h (L.filter λb=>decide (b<N)) (λb hb=>by have:=(LL.1 hb).2;exact of_decide_eq_true this)).up (λb hb=>?_);by_cases H:b<N
 ·exact .inl (LL.2 ⟨hb,decide_eq_true H⟩)
 refine .inr ?_;have:=E b hb;rw[JN] at this;omega
structure EiA (L:LN) (H:Array Obj) (z:Value×Value×Value) (ev:List VD) (qc qr:List IV):Prop where
 ev:KI L H z.1 ev
 co:Xr L H z.2.1 qc
 rq:Xr L H z.2.2 qr
theorem EiA.ext {L:LN}{w w':World}{z:Value×Value×Value}{ev:List VD}{qc qr:List IV}(h:EiA L w.heap z ev qc qr) (hs:Step [] w w'):EiA L w'.heap z ev qc qr:=⟨h.ev.ext hs,h.co.ext hs,h.rq.ext hs⟩
theorem EiA.st {L:LN}{w w':World}{z:Value×Value×Value}{ev:List VD}{qc qr:List IV}(h:EiA L w.heap z ev qc qr) (hs:Step L w w'):EiA L w'.heap z ev qc qr:=⟨h.ev.st hs,h.co.st hs,h.rq.st hs⟩
theorem EiA.up {L L':LN}{H:Array Obj}{z:Value×Value×Value}{ev:List VD}{qc qr:List IV}(h:EiA L H z ev qc qr) (E:∀b∈L',b∈L∨H.size≤b):EiA L' H z ev qc qr:=⟨h.ev.up E,h.co.up E,h.rq.up E⟩
set_option maxRecDepth 4096 in
set_option maxHeartbeats 16000000 in
theorem Qer {L:LN}{w:World}{c:CL}{v0 v1 v2 v3:Value}{p:Prt}(I:ZS L w.heap c) (hc0:QL L w.heap v0 p.co) (hr0:QL L w.heap v1 p.rq) (hx0:QL L w.heap v2 p.ex) (hk0:QL L w.heap v3 p.cs) :
  QG prog 158 [c.val,.agg #[v0,v1,v2,v3]] w λr w'=>Step [] w w'∧∃us,r=.tuple #[.agg us.toArray,.int .i64 (zr c.cel p)]∧us.length=5∧ZP us∧(zr c.cel p≠0→us=Xj)∧(zr c.cel p=0→QmV w.heap.size w'.heap (.agg us.toArray) (Qgx c.cel p)):=by
 have h:=I.up (L':=[]) (by simp);have hc:=hc0.up (L':=[]) (by simp);have hr:=hr0.up (L':=[]) (by simp);have hx:=hx0.up (L':=[]) (by simp);have hk:=hk0.up (L':=[]) (by simp)
 have J:zr c.cel p=if Zf c.cel≠0 then Zf c.cel else if ck4 [(v0,p.co,(c.co.length:Int)),(v1,p.rq,(c.rq.length:Int)),(v2,p.ex,(c.ex.length:Int)),(v3,p.cs,(c.cs.length:Int))]≠0 then ck4 [(v0,p.co,(c.co.length:Int)),(v1,p.rq,(c.rq.length:Int)),(v2,p.ex,(c.ex.length:Int)),(v3,p.cs,(c.cs.length:Int))]
   else if (exM c.cel p.co p.ex || csM c.cel p.co p.cs)=true then 13 else Zf (Qgx c.cel p):=by
  have e1:c.cel.co.length=c.co.length:=Li ..;have e2:c.cel.rq.length=c.rq.length:=Li ..;have e3:c.cel.ex.length=c.ex.length:=Li ..;have e4:c.cel.cs.length=c.cs.length:=Li ..;unfold zr;rw[e1,e2,e3,e4,Qk5];simp only[ck4];by_cases q0:Zf c.cel≠0
  ·rw[if_pos q0,if_pos q0]
  rw[if_neg q0,if_neg q0];by_cases q1:YV (c.co.length:Int) none p.co≠0
  ·simp only[if_pos q1]
  simp only[if_neg q1];by_cases q2:YV (c.rq.length:Int) none p.rq≠0
  ·simp only[if_pos q2]
  simp only[if_neg q2];by_cases q3:YV (c.ex.length:Int) none p.ex≠0
  ·simp only[if_pos q3]
  simp only[if_neg q3];by_cases q4:YV (c.cs.length:Int) none p.cs≠0
  ·simp only[if_pos q4]
  simp only[if_neg q4];simp
 refine Zh (zr c.cel p) λE hE=>?_;rw[hE] at J ⊢;refine Zh [(v0,p.co,(c.co.length:Int)),(v1,p.rq,(c.rq.length:Int)),(v2,p.ex,(c.ex.length:Int)),(v3,p.cs,(c.cs.length:Int))] λH gi=>?_;rw[gi] at J;have hl4n:H.length=4:=by rw[←gi];rfl
 have hl4i:∀x∈H,QL [] w.heap x.1 x.2.1:=by
  rw[←gi];intro x hm;simp only[List.mem_cons,List.not_mem_nil,or_false] at hm;rcases hm with rfl | rfl | rfl | rfl
  ·exact hc
  ·exact hr
  ·exact hx
  exact hk
 have hl4z:ck4 H=0→YV (c.co.length:Int) none p.co=0∧YV (c.rq.length:Int) none p.rq=0∧YV (c.ex.length:Int) none p.ex=0∧YV (c.cs.length:Int) none p.cs=0:=by
  intro I;have h1:=Qc8 I;rw[←gi] at h1;exact ⟨h1 (v0,p.co,_) (by simp),h1 (v1,p.rq,_) (by simp),h1 (v2,p.ex,_) (by simp),h1 (v3,p.cs,_) (by simp)⟩
 have hxl:=hx.le;have hkl:=hk.le;refine QG.of_W func158 Z ntmps158 results158 (by simp) ?_;refine Qc<|xl Z<|QR (us:=c.cells) Z λb2 w1 hs1 hb2 mv=>xl Z<|QR (us:=[v0,v1,v2,v3]) Z λb3 w2 mw hb3 z3=>xl Z<|Qu (us:=Xj) Z λb4 w3 kf hb4 z4=>Qf ?_;have hl2:=mv.lt;have hl3:=z3.lt;have hl4':=z4.lt;have z5:=(hs1.trans mw).trans kf
 refine Qg<|Qc<|x (Qp ((mv.ext mw).ext kf) Z Z)<|xl Z<|xf<|(XB (h.ext z5)).mono ?_;rintro r4 w4 ⟨rfl,gj⟩;refine Qf ?_;have mx:=z5.trans gj;have hz4:=gj.size;have gk:=((mv.ext mw).ext kf).ext gj;have gl:=(z3.ext kf).ext gj;have my:=z4.ext gj;refine Qc<|Qb<|x (Q8 Z Z)<|xe<|Q3 rfl (λkg=>?_) (λkg=>?_)
 ·rw[if_pos kg] at J;subst J;refine Qc<|x (QN La)<|Qb<|xl Z<|Qn (us:=Xj) my Z Z Z Z ⟨Z,Z,Z,Z,Z,La⟩ λw5 hs5 hB45=>Qf ?_;exact Ql ⟨[.agg Xj.toArray,.int .i64 (Zf c.cel)],⟨⟨_,Z,Qw Z (hB45.at (L:=[]) (by simp)).cells⟩,rfl,La⟩,mx.then1 hs5 (by omega),Xj,rfl,rfl,⟨rfl,rfl,rfl,rfl,rfl,La⟩,λ_=>rfl,λI=>absurd I kg⟩
 rw[if_neg kg] at J;refine Qi ?_;have h4:=h.ext mx;refine Qg<|Qc<|x (Qa Z)<|x (Qd gl Z Z)<|x (Qa Z)<|x (Qd gk Z Z)<|x (Qr h4.co.arr Z)<|x (QN ⟨hc.cells,Z,La⟩) <|
  x (Qa rfl)<|x (Qd gl Z Z)<|x (Qa Z)<|x (Qd gk Z Z)<|x (Qr h4.rq.arr Z)<|x (QN ⟨hr.cells,Z,La⟩) <|
  x (Qa rfl)<|x (Qd gl Z Z)<|x (Qa Z)<|x (Qd gk Z Z)<|x (Qr h4.ex.arr Z)<|x (QN ⟨hx.cells,Z,La⟩) <|
  x (Qa rfl)<|x (Qd gl Z Z)<|x (Qa Z)<|x (Qd gk Z Z)<|x (Qr h4.cs.arr Z)<|x (QN ⟨hk.cells,Z,La⟩) <|
  xl rfl<|QH (us:=[skC (v0,p.co,(c.co.length:Int)),skC (v1,p.rq,(c.rq.length:Int)),skC (v2,p.ex,(c.ex.length:Int)),skC (v3,p.cs,(c.cs.length:Int))]) Z Z (by decide) (by simp) ⟨rfl,rfl,rfl,rfl,rfl,rfl,rfl,rfl,La⟩ λb54 w6 hT hb54 hB54=>?_
 have z9:ZA [] w6.heap (.slice (some ⟨b54,0,none⟩) 4 4) H.length 2 (H.flatMap skC):=by
  have:=hB54.arr (L:=[]) (by simp) (n:=4) (cap:=4) (sz:=2) (by rfl) (by omega) (Lv _);rw[hl4n,←gi];exact this
 refine x (Qr z9 Z)<|Qb<|xe ?_;have hs06:=mx.trans hT;have hz6:=hT.size;refine Qh<|Qz (α:=Nat) [(5,5),(8,9),(56,69)] (λz=>[(56,.int .i64 z)]) (λz w'=>z≤H.length∧Step [] w6 w'∧ck4 (H.drop z)=ck4 H) (λz=>H.length - z) (by rfl) 0 Lb ⟨Ln _,Step.refl _ _,Z⟩ ?_;rintro k g V ⟨hkl4,h8,hck⟩;have gm:=hs06.trans h8;have hz7:=h8.size;refine Qc<|x (QA Z Z)<|xe ?_
 refine Qg<|QC Z (λmz=>?_) (λmz=>?_)
 ·refine Qy ?_;have hke:H.length≤k:=by have hp:¬(k:Int)<(H.length:Int):=mz;omega
  rw[Lx hke] at hck;have hck0:ck4 H=0:=hck.symm;rw[if_neg (λI=>I hck0)] at J;obtain ⟨zco,zrq,zex,zcs⟩:=hl4z hck0;have gn:=(Z6 _ _ _).1 zco;have hrq:=(Z6 _ _ _).1 zrq;have hexz:=(Z6 _ _ _).1 zex;have hcsz:=(Z6 _ _ _).1 zcs;have h7:=h.ext gm;have kh:QT V.heap b2 37 c.cells:=(gk.ext hT).ext h8;have m0:QT V.heap b3 281 [v0,v1,v2,v3]:=(gl.ext hT).ext h8
  have hB47:QT V.heap b4 37 Xj:=(my.ext hT).ext h8;have hsd:Step [] V { V with drawn:=V.drawn+1 }:=Step.drew _ _
  refine QZ (α:=Nat×(Value×Value×Value)×List IV×List IV) [(70,83),(10,10)] (λz=>[(10,.pointer (some ⟨z.1,0,none⟩))]) (λz w'=>Step [] V w'∧V.heap.size≤z.1∧QT w'.heap z.1 37 [z.2.1.1,z.2.1.2.1,z.2.1.2.2,nS,nS] ∧
   z.2.2.1.map IV.it=chs c.cel.co p.co∧z.2.2.2.map IV.it=chs c.cel.rq p.rq∧ZP [z.2.1.1,z.2.1.2.1,z.2.1.2.2]∧∀L:LN,(∀b∈L,b<V.heap.size∨b=z.1)→EiA L w'.heap z.2.1 c.ev z.2.2.1 z.2.2.2) (by rfl) ?_ ?_
  ·refine Qah (α:=(Value×Value×Value)×List IV×List IV) (Step [] V) [(0,true),(1,true),(3,true),(4,true),(5,true),(6,true),(8,true),(9,true),(10,true),(11,true)] [(2,false),(7,false),(12,false),(13,true)] 14 10 [(15,false)] []
    [(70,83)] [(72,72),(77,77),(82,83)] (λz=>[(83,.agg [z.1.1,z.1.2.1,z.1.2.2,nS,nS].toArray)])
    (λz own w'=>(∀b∈own,V.heap.size≤b)∧z.2.1.map IV.it=chs c.cel.co p.co∧z.2.2.map IV.it=chs c.cel.rq p.rq∧ZP [z.1.1,z.1.2.1,z.1.2.2]∧∀L:LN,(∀b∈L,b∉own)→EiA L w'.heap z.1 c.ev z.2.1 z.2.2)
    (λv w'=>∃b,v=.pointer (some ⟨b,0,none⟩)∧V.heap.size≤b∧QT w'.heap b 37 Xj) mixed (by rfl) (by kernel_rfl) (by rfl) Z hsd (by simp) ?_ ?_ ?_ ?_
   ·rintro v own wa wb ⟨b,rfl,hb,hB⟩ hs hn;exact ⟨b,Z,hb,hB.step hs (hn b (by simp[ow]))⟩
   ·rintro z own wa wb ⟨h1,h2,h3,h4,h5⟩ hs;exact ⟨h1,h2,h3,h4,λL hL=>(h5 L hL).ext hs⟩
   ·rintro ⟨zv,qc,qr⟩ g own wz v ⟨i1,i2,i3,i4,i5⟩ hCz ⟨b10,rfl,ki,hB10⟩ hbo;simp only[] at i2 i3 i4 i5;have hb10o:=(hbo b10 (by simp[ow])).1;refine pkl (hl:=by kernel_rfl)<|Qn (us:=[zv.1,zv.2.1,zv.2.2,nS,nS]) hB10 Z Z Z Z ⟨i4.1,i4.2.1,i4.2.2.1,Z,Z,La⟩ λw8 hU hB108=>pe ?_;refine ⟨(b10,zv,qc,qr),Lb,hCz.then1 hU ki,ki,hB108,i2,i3,i4,λL hL=>?_⟩;have h1:=i5 (b10::L) (λb hb=>by
     rcases Lh.1 hb with rfl | hb
     ·exact hb10o
     rcases hL b hb with h2 | h2
     ·exact λh3=>by have:=i1 b h3;omega
     subst h2;exact hb10o)
    exact (h1.st (hU.mono (by simp))).up (λb hb=>.inl (by simp[hb]))
   refine Go.Lg.p (λ_=>Qa Z)<|pq (λ_ hc=>Qd (kh.ext hc) Z Z)<|Go.Lg.p (λ_=>Qa Z)<|pq (λ_ hc=>Qd (kh.ext hc) Z Z) <|
    Go.Lg.p (λ_=>Qa Z)<|pq (λ_ hc=>Qd (m0.ext hc) Z Z)<|Go.Lg.p (λ_=>Qa Z)<|pq (λ_ hc=>Qd (kh.ext hc) Z Z) <|
    Go.Lg.p (λ_=>Qa Z)<|pq (λ_ hc=>Qd (m0.ext hc) Z Z)<|pe ⟨λg wf hCf=>Qu (us:=Xj) Z λb wf' hsf hbf hBf=>⟨hsf,hCf.trans hsf,⟨b,Z,LT hCf.size hbf,hBf⟩,λx hx=>?_⟩,?_⟩
   ·have hxe:x=b:=by
     have hx':x∈[b]:=hx;simpa using hx'
    subst hxe;exact ⟨hbf,hBf.lt⟩
   refine f2k λx1 p1 c1=>xf<|(Qel (h7.ev.ext c1).arr).mono ?_;rintro m1 y1 ⟨hs1',hV⟩;refine ⟨c1.trans hs1',rgB x1.heap.size y1.heap.size,hs1'.any,λb hb=>.inr (JN.1 hb),?_⟩;refine f2k λx2 p2 c2=>xf<|(yB (h7.co.ext c2) (hc.ext (gm.trans c2)) (λi hi=>gn.1 i hi)).mono ?_;rintro r77 y2 ⟨m2,⟨qc,kj,hqcI⟩,kk⟩
   refine ⟨c2.trans m2,rgB x1.heap.size y1.heap.size++rgB x2.heap.size y2.heap.size,m2.any,λb hb=>(Lp.1 hb).imp id λhb=>JN.1 hb,?_⟩;refine f2k λx3 p3 c3=>xf<|(yB (h7.rq.ext c3) (hr.ext (gm.trans c3)) (λi hi=>hrq.1 i hi)).mono ?_;rintro r82 y3 ⟨kn,⟨qr,ko,hqrI⟩,kp⟩
   refine ⟨c3.trans kn,(rgB x1.heap.size y1.heap.size++rgB x2.heap.size y2.heap.size)++rgB x3.heap.size y3.heap.size,kn.any,λb hb=>(Lp.1 hb).imp id λhb=>JN.1 hb,?_⟩;refine f2p (λ_=>ZF [(0,[m1]),(1,[r77]),(2,[r82])] ⟨Zp hV,Z,Jj kk,Z,Jj kp,Z,La⟩)<|f2e ?_;refine ⟨((m1,r77,r82),qc,qr),Lb,λb hb=>?_,kj,ko,⟨QO hV,kk,kp,La⟩,λL hL=>?_⟩
   ·have e1:=c1.size;have e2:=c2.size;have e3:=c3.size;rcases Lp.1 hb with hb | hb
    ·rcases Lp.1 hb with hb | hb
     ·have:=JN.1 hb;omega
     have:=JN.1 hb;omega
    have:=JN.1 hb;omega
   have hL1:∀b∈L,b∉rgB x1.heap.size y1.heap.size:=λb hb hm=>hL b hb (by simp[hm]);have hL2:∀b∈L,b∉rgB x2.heap.size y2.heap.size:=λb hb hm=>hL b hb (by simp[hm]);have hL3:∀b∈L,b∉rgB x3.heap.size y3.heap.size:=λb hb hm=>hL b hb (by simp[hm]);have hev1:KI L y1.heap m1 c.ev:=⟨QX hV h.ev.arr.le (λb hb hm=>hL1 b hm (JN.2 (Qq hV b hb))),h.ev.nm⟩
   exact ⟨(((hev1.ext p2).ext m2).ext p3).ext kn,((Qi7 hqcI Z hL2).ext p3).ext kn,Qi7 hqrI Z hL3⟩
  rintro ⟨b10,zv,qc,qr⟩ g wc ⟨hsc,ki,m3,kj,ko,kq,hEi⟩;simp only[] at ki m3 kj ko kq hEi;have hl10:=m3.lt;refine Qc<|xl Z<|Qu (us:=[.bool false]) Z λb11 w8 hU hb11 hB11=>xl Z<|QF (j:=0) (u:=.bool false) hB11 Z Z (by simp) rfl λw9 m4 kr=>xe ?_;have kt:Step [] wc w9:=hU.then1 m4 hb11;have h9:=hsc.trans kt;have gq:=gm.trans h9;have hz9:=kt.size
  have hl11:=kr.lt;have hB109:=m3.ext kt;have hB29:=kh.ext h9;have hB39:=m0.ext h9;have hB49:=hB47.ext h9;have hn10:b10≠b11:=by omega
  have hup:∀b∈[b10,b11],w.heap.size≤b:=λb hb=>by simp only[List.mem_cons,List.not_mem_nil,or_false] at hb;omega
  have ku:∀b∈[b10,b11],b<w9.heap.size:=λb hb=>by simp only[List.mem_cons,List.not_mem_nil,or_false] at hb;omega
  have hn2:b2∉[b10,b11]:=λhb=>by simp only[List.mem_cons,List.not_mem_nil,or_false] at hb;omega
  have hn3:b3∉[b10,b11]:=λhb=>by simp only[List.mem_cons,List.not_mem_nil,or_false] at hb;omega
  have hn4:b4∉[b10,b11]:=λhb=>by simp only[List.mem_cons,List.not_mem_nil,or_false] at hb;omega
  have kv:∀b∈[b10],b∈[b10,b11]:=λb hb=>by simp only[List.mem_singleton] at hb;simp[hb]
  have kw:∀b∈[b11],b∈[b10,b11]:=λb hb=>by simp only[List.mem_singleton] at hb;simp[hb]
  have hV:=kq.1;have kk:=kq.2.1;have kp:=kq.2.2.1;refine Qc<|x (Zo (l:=[]) (l':=[_,_]))<|Qf<|Qg<|Qc<|x (Qa Z)<|x (Qd hB39 Z Z)<|x (Qr (hx.ext gq) Z)<|Qb<|xe<|Qh<|Qz (α:=Nat×Bool×Value×List XV) [(14,15),(17,17),(88,129)] (λz=>[(88,.int .i64 z.1)]) (λz w'=>z.1≤p.ex.length∧Step [b10,b11] w9 w'∧QT w'.heap b10 37 [zv.1,zv.2.1,zv.2.2,z.2.2.1,nS]∧QT w'.heap b11 4 [.bool z.2.1] ∧
   XvN w9.heap.size w' z.2.2.1 z.2.2.2∧z.2.2.2.map (·.x)=exB c.cel p.co (p.ex.take z.1)∧z.2.1=exM c.cel p.co (p.ex.take z.1)∧∀q∈z.2.2.2,yW q.nm) (λz=>p.ex.length - z.1) (by rfl) (0,false,nS,[]) Lb
   ⟨Ln _,Step.refl _ _,hB109,kr,Yh.nil,Z,Z,λq hq=>by cases hq⟩ ?_
  rintro ⟨k,mi,vx,qx⟩ g Y ⟨hk10,hG,m5,gr,kz,gs,k0,m6⟩;simp only[] at hk10 m5 gr kz gs k0 m6;have gt:Step [] w Y:=gq.then hG (λb hb=>.inr (hup b hb));have m7:=h.ext gt;have m8:=hB29.step hG hn2;have m9:=hB39.step hG hn3;have pa:=hB49.step hG hn4;have hz10:=hG.size
  have hqxl:qx.length=k:=by have:=congrArg List.length gs;unfold exB at this;rw[Li,Li,LD] at this;omega
  refine Qc<|x (QA Z Z)<|xe<|Qg<|QC Z (λhH=>?_) (λhH=>?_)
  ·refine Qy ?_;have pc:p.ex.length≤k:=by have hp:¬(k:Int)<(p.ex.length:Int):=hH;omega
   rw[Ls pc] at gs k0;have hlt10:∀b∈[b10,b11],b<Y.heap.size:=λb hb=>by have:=ku b hb;omega
   refine Qg<|Qc<|x (Qa Z)<|x (Qd m9 Z Z)<|x (Qr (hk.ext gt) Z)<|Qb<|xe<|Qh<|Qz (α:=Nat×Bool×Value×List KV) [(19,20),(22,22),(133,180)] (λz=>[(133,.int .i64 z.1)]) (λz w'=>z.1≤p.cs.length∧Step [b10,b11] Y w'∧QT w'.heap b10 37 [zv.1,zv.2.1,zv.2.2,vx,z.2.2.1]∧QT w'.heap b11 4 [.bool z.2.1] ∧
    KvN Y.heap.size w' z.2.2.1 z.2.2.2∧z.2.2.2.map (·.k)=csB c.cel p.co (p.cs.take z.1)∧z.2.1=(mi || csM c.cel p.co (p.cs.take z.1))∧∀q∈z.2.2.2,yW q.nm) (λz=>p.cs.length - z.1) (by rfl) (0,mi,nS,[]) Lb
    ⟨Ln _,Step.refl _ _,m5,gr,Yh.nil,Z,by simp[csM],λq hq=>by cases hq⟩ ?_
   rintro ⟨k,mk,vk,kx⟩ g hh ⟨hkk10,hA,kB1010,kB1110,kX10,gu,k4,pd⟩;simp only[] at hkk10 kB1010 kB1110 kX10 gu k4 pd;have gv:Step [] w hh:=gt.then hA (λb hb=>.inr (hup b hb));have k5:=h.ext gv;have kB210:=m8.step hA hn2;have kB310:=m9.step hA hn3;have kB410:=pa.step hA hn4;have kz10:=hA.size
   have hkxl:kx.length=k:=by have:=congrArg List.length gu;unfold csB at this;rw[Li,Li,LD] at this;omega
   refine Qc<|x (QA Z Z)<|xe<|Qg<|QC Z (λhH=>?_) (λhH=>?_)
   ·refine Qy ?_;have pc:p.cs.length≤k:=by have hp:¬(k:Int)<(p.cs.length:Int):=hH;omega
    rw[Ls pc] at gu k4;have hmm:mk=(exM c.cel p.co p.ex || csM c.cel p.co p.cs):=by rw[k4,k0]
    rw[←hmm] at J;have kXu:XvN w9.heap.size hh vx qx:=Yh.low kz hA ku;refine Qg<|Qc<|x (Qd kB1110 Z Z)<|xe<|QW Z (λk6=>?_) (λk6=>?_)
    ·rw[if_pos k6] at J;subst J;refine Qc<|x (QN La)<|xl Z<|Qn (us:=Xj) kB410 Z Z Z Z ⟨Z,Z,Z,Z,Z,La⟩ λu11 k7 kB411=>Qf ?_;exact Ql ⟨[.agg Xj.toArray,.int .i64 13],⟨⟨_,Z,Qw Z (kB411.at (L:=[]) (by simp)).cells⟩,rfl,La⟩,gv.then1 k7 (by omega),Xj,rfl,rfl,⟨rfl,rfl,rfl,rfl,rfl,La⟩,λ_=>rfl,λI=>absurd I (by decide)⟩
    rw[if_neg (by rw[k6];simp)] at J;refine Qi ?_;have hmf:(exM c.cel p.co p.ex || csM c.cel p.co p.cs)=false:=by rw[←hmm];exact k6
    have hmf2:=MG.1 hmf;have hE1:qx.map (·.x)=Qk4 c.cel p:=gs.trans (Qmi gn.2.1 hmf2.1);have hE2:kx.map (·.k)=Qk6 c.cel p:=gu.trans (Qmp gn.2.1 hmf2.2);have hcel:(CL.mk zv.1 zv.2.1 zv.2.2 vx vk c.ev qc qr qx kx).cel=Qgx c.cel p:=by
     show Q4.mk c.ev (qc.map IV.it) (qr.map IV.it) (qx.map (·.x)) (kx.map (·.k))=Q4.mk c.cel.ev _ _ _ _;rw[kj,ko,hE1,hE2];rfl
    have hCu:∀L:LN,(∀b∈L,b<w.heap.size)→ZS (b4::L) hh.heap (CL.mk zv.1 zv.2.1 zv.2.2 vx vk c.ev qc qr qx kx):=by
     intro L hL;have e1:=hEi (b4::b10::L) (λb hb=>by
      rcases Lh.1 hb with rfl | hb
      ·exact .inl (by omega)
      rcases Lh.1 hb with rfl | hb
      ·exact .inr Z
      have:=hL b hb;exact .inl (by omega))
     have e2:EiA (b11::b4::b10::L) wc.heap zv c.ev qc qr:=e1.up (λb hb=>by
      rcases Lh.1 hb with rfl | hb
      ·exact .inr hb11
      exact .inl hb)
     have hm2:∀b∈[b10,b11],b∈b11::b4::b10::L:=λb hb=>by
      simp only[List.mem_cons,List.not_mem_nil,or_false] at hb;rcases hb with rfl | rfl <;> simp
     have e3:=((e2.ext kt).st (hG.mono hm2)).st (hA.mono hm2);have e4:EiA (b4::L) hh.heap zv c.ev qc qr:=e3.up (λb hb=>by
      rcases Lh.1 hb with rfl | hb
      ·exact .inl (by simp)
      exact .inl (by simp[hb]))
     have hqx40:qx.length≤1099511627776:=by omega
     have hkx40:kx.length≤1099511627776:=by omega
     have pf:∀b∈b4::L,b<w9.heap.size:=λb hb=>by
      rcases Lh.1 hb with rfl | hb
      ·omega
      have:=hL b hb;omega
     have hLt10:∀b∈b4::L,b<Y.heap.size:=λb hb=>by have:=pf b hb;omega
     exact ⟨e4.ev,e4.co,e4.rq,⟨Yh.arr kXu hqx40 pf,λq hq=>kXu.each q hq _ (λb hb=>.inl (pf b hb)),m6⟩,⟨Yh.arr kX10 hkx40 hLt10,λq hq=>kX10.each q hq _ (λb hb=>.inl (hLt10 b hb)),pd⟩⟩
    rw[←hcel] at J;subst J;refine Qg<|Qc<|x (Qp kB1010 Z Z)<|xl Z<|xf<|(XB (hCu [] (by simp))).mono ?_;rintro r12 hI ⟨rfl,hW⟩;refine Qf ?_;have gx:=gv.trans hW;have kB412:=kB410.ext hW;refine Qc<|Qb<|x (Q8 Z Z)<|xe<|Q3 Z (λk8=>?_) (λk8=>?_)
    ·refine Qc<|x (QN La)<|Qb<|xl Z<|Qn (us:=Xj) kB412 Z Z Z Z ⟨Z,Z,Z,Z,Z,La⟩ λhC k9 kB413=>Qf ?_;exact Ql ⟨[.agg Xj.toArray,.int .i64 (Zf (CL.mk zv.1 zv.2.1 zv.2.2 vx vk c.ev qc qr qx kx).cel)],⟨⟨_,Z,Qw Z (kB413.at (L:=[]) (by simp)).cells⟩,rfl,La⟩,gx.then1 k9 (by omega),Xj,rfl,rfl,⟨rfl,rfl,rfl,rfl,rfl,La⟩,λ_=>rfl,λI=>absurd I k8⟩
    refine Qi ?_;have hone5:ZP [zv.1,zv.2.1,zv.2.2,vx,vk]:=⟨hV,kk,kp,QO kXu.own,QO kX10.own,La⟩
    refine Qc<|x (Qp (kB1010.ext hW) Z Z)<|xl Z<|Qn (us:=[zv.1,zv.2.1,zv.2.2,vx,vk]) kB412 Z Z Z Z hone5 λhC k9 kB413=>Qf<|Ql ⟨[.agg [zv.1,zv.2.1,zv.2.2,vx,vk].toArray,.int .i64 0],⟨⟨_,Z,Qw Z (kB413.at (L:=[]) (by simp)).cells⟩,rfl,La⟩,gx.then1 k9 (by omega),[zv.1,zv.2.1,zv.2.2,vx,vk],?_,rfl,hone5,λI=>absurd I k8,λ_=>⟨(CL.mk zv.1 zv.2.1 zv.2.2 vx vk c.ev qc qr qx kx),rfl,hcel,λL hL=>?_⟩⟩
    ·have I:Zf (CL.mk zv.1 zv.2.1 zv.2.2 vx vk c.ev qc qr qx kx).cel=0:=Lo.1 k8;rw[I];rfl
    exact ((((hCu L hL).ext hW).st (k9.mono (by simp)))).up (λb hb=>.inl (by simp[hb]))
   refine Qi ?_;have ha:k<p.cs.length:=by have hp:(k:Int)<(p.cs.length:Int):=hH;omega
   have hJ:p.cs.take (k+1)=p.cs.take k++[p.cs[k]'ha]:=Lj ha;have pg:=hcsz.1 _ (Le ha);refine Zh (p.cs[k]'ha) λi gy=>?_;rw[gy] at hJ pg;have hX:i=(i.toNat:Int):=by omega
   have U:i.toNat<c.cs.length:=by omega
   have ht:=Le U;have hK:csG c.cel i=(c.cs[i.toNat]'U).k:=by
    show (c.cs.map (·.k)).getD i.toNat ⟨.empty,[],0⟩=_;simp[List.getD,U]
   refine Zh (c.cs[i.toNat]'U) λq hq=>?_;rw[hq] at ht hK;have gz:=k5.cs.each q ht;have ph:=k5.cs.nm q ht;have hql:=gz.le;have hcsB:csB c.cel p.co (p.cs.take (k+1))=csB c.cel p.co (p.cs.take k)++[⟨q.nm,VL p.co q.ts,q.bd⟩]:=by
    rw[hJ];unfold csB;rw[Ly,Mx,hK];rfl
   have hcsM:csM c.cel p.co (p.cs.take (k+1))=(csM c.cel p.co (p.cs.take k) || mis p.co q.ts):=by
    rw[hJ];unfold csM;rw[List.any_append,Nx,List.any_nil,Bool.or_false,hK];rfl
   refine Qg<|Qh<|Qc<|xii (i:=k) (hk.ext gv) Z Z ha λa90 g0=>?_;rw[gy] at g0;refine x (Qv g0 Z)<|Qf<|Qg<|QU (Step [] hh) [(0,true),(1,true),(2,true),(3,true),(4,true),(5,true),(6,true),(7,true),(8,true),(9,true),(10,true),(11,true),(12,true),(13,false),(14,false)] mixed (by rfl) (by kernel_rfl) (Step.drew _ _) ?_
   refine Go.Lg.p (λ_=>Qa Z)<|pq (λ_ hc=>Qd (kB210.ext hc) Z Z)<|Go.Lg.p (λ_=>Qm)<|Go.Lg.pig (g:=ZK) (i:=i.toNat) Z Kn k5.cs.arr Z (congrArg (Value.int .i64) hX) U λa140 h140=>?_;rw[hq] at h140
   refine Go.Lg.p (λ_=>Zj Z)<|pq (λ_ hc=>Qv ((h140.fld 0 (.string q.nm) Z).st hc) Z)<|Go.Lg.p (λ_=>Qa Z)<|pq (λ_ hc=>Qd (kB210.ext hc) Z Z)<|Go.Lg.p (λ_=>Qm)<|Go.Lg.pig (g:=ZK) (i:=i.toNat) Z Kn k5.cs.arr Z (congrArg (Value.int .i64) hX) U λa146 h146=>?_;rw[hq] at h146
   refine Go.Lg.p (λ_=>Zj Z)<|pq (λ_ hc=>Qv ((h146.fld 2 (.int .i64 q.bd) Z).st hc) Z)<|Go.Lg.p (λ_=>QN ⟨Z,Z,La⟩)<|pk<|Qu (us:=[.string .empty,nS,.int .i64 0]) Z λhe u11 k7 hv kB15=>⟨(Step.drew [] hh).trans k7,?_⟩;refine pkl (hl:=by kernel_rfl)<|Qn (us:=[.string q.nm,nS,.int .i64 q.bd]) kB15 Z Z Z Z ⟨Z,Z,Z,La⟩ λhI hW kB15=>pe ?_;have hv:hh.heap.size≤he:=hv
   have hD:Step [] hh hI:=((Step.drew [] hh).trans k7).then1 hW hv;have gx:=gv.trans hD;have k12:=h.ext gx;have kB212:=kB210.ext hD;have kz12:=hD.size;have hl15:=kB15.lt;have pj:=gz.ext hD;refine Qg<|Qc<|x (Qa Z)<|x (Qd kB212 Z Z)<|Qb<|xig (g:=ZK) (i:=i.toNat) Kn k12.cs.arr Z (congrArg (Value.int .i64) hX) U λa102 g1=>?_;rw[hq] at g1
   refine x (Zj Z)<|x (Qv (g1.fld 1 q.v Z) Z)<|x (Qr pj Z)<|Qb<|xe ?_;have pn:∀b∈[he,b11],w.heap.size≤b:=λb hb=>by simp only[List.mem_cons,List.not_mem_nil,or_false] at hb;omega
   have po:b3∉[he,b11]:=λhb=>by simp only[List.mem_cons,List.not_mem_nil,or_false] at hb;omega
   have hn1510:b10∉[he,b11]:=λhb=>by simp only[List.mem_cons,List.not_mem_nil,or_false] at hb;omega
   refine Qh<|Qz (α:=Nat×Bool×Value) [(22,22),(157,173)] (λz=>[(157,.int .i64 z.1)]) (λz w'=>z.1≤q.ts.length∧Step [he,b11] hI w'∧QT w'.heap he 153 [.string q.nm,z.2.2,.int .i64 q.bd]∧QT w'.heap b11 4 [.bool z.2.1] ∧
    w'.ownsRow hI.heap.size 155 2 z.2.2 z.1 ((VL p.co (q.ts.take z.1)).flatMap Zb)∧z.2.1=(mk || mis p.co (q.ts.take z.1))) (λz=>q.ts.length - z.1) (by rfl) (0,mk,nS) Lb
    ⟨Ln _,Step.refl _ _,kB15,kB1110.ext hD,QP _ _ _ _,by simp[mis]⟩ ?_
   rintro ⟨j,mj,vl⟩ g hC ⟨hj,hY,kB1513,kB1113,kO13,hw⟩;simp only[] at hj kB1513 kB1113 kO13 hw;have ks013:Step [] w hC:=gx.then hY (λb hb=>.inr (pn b hb));have kz13:=hY.size;have hy:=Qq kO13;refine Qc<|x (QA Z Z)<|xe<|Qg<|QC Z (λhM=>?_) (λhM=>?_)
   ·refine Qy ?_;have g2:j=q.ts.length:=by have hp:¬(j:Int)<(q.ts.length:Int):=hM;omega
    rw[g2,Nt] at kO13;rw[g2,Nt] at hw;have ma:Step [b11] hh hC:=(hD.any (L:=[b11])).then hY (λb hb=>by
     simp only[List.mem_cons,List.not_mem_nil,or_false] at hb;rcases hb with rfl | rfl
     ·exact .inr hv
     exact .inl (by simp))
    have kB1013:=kB1010.step ma (by simpa using hn10);have kX13:KvN Y.heap.size hC vk kx:=Yh.low kX10 ma (λb hb=>hlt10 b (kw b hb));have kXge:=Qq kX10.own;have pp:(VL p.co q.ts).length=q.ts.length:=Li ..
    refine Qx<|x (Qa Z)<|x (Qd kB1013 Z Z)<|x (Qp kB1513 Z Z)<|xl Z<|QH (us:=[ZK ⟨q.nm,vl,VL p.co q.ts,q.bd⟩]) Z Z (by decide) (by simp) ⟨rfl,rfl,La⟩ λb126 u14 hz hb126 kB126 =>
     xl rfl<|Q6 (news:=ZK ⟨q.nm,vl,VL p.co q.ts,q.bd⟩) (L:=[]) (Qt kX13.own hz) Z Z Z (kB126.at (by simp)) (QfD (q:=⟨q.nm,vl,VL p.co q.ts,q.bd⟩) (QO kO13)) (by omega) (by have:=hz.size;omega) λhN hf g3 hZ pt=>?_
    have kX15:KvN Y.heap.size hf hN (kx++[⟨q.nm,vl,VL p.co q.ts,q.bd⟩]):=Yh.app2 (N:=hI.heap.size) (kX13.ext hz) (by show u14.ownsRow _ _ 2 vl (VL p.co q.ts).length _;rw[pp];exact Qt kO13 hz) (by show (VL p.co q.ts).length≤_;omega) (by omega) (λb hb=>by have:=kXge b hb;omega) g3 hZ pt;have pu:b10∉ob vk:=λhm=>by have:=(kXge b10 hm).1;omega
    have pw:b11∉ob vk:=λhm=>by have:=(kXge b11 hm).1;omega
    have ks915:Step [b10,b11] Y hf:=((hA.trans' (ma.mono kw)).trans hz).then hZ (λb hb=>.inr (kXge b hb).1);have kB1015:=(kB1013.ext hz).step hZ pu;have kB1115:=(kB1113.ext hz).step hZ pw;refine x (Qa Z)<|xl Z<|QF (j:=4) (u:=hN) kB1015 Z Z (by simp) (QO g3) λu16 g4 kB1016=>xe ?_;refine Qx<|QQ Z Z<|Qb<|xe ?_
    refine ⟨(k+1,mj,hN,kx++[⟨q.nm,vl,VL p.co q.ts,q.bd⟩]),by simp only[];omega,Lb,ha,ks915.trans' (g4.mono kv),kB1016,kB1115.step g4 (by simp only[List.mem_singleton];omega),Yh.low kX15 g4 (λb hb=>hlt10 b (kv b hb)),?_,?_,?_⟩
    ·simp only[];rw[hcsB,Ly,gu];rfl
    ·simp only[];rw[hcsM,hw,k4,Bool.or_assoc]
    intro q' pz;rcases Lp.1 pz with h9' | h9'
    ·exact pd q' h9'
    simp only[List.mem_singleton] at h9';subst h9';exact ph
   refine Qi ?_;have ho:j<q.ts.length:=by have hp:(j:Int)<(q.ts.length:Int):=hM;omega
   have hO:q.ts.take (j+1)=q.ts.take j++[q.ts[j]'ho]:=Lj ho;have ma:Step [b11] hh hC:=(hD.any (L:=[b11])).then hY (λb hb=>by
    simp only[List.mem_cons,List.not_mem_nil,or_false] at hb;rcases hb with rfl | rfl
    ·exact .inr hv
    exact .inl (by simp))
   have p0:P2s [] hC.heap q.v q.ts:=(h.ext ks013).cs.each q ht;refine Qg<|Qh<|Qc<|xig (g:=Zb) JU p0 Z Z ho λa108 g5=>?_;refine Zh (q.ts[j]'ho) λlc p4=>?_;rw[p4] at g5 hO;have p5:VL p.co (q.ts.take (j+1))=VL p.co (q.ts.take j)++[((lwB p.co lc.1:Int),lc.2)]:=by
    rw[hO];unfold VL;rw[Ly];rfl
   have p6:mis p.co (q.ts.take (j+1))=(mis p.co (q.ts.take j) || !decide (lc.1∈p.co)):=by
    rw[hO];unfold mis;rw[List.any_append];simp
   refine x (QJ g5 Z Z)<|xl Z<|Qu (us:=[.int .i64 0,.int .i64 0]) Z λb22 u14 hz p7 kB17=>xl Z<|Qn (us:=Zb lc) kB17 Z Z Z Z ⟨Z,Z,La⟩ λhf hZ kB17=>xe ?_;have hP:Step [] hC hf:=hz.then1 hZ p7;have ks015:=ks013.trans hP;have kz15:=hP.size;have kB1515:=kB1513.ext hP;have kB1115:=kB1113.ext hP
   have kB315:QT hf.heap b3 281 [v0,v1,v2,v3]:=(((kB310.ext hD).step hY po)).ext hP;have g6:he∉b11::ob vl:=λhb=>by
    rcases Lh.1 hb with rfl | hb
    ·omega
    have:=(hy he hb).1;omega
   have g7:b22∉b11::ob vl:=λhb=>by
    rcases Lh.1 hb with rfl | hb
    ·omega
    have:=(hy b22 hb).2;omega
   have g8:b11∉ob vl:=λhb=>by have:=(hy b11 hb).1;omega
   have p8:he∉ob vl:=λhb=>g6 (Lk _ hb);refine QU (Step (b11::ob vl) hf) [(0,true),(1,true),(2,true),(3,true),(4,true),(6,true),(7,true),(5,false),(8,true),(9,false),(10,false),(11,true),(12,false)] mixed (by rfl) (by kernel_rfl) (Step.drew _ _) ?_;have mc:Step [] hf { hf with drawn:=hf.drawn+1 }:=Step.drew _ _
   have hzd:({ hf with drawn:=hf.drawn+1 }:World).heap.size=hf.heap.size:=rfl
   refine Go.Lg.p (λ_=>Qa Z)<|pq (λ_ hc=>Qd (kB1515.step hc g6) Z Z)<|Go.Lg.p (λ_=>Qm)<|Go.Lg.p (λ_=>Qa Z)<|pq (λ_ hc=>Qd (kB17.step hc g7) Z Z) <|
    Go.Lg.p (λ_=>Qa Z)<|pq (λ_ hc=>Qd (kB17.step hc g7) Z Z)<|pk<|xc (first:=[]) (capt:=[.pointer (some ⟨b3,0,none⟩),.pointer (some ⟨b11,0,none⟩)]) Z<|(jx (kB315.ext mc) (kB1115.ext mc) (hc.ext (ks015.trans mc)) gn.2.1 lc.1).mono ?_
   rintro r16 u16 ⟨g4,rfl,kB1116⟩;have p9:=mc.any.trans' g4;have hQ:∀b∈[b11],b∈b11::ob vl:=λb hb=>by simp only[List.mem_singleton] at hb;simp[hb]
   refine ⟨p9.mono hQ,?_⟩;refine Go.Lg.p (λ_=>QN ⟨Z,Z,La⟩)<|pk<|QH (us:=[Zb ((lwB p.co lc.1:Int),lc.2)]) Z Z (by decide) (by simp) ⟨rfl,rfl,La⟩ λb119 u17 qo hb119 gr=>⟨(p9.trans qo).mono hQ,?_⟩;have g9:=p9.trans qo
   have kO17:u17.ownsRow hI.heap.size 155 2 vl j ((VL p.co (q.ts.take j)).flatMap Zb):=Qk (Qt kO13 hP) g9 (λb hb hm=>by simp only[List.mem_singleton] at hm;subst hm;exact g8 hb);have kz17:=g9.size;refine pk<|Q6 (news:=Zb ((lwB p.co lc.1:Int),lc.2)) (L:=[]) kO17 Z Z Z (gr.at (by simp)) (λu hu=>by
    simp only[List.mem_cons,List.not_mem_nil,or_false] at hu;rcases hu with rfl | rfl <;> rfl) (by omega) (by omega) λka u18 hR mf hn18=>⟨(g9.mono hQ).trans' (mf.mono (λb hb=>Lk _ hb)),?_⟩
   have kB1518:=((kB1515.step g9 (by simp only[List.mem_singleton];omega))).step mf p8;have kB1118:=(kB1116.ext qo).step mf g8;refine Go.Lg.p (λ_=>Qa Z)<|pkl (hl:=by kernel_rfl)<|QF (j:=1) (u:=ka) kB1518 Z Z (by simp) (QO hR) λu19 q9 kB1519=>pe ?_;refine Qx<|QQ Z Z<|Qb<|xe ?_;have j1:∀b∈[b11],b∈[he,b11]:=λb hb=>by simp only[List.mem_singleton] at hb;simp[hb]
   have j2:∀b∈[he],b∈[he,b11]:=λb hb=>by simp only[List.mem_singleton] at hb;simp[hb]
   have ks1218:Step [he,b11] hI u18:=((hY.trans hP).trans' (g9.mono j1)).then mf (λb hb=>.inr (hy b hb).1);refine ⟨(j+1,mj || !decide (lc.1∈p.co),ka),by simp only[];omega,Lb,ho,ks1218.trans' (q9.mono j2),kB1519,kB1118.step q9 (by simp only[List.mem_singleton];omega),?_,?_⟩
   ·simp only[];rw[p5,LH];have:=Qk hR q9 (λb hb=>by
     simp only[List.mem_singleton];have:=(Qq hR b hb).1;omega)
    simpa using this
   simp only[];rw[p6,hw,Bool.or_assoc]
  refine Qi ?_;have ha:k<p.ex.length:=by have hp:(k:Int)<(p.ex.length:Int):=hH;omega
  have hJ:p.ex.take (k+1)=p.ex.take k++[p.ex[k]'ha]:=Lj ha;have pg:=hexz.1 _ (Le ha);refine Zh (p.ex[k]'ha) λi gy=>?_;rw[gy] at hJ pg;have hX:i=(i.toNat:Int):=by omega
  have U:i.toNat<c.ex.length:=by omega
  have ht:=Le U;have hK:exG c.cel i=(c.ex[i.toNat]'U).x:=by
   show (c.ex.map (·.x)).getD i.toNat ⟨.empty,[]⟩=_;simp[List.getD,U]
  refine Zh (c.ex[i.toNat]'U) λq hq=>?_;rw[hq] at ht hK;have gz:=m7.ex.each q ht;have ph:=m7.ex.nm q ht;have hql:=gz.le;have hexB:exB c.cel p.co (p.ex.take (k+1))=exB c.cel p.co (p.ex.take k)++[⟨q.nm,VL p.co q.ls⟩]:=by
   rw[hJ];unfold exB;rw[Ly,Mx,hK];rfl
  have hexM:exM c.cel p.co (p.ex.take (k+1))=(exM c.cel p.co (p.ex.take k) || mis p.co q.ls):=by
   rw[hJ];unfold exM;rw[List.any_append,Nx,List.any_nil,Bool.or_false,hK];rfl
  refine Qg<|Qh<|Qc<|xii (i:=k) (hx.ext gt) Z Z ha λa90 g0=>?_;rw[gy] at g0;refine x (Qv g0 Z)<|Qf<|Qc<|x (Qa Z)<|x (Qd m8 Z Z)<|Qb<|xig (g:=ZH) (i:=i.toNat) KK m7.ex.arr Z (congrArg (Value.int .i64) hX) U λa95 h95=>?_;rw[hq] at h95;refine x (Zj Z)<|x (Qv (h95.fld 0 (.string q.nm) Z) Z)<|x (QN Lb)<|xl Z<|Qu (us:=[.string .empty,nS]) Z λb15 w11 j3 hv mg =>
   xl rfl<|Qn (us:=[.string q.nm,nS]) mg Z Z Z Z ⟨Z,Z,La⟩ λga hs12 mg=>xe ?_
  have hF:Step [] Y ga:=j3.then1 hs12 hv;have hs012:=gt.trans hF;have h12:=h.ext hs012;have hB212:=m8.ext hF;have hz12:=hF.size;have hl15:=mg.lt;have pj:=gz.ext hF;refine Qg<|Qc<|x (Qa Z)<|x (Qd hB212 Z Z)<|Qb<|xig (g:=ZH) (i:=i.toNat) KK h12.ex.arr Z (congrArg (Value.int .i64) hX) U λa102 g1=>?_;rw[hq] at g1
  refine x (Zj Z)<|x (Qv (g1.fld 1 q.v Z) Z)<|x (Qr pj Z)<|Qb<|xe ?_;have pn:∀b∈[b15,b11],w.heap.size≤b:=λb hb=>by simp only[List.mem_cons,List.not_mem_nil,or_false] at hb;omega
  have po:b3∉[b15,b11]:=λhb=>by simp only[List.mem_cons,List.not_mem_nil,or_false] at hb;omega
  have hn1510:b10∉[b15,b11]:=λhb=>by simp only[List.mem_cons,List.not_mem_nil,or_false] at hb;omega
  refine Qh<|Qz (α:=Nat×Bool×Value) [(17,17),(106,122)] (λz=>[(106,.int .i64 z.1)]) (λz w'=>z.1≤q.ls.length∧Step [b15,b11] ga w'∧QT w'.heap b15 99 [.string q.nm,z.2.2]∧QT w'.heap b11 4 [.bool z.2.1] ∧
   w'.ownsRow ga.heap.size 101 2 z.2.2 z.1 ((VL p.co (q.ls.take z.1)).flatMap Zb)∧z.2.1=(mi || mis p.co (q.ls.take z.1))) (λz=>q.ls.length - z.1) (by rfl) (0,mi,nS) Lb
   ⟨Ln _,Step.refl _ _,mg,gr.ext hF,QP _ _ _ _,by simp[mis]⟩ ?_
  rintro ⟨j,mj,vl⟩ g gb ⟨hj,gc,j4,za,ge,hw⟩;simp only[] at hj j4 za ge hw;have hs013:Step [] w gb:=hs012.then gc (λb hb=>.inr (pn b hb));have hz13:=gc.size;have hy:=Qq ge;refine Qc<|x (QA Z Z)<|xe<|Qg<|QC Z (λhM=>?_) (λhM=>?_)
  ·refine Qy ?_;have g2:j=q.ls.length:=by have hp:¬(j:Int)<(q.ls.length:Int):=hM;omega
   rw[g2,Nt] at ge;rw[g2,Nt] at hw;have mh:Step [b11] Y gb:=(hF.any (L:=[b11])).then gc (λb hb=>by
    simp only[List.mem_cons,List.not_mem_nil,or_false] at hb;rcases hb with rfl | rfl
    ·exact .inr hv
    exact .inl (by simp))
   have hB1013:=m5.step mh (by simpa using hn10);have hX13:XvN w9.heap.size gb vx qx:=Yh.low kz mh (λb hb=>ku b (kw b hb));have mo:=Qq kz.own;have pp:(VL p.co q.ls).length=q.ls.length:=Li ..
   refine Qx<|x (Qa Z)<|x (Qd hB1013 Z Z)<|x (Qp j4 Z Z)<|xl Z<|QH (us:=[ZH ⟨q.nm,vl,VL p.co q.ls⟩]) Z Z (by decide) (by simp) ⟨rfl,rfl,La⟩ λb126 w14 h6 hb126 hB126 =>
    xl rfl<|Q6 (news:=ZH ⟨q.nm,vl,VL p.co q.ls⟩) (L:=[]) (Qt hX13.own h6) Z Z Z (hB126.at (by simp)) (Qan (q:=⟨q.nm,vl,VL p.co q.ls⟩) (QO ge)) (by omega) (by have:=h6.size;omega) λhN hg g3 gg pt=>?_
   have hX15:XvN w9.heap.size hg hN (qx++[⟨q.nm,vl,VL p.co q.ls⟩]):=Yh.app2 (N:=ga.heap.size) (hX13.ext h6) (by show w14.ownsRow _ _ 2 vl (VL p.co q.ls).length _;rw[pp];exact Qt ge h6) (by show (VL p.co q.ls).length≤_;omega) (by omega) (λb hb=>by have:=mo b hb;omega) g3 gg pt;have pu:b10∉ob vx:=λhm=>by have:=(mo b10 hm).1;omega
   have pw:b11∉ob vx:=λhm=>by have:=(mo b11 hm).1;omega
   have hs915:Step [b10,b11] w9 hg:=((hG.trans' (mh.mono kw)).trans h6).then gg (λb hb=>.inr (mo b hb).1);have hB1015:=(hB1013.ext h6).step gg pu;have zb:=(za.ext h6).step gg pw;refine x (Qa Z)<|xl Z<|QF (j:=3) (u:=hN) hB1015 Z Z (by simp) (QO g3) λw16 kb hB1016=>xe ?_;refine Qx<|QQ Z Z<|Qb<|xe ?_
   refine ⟨(k+1,mj,hN,qx++[⟨q.nm,vl,VL p.co q.ls⟩]),by simp only[];omega,Lb,ha,hs915.trans' (kb.mono kv),hB1016,zb.step kb (by simp only[List.mem_singleton];omega),Yh.low hX15 kb (λb hb=>ku b (kv b hb)),?_,?_,?_⟩
   ·simp only[];rw[hexB,Ly,gs];rfl
   ·simp only[];rw[hexM,hw,k0]
   intro q' pz;rcases Lp.1 pz with h9' | h9'
   ·exact m6 q' h9'
   simp only[List.mem_singleton] at h9';subst h9';exact ph
  refine Qi ?_;have ho:j<q.ls.length:=by have hp:(j:Int)<(q.ls.length:Int):=hM;omega
  have hO:q.ls.take (j+1)=q.ls.take j++[q.ls[j]'ho]:=Lj ho;have mh:Step [b11] Y gb:=(hF.any (L:=[b11])).then gc (λb hb=>by
   simp only[List.mem_cons,List.not_mem_nil,or_false] at hb;rcases hb with rfl | rfl
   ·exact .inr hv
   exact .inl (by simp))
  have p0:P2s [] gb.heap q.v q.ls:=(h.ext hs013).ex.each q ht;refine Qg<|Qh<|Qc<|xig (g:=Zb) JU p0 Z Z ho λa108 g5=>?_;refine Zh (q.ls[j]'ho) λlc p4=>?_;rw[p4] at g5 hO;have p5:VL p.co (q.ls.take (j+1))=VL p.co (q.ls.take j)++[((lwB p.co lc.1:Int),lc.2)]:=by
   rw[hO];unfold VL;rw[Ly];rfl
  have p6:mis p.co (q.ls.take (j+1))=(mis p.co (q.ls.take j) || !decide (lc.1∈p.co)):=by
   rw[hO];unfold mis;rw[List.any_append];simp
  refine x (QJ g5 Z Z)<|xl Z<|Qu (us:=[.int .i64 0,.int .i64 0]) Z λb17 w14 h6 p7 mq=>xl Z<|Qn (us:=Zb lc) mq Z Z Z Z ⟨Z,Z,La⟩ λhg gg mq=>xe ?_;have hS:Step [] gb hg:=h6.then1 gg p7;have hs015:=hs013.trans hS;have hz15:=hS.size;have hB1515:=j4.ext hS;have zb:=za.ext hS
  have hB315:QT hg.heap b3 281 [v0,v1,v2,v3]:=(((m9.ext hF).step gc po)).ext hS;have g6:b15∉b11::ob vl:=λhb=>by
   rcases Lh.1 hb with rfl | hb
   ·omega
   have:=(hy b15 hb).1;omega
  have g7:b17∉b11::ob vl:=λhb=>by
   rcases Lh.1 hb with rfl | hb
   ·omega
   have:=(hy b17 hb).2;omega
  have g8:b11∉ob vl:=λhb=>by have:=(hy b11 hb).1;omega
  have p8:b15∉ob vl:=λhb=>g6 (Lk _ hb);refine QU (Step (b11::ob vl) hg) [(0,true),(1,true),(2,true),(3,true),(4,true),(6,true),(7,true),(5,false),(8,true),(9,false),(10,false),(11,true),(12,false)] mixed (by rfl) (by kernel_rfl) (Step.drew _ _) ?_;have ms:Step [] hg { hg with drawn:=hg.drawn+1 }:=Step.drew _ _
  have hzd:({ hg with drawn:=hg.drawn+1 }:World).heap.size=hg.heap.size:=rfl
  refine Go.Lg.p (λ_=>Qa Z)<|pq (λ_ hc=>Qd (hB1515.step hc g6) Z Z)<|Go.Lg.p (λ_=>Qm)<|Go.Lg.p (λ_=>Qa Z)<|pq (λ_ hc=>Qd (mq.step hc g7) Z Z) <|
   Go.Lg.p (λ_=>Qa Z)<|pq (λ_ hc=>Qd (mq.step hc g7) Z Z)<|pk<|xc (first:=[]) (capt:=[.pointer (some ⟨b3,0,none⟩),.pointer (some ⟨b11,0,none⟩)]) Z<|(jx (hB315.ext ms) (zb.ext ms) (hc.ext (hs015.trans ms)) gn.2.1 lc.1).mono ?_
  rintro r16 w16 ⟨kb,rfl,hB1116⟩;have z0:=ms.any.trans' kb;have hQ:∀b∈[b11],b∈b11::ob vl:=λb hb=>by simp only[List.mem_singleton] at hb;simp[hb]
  refine ⟨z0.mono hQ,?_⟩;refine Go.Lg.p (λ_=>QN ⟨Z,Z,La⟩)<|pk<|QH (us:=[Zb ((lwB p.co lc.1:Int),lc.2)]) Z Z (by decide) (by simp) ⟨rfl,rfl,La⟩ λb119 w17 z1 hb119 kr=>⟨(z0.trans z1).mono hQ,?_⟩;have kc:=z0.trans z1
  have hO17:w17.ownsRow ga.heap.size 101 2 vl j ((VL p.co (q.ls.take j)).flatMap Zb):=Qk (Qt ge hS) kc (λb hb hm=>by simp only[List.mem_singleton] at hm;subst hm;exact g8 hb);have hz17:=kc.size;refine pk<|Q6 (news:=Zb ((lwB p.co lc.1:Int),lc.2)) (L:=[]) hO17 Z Z Z (kr.at (by simp)) (λu hu=>by
   simp only[List.mem_cons,List.not_mem_nil,or_false] at hu;rcases hu with rfl | rfl <;> rfl) (by omega) (by omega) λka w18 hR mt hn18=>⟨(kc.mono hQ).trans' (mt.mono (λb hb=>Lk _ hb)),?_⟩
  have hB1518:=((hB1515.step kc (by simp only[List.mem_singleton];omega))).step mt p8;have hB1118:=(hB1116.ext z1).step mt g8;refine Go.Lg.p (λ_=>Qa Z)<|pkl (hl:=by kernel_rfl)<|QF (j:=1) (u:=ka) hB1518 Z Z (by simp) (QO hR) λw19 z2 hB1519=>pe ?_;refine Qx<|QQ Z Z<|Qb<|xe ?_;have j1:∀b∈[b11],b∈[b15,b11]:=λb hb=>by simp only[List.mem_singleton] at hb;simp[hb]
  have j2:∀b∈[b15],b∈[b15,b11]:=λb hb=>by simp only[List.mem_singleton] at hb;simp[hb]
  have hs1218:Step [b15,b11] ga w18:=((gc.trans hS).trans' (kc.mono j1)).then mt (λb hb=>.inr (hy b hb).1);refine ⟨(j+1,mj || !decide (lc.1∈p.co),ka),by simp only[];omega,Lb,ho,hs1218.trans' (z2.mono j2),hB1519,hB1118.step z2 (by simp only[List.mem_singleton];omega),?_,?_⟩
  ·simp only[];rw[p5,LH];have:=Qk hR z2 (λb hb=>by
    simp only[List.mem_singleton];have:=(Qq hR b hb).1;omega)
   simpa using this
  simp only[];rw[p6,hw,Bool.or_assoc]
 refine Qi ?_;have gh:k<H.length:=by have hp:(k:Int)<(H.length:Int):=mz;omega
 have hmem:=Le gh;have hdr:H.drop k=H[k]'gh::H.drop (k+1):=LQ gh;refine Qg<|Qh<|Qc<|xig (g:=skC) Qny (z9.ext h8) Z Z gh λa58 h58=>?_;refine Zh (H[k]'gh) λq hq=>?_;rw[hq] at h58 hmem hdr;have hqi:=hl4i q hmem;rw[hdr,show q=(q.1,q.2.1,q.2.2) from rfl,ck4] at hck
 refine x (QJ h58 Z Z)<|xl Z<|Qu (us:=[nS,.int .i64 0]) Z λb8 w8 hU hb8 mu=>xl Z<|Qn (us:=skC q) mu Z Z Z Z ⟨hqi.one,Z,La⟩ λw9 m4 mu=>xe ?_;have h9:Step [] V w9:=hU.then1 m4 hb8;have gq:=gm.trans h9;refine Qc<|x (Qa Z)<|x (Qd mu Z Z)<|x (Qa Z)<|x (Qd mu Z Z)<|xl Z<|xf<|(Vo (hqi.ext gq) q.2.2).mono ?_;rintro r10 Y ⟨rfl,rfl⟩;refine Qf<|Qc<|Qb<|x (Q8 Z Z)<|xe ?_
 refine Q3 rfl (λke=>?_) (λke=>?_)
 ·rw[if_pos ke] at hck;have hne:ck4 H≠0:=by rw[←hck];exact ke
  rw[if_pos hne,←hck] at J;subst J;have pa:QT Y.heap b4 37 Xj:=((my.ext hT).ext h8).ext h9;refine Qc<|x (QN La)<|Qb<|xl Z<|Qn (us:=Xj) pa Z Z Z Z ⟨Z,Z,Z,Z,Z,La⟩ λw11 j3 hB411=>Qf ?_
  exact Ql ⟨[.agg Xj.toArray,.int .i64 (YV q.2.2 none q.2.1)],⟨⟨_,Z,Qw Z (hB411.at (L:=[]) (by simp)).cells⟩,rfl,La⟩,gq.then1 j3 (by omega),Xj,rfl,rfl,⟨rfl,rfl,rfl,rfl,rfl,La⟩,λ_=>rfl,λI=>absurd I ke⟩
 rw[if_neg ke] at hck;refine Qi<|Qx<|QQ Z Z<|Qb<|xe ?_;exact ⟨k+1,by omega,Lb,gh,h8.trans h9,hck⟩
theorem Qb2 (n:Nat):(1:Int)*(2:Int) ^ n=((1 <<< n:Nat):Int):=by
 rw[Nat.shiftLeft_eq,M6,Int.one_mul,Int.natCast_pow];rfl
theorem KR {n:Nat}(h:n<16):1 <<< n<65536:=by
 rw[Nat.shiftLeft_eq,M6];exact Nat.pow_lt_pow_right (by decide) h
theorem QdX {b k:Nat}(hb:b<65536) (hk:k<16):orB b k<65536:=Qfg hb (KR hk)
theorem QlX {n:Nat}(h:n<16):inK .u16 ((1:Int)*(2:Int) ^ n):=by
 rw[Qb2];have h1:=KR h;generalize 1 <<< n=m at h1;exact ⟨by omega,by omega⟩
theorem Qh3 {x:Yo}:∀(l:List Yo) (k b:Nat),b<65536→k+l.length≤16→rqB x k b l<65536
 | [],_,_,hb,_=>hb
 | y::l,k,b,hb,hk=>by
  rw[rqB];refine Qh3 l _ _ ?_ (by simp at hk;omega);by_cases h:(y.a.al.any λe=>decide (e∈x.a.al))=true
  ·rw[if_pos h];exact QdX hb (by simp at hk;omega)
  rw[if_neg h];exact hb
theorem Qce (ls:List (Int×Int)) (l:Int×Int):jd (ls++[l])=orB (jd ls) l.1.toNat:=by
 unfold jd;rw[Mv];rfl
theorem QaT:∀(ls:List (Int×Int)),(∀l∈ls,0≤l.1∧l.1<16)→jd ls<65536:=by
 intro ls;unfold jd;have key:∀(ls:List (Int×Int)) (b:Nat),b<65536→(∀l∈ls,0≤l.1∧l.1<16)→ls.foldl (λb l=>orB b l.1.toNat) b<65536:=by
  intro ls;induction ls with
  | nil=>intro b hb _;exact hb
  | cons l ls ih =>
   intro b hb h;exact ih _ (QdX hb (by have:=h l Lm;omega)) (λl' hl=>h l' (Lk _ hl))
 exact key ls 0 (by decide)
theorem Qa7 (m:Nat) (hm:m<65536) (w:World):QG prog 99 [.int .u16 m] w λr w'=>Step [] w w'∧Qs 3 w.heap.size w' r (setK m 8):=by
 refine QG.of_W func99 Z ntmps99 results99 (by simp) ?_;refine Qc<|Qf<|Qc<|Qf<|Qg<|Qc<|Qb<|xe<|Qh<|Qz (α:=Nat×Value) [(3,17)] (λz=>[(3,z.2),(5,.int .i64 z.1)]) (λz w'=>z.1≤8∧Step [] w w'∧Qs 3 w.heap.size w' z.2 (setK m z.1)) (λz=>8 - z.1) (by rfl) (0,nS) ⟨Z,Z,La⟩
  ⟨Ln _,Step.refl _ _,QP _ _ _ _⟩ ?_
 rintro ⟨k,v⟩ g w1 ⟨hk,H,E⟩;simp only[] at hk E;have hh:=Jq m k;have hi:=H.size;refine Qc<|x (QA Z Z)<|xe<|Qg<|QC Z (λh6=>?_) (λh6=>?_)
 ·refine Qy<|Qc<|Qb<|Qf ?_;have Y:k=8:=by omega
  rw[Y] at E;exact Ql ⟨[v],Lb,H,E⟩
 have U:k<8:=by omega
 have ha:m / 2 ^ k<65536:=Nw (Nat.div_le_self _ _) hm;have I:=U1 m k;refine Qi<|Qg<|Qh<|Qc<|Qb<|Qf<|Qc<|Qb<|Qb<|x (zz (n:=k) Z Z (by show k≤16;omega))<|x (Qle (a:=m / 2 ^ k) (b:=1) (congrArg (Value.int .u16) (qP m k)) Z ha (by decide))<|x (Zr Z Z)<|xe<|QC rfl (λV=>?_) (λV=>?_)
 ·rw[if_neg (λe=>V (by rw[e];rfl))] at I;refine Qi<|Qx<|QQ Z Z<|Qb<|xe ?_;exact ⟨(k+1,v),by simp only[];omega,⟨Z,Z,La⟩,U,H,by simp only[];rw[I];exact E⟩
 rw[if_pos (by omega)] at I;refine Qx<|Qb<|Qb<|xl Z<|QH (us:=[[.int .i64 k]]) Z Z (by decide) (by simp) ⟨rfl,rfl,La⟩ λb15 w2 J hj hc=>?_;have he:=Qt E J;have hl:=J.size;refine xl rfl<|Q6 (news:=[.int .i64 k]) (L:=[]) he Z Z Z (hc.at (by simp)) (by simp[Value.oneCell']) (by omega) (by omega) λv3 w3 hf hg hn =>
  Qf ?_
 have hge:=Qq E;refine Qx<|QQ Z Z<|Qb<|xe<|⟨(k+1,v3),by simp only[];omega,⟨Z,Z,La⟩,U,(H.trans J).then hg (λb hb=>.inr (hge b hb).1),?_⟩;simp only[];rw[I];exact Qs.snoc hf
theorem QhL {w:World}{c:CL}{E H i:Nat}(U:QT w.heap E 37 c.cells) (V:QT w.heap H 3 [.int .i64 i]) (hc:ZS [] w.heap c) {q:IV}(hi:c.rq[i]?=some q) (e:Int) :
  QG prog 154 [.int .i64 e,.pointer (some ⟨E,0,none⟩),.pointer (some ⟨H,0,none⟩)] w λr w'=>r=.bool (decide (e∈q.p.a.al))∧Step [] w w':=by
 obtain ⟨I,hq⟩:=Ma.1 hi;have Y:=hc.rq.each q (hq ▸ Le I);refine QG.of_W func154 Z ntmps154 results154 (by simp) ?_;refine Qc<|Qf<|Qc<|x (Qa Z)<|x (Qd U Z Z)<|x (Qd V Z Z)<|xig (g:=Zm) (i:=i) X0 hc.rq.arr Z Z I λa8 J=>?_;rw[hq] at J;refine x (Zj Z)<|x (Zj Z)<|x (Qv ((J.fld 1 q.p.va Z)) Z)<|Qb<|xl Z<|xf<|(YN Y.al e).mono ?_
 rintro r1 w1 ⟨rfl,rfl⟩;refine Qf ?_;exact Ql ⟨[_],Lb,Z,Step.refl _ _⟩
theorem QkV {w:World}{c:CL}{Y i:Nat}(hj:QT w.heap Y 37 c.cells) (hc:ZS [] w.heap c) (h8:c.co.length≤8) {q:IV}(hi:c.rq[i]?=some q) :
  QG prog 152 [.int .i64 i,.pointer (some ⟨Y,0,none⟩)] w λr w'=>r=.int .u16 (rqB q.it 0 0 c.cel.co)∧Step [] w w':=by
 refine QG.of_W func152 Z ntmps152 results152 (by simp) ?_;refine Qc<|xl Z<|QR (us:=[.int .i64 i]) Z λb2 w1 ha h1 hp=>Qf<|Qc<|Qf<|Qg<|Qc<|x (Qa Z)<|x (Qd (hj.ext ha) Z Z)<|x (Qr (hc.ext ha).co.arr Z)<|Qb<|xe ?_
 refine Qh<|Qz (α:=Nat×Nat) [(4,6),(10,24)] (λz=>[(4,.int .u16 z.2),(10,.int .i64 z.1)]) (λz w'=>z.1≤c.co.length∧Step [] w1 w'∧z.2<65536∧rqB q.it z.1 z.2 ((c.co.drop z.1).map (·.it))=rqB q.it 0 0 c.cel.co) (λz=>c.co.length - z.1) (by rfl) (0,0) ⟨Z,Z,La⟩
  ⟨Ln _,Step.refl _ _,by decide,Z⟩ ?_
 rintro ⟨k,b⟩ g w2 ⟨hk,U,hb,E⟩;simp only[] at hk hb E;have he:=ha.trans U;have h2:=hc.ext he;refine Qc<|x (QA Z Z)<|xe<|Qg<|QC Z (λhf=>?_) (λhf=>?_)
 ·refine Qy ?_;have hq:c.co.length≤k:=by have hs:¬(k:Int)<(c.co.length:Int):=hf;omega
  rw[Lx hq] at E;have ht:b=rqB q.it 0 0 c.cel.co:=E;refine Qc<|Qb<|Qf ?_;exact Ql ⟨[.int .u16 b],Lb,by rw[ht];rfl,he⟩
 have H:k<c.co.length:=by have hs:(k:Int)<(c.co.length:Int):=hf;omega
 have hl:=Le H;rw[JO H,rqB] at E;refine Qi<|Qg<|Qh<|Qc<|Qb<|xig (g:=Zm) (i:=k) X0 h2.co.arr Z Z H λh3 hm=>?_;refine Zh (c.co[k]'H) λy hy=>?_;rw[hy] at hm hl E;have V:=h2.co.each y hl;refine x (QJ hm Z Z)<|xl Z<|Qu (us:=[.string .empty,nS,.int .i64 0,nS,nS]) Z λb6 w3 hu hv hg=>x Qe <|
  xl rfl<|Qn (us:=Zm y) hg Z Z Z Z ⟨Z,V.al.one,Z,V.mr.one,V.ed.one,La⟩ λw4 hw hg=>xe ?_
 have J:Step [] w2 w4:=hu.then1 hw hv;have hn:=he.trans J;refine Qc<|x (Qa Z)<|x (Qa Z)<|x (Qd hg Z Z)<|x (Zo (l:=[]) (l':=[_,_]))<|xl Z<|xf<|(Qf5 (q:=λe=>decide (e∈q.p.a.al)) (cap:=[.pointer (some ⟨Y,0,none⟩),.pointer (some ⟨b2,0,none⟩)]) (V.al.ext J)
  (λe w5 I=>QhL ((hj.ext hn).ext I) ((hp.ext (U.trans J)).ext I) ((hc.ext hn).ext I) hi e)).mono ?_
 rintro r5 w5 ⟨rfl,I⟩;refine xe<|QW rfl (λhh=>?_) (λhh=>?_)
 ·rw[if_pos (by exact hh)] at E;refine Qx<|Qb<|Qb<|x (Qfa (n:=k) Z Z (by show k≤16;omega) (QlX (by omega)))<|x (QdN (a:=b) (b:=1 <<< k) Z (congrArg (Value.int .u16) (Qb2 k)) hb (KR (by omega)))<|Qf<|Qx<|QQ Z Z<|Qb<|xe ?_;exact ⟨(k+1,orB b k),by simp only[];omega,⟨Z,Z,La⟩,H,(U.trans J).trans I,QdX hb (by omega),E⟩
 rw[if_neg (by intro h0;have hz:(y.p.a.al.any λe=>decide (e∈q.p.a.al))=false:=hh;have ho:(y.p.a.al.any λe=>decide (e∈q.p.a.al))=true:=h0;rw[hz] at ho;cases ho)] at E;refine Qi<|Qx<|QQ Z Z<|Qb<|xe ?_;exact ⟨(k+1,b),by simp only[];omega,⟨Z,Z,La⟩,H,(U.trans J).trans I,hb,E⟩
theorem QkU {w:World}{c:CL}{Y i:Nat}(hh:QT w.heap Y 37 c.cells) (hc:ZS [] w.heap c) {q:XV}(hi:c.ex[i]?=some q) (hm:∀l∈q.ls,0≤l.1∧l.1<16) :
  QG prog 155 [.int .i64 i,.pointer (some ⟨Y,0,none⟩)] w λr w'=>r=.int .u16 (jd q.ls)∧Step [] w w':=by
 obtain ⟨ha,hq⟩:=Ma.1 hi;have I:=hc.ex.each q (hq ▸ Le ha);have hv:=I.le;refine QG.of_W func155 Z ntmps155 results155 (by simp) ?_;refine Qc<|Qf<|Qc<|Qf<|Qg<|Qc<|x (Qa Z)<|x (Qd hh Z Z)<|Qb<|xig (g:=ZH) (i:=i) KK hc.ex.arr Z Z ha λhw he=>?_;rw[hq] at he;refine x (Zj Z)<|x (Qv (he.fld 1 q.v Z) Z)<|x (Qr I Z)<|Qb<|xe ?_
 refine Qh<|Qz (α:=Nat×Nat) [(4,4),(6,6),(14,23)] (λz=>[(4,.int .u16 z.2),(14,.int .i64 z.1)]) (λz w'=>z.1≤q.ls.length∧Step [] w w'∧z.2=jd (q.ls.take z.1)) (λz=>q.ls.length - z.1) (by rfl) (0,0) ⟨Z,Z,La⟩
  ⟨Ln _,Step.refl _ _,Z⟩ ?_
 rintro ⟨k,b⟩ g w1 ⟨hk,J,hb⟩;simp only[] at hk hb;have hj:b<65536:=by rw[hb];exact QaT _ (λl hl=>hm l (L2 hl))
 refine Qc<|x (QA Z Z)<|xe<|Qg<|QC Z (λU=>?_) (λU=>?_)
 ·refine Qy ?_;have hn:q.ls.length≤k:=by have H:¬(k:Int)<(q.ls.length:Int):=U;omega
  rw[Ls hn] at hb;refine Qc<|Qb<|Qf ?_;exact Ql ⟨[.int .u16 b],Lb,by rw[hb];rfl,J⟩
 have E:k<q.ls.length:=by have H:(k:Int)<(q.ls.length:Int):=U;omega
 have hf:q.ls.take (k+1)=q.ls.take k++[q.ls[k]'E]:=Lj E;have ho:=hm _ (Le E);refine Qi<|Qg<|Qh<|Qc<|xig (g:=Zb) JU (I.ext J) Z Z E λhy H=>?_;refine Zh (q.ls[k]'E) λl hl=>?_;rw[hl] at H hf ho;have hp:l.1=(l.1.toNat:Int):=by omega
 have hg:l.1.toNat<16:=by omega
 refine x (QJ H Z Z)<|xl Z<|Qu (us:=[.int .i64 0,.int .i64 0]) Z λb6 w2 hr hs V=>xl Z<|Qn (us:=Zb l) V Z Z Z Z ⟨Z,Z,La⟩ λw3 ht V =>
  xe ?_
 have hu:Step [] w1 w3:=hr.then1 ht hs;refine Qx<|Qb<|x (Qa Z)<|x (Qd V Z Z)<|x (Qfa (n:=l.1.toNat) Z (congrArg (Value.int .i64) hp) (by show l.1.toNat≤16;omega) (QlX hg))<|x (QdN (a:=b) (b:=1 <<< l.1.toNat) Z (congrArg (Value.int .u16) (Qb2 _)) hj (KR hg))<|Qf<|Qx<|QQ Z Z<|Qb<|xe ?_
 exact ⟨(k+1,orB b l.1.toNat),by simp only[];omega,⟨Z,Z,La⟩,E,J.trans hu,by simp only[];rw[hf,Qce,hb]⟩
theorem QkT {w:World}{c:CL}{Y i:Nat}(hh:QT w.heap Y 37 c.cells) (hc:ZS [] w.heap c) {q:KV}(hi:c.cs[i]?=some q) (hm:∀l∈q.ts,0≤l.1∧l.1<16) :
  QG prog 156 [.int .i64 i,.pointer (some ⟨Y,0,none⟩)] w λr w'=>r=.int .u16 (jd q.ts)∧Step [] w w':=by
 obtain ⟨ha,hq⟩:=Ma.1 hi;have I:=hc.cs.each q (hq ▸ Le ha);have hv:=I.le;refine QG.of_W func156 Z ntmps156 results156 (by simp) ?_;refine Qc<|Qf<|Qc<|Qf<|Qg<|Qc<|x (Qa Z)<|x (Qd hh Z Z)<|Qb<|xig (g:=ZK) (i:=i) Kn hc.cs.arr Z Z ha λhw he=>?_;rw[hq] at he;refine x (Zj Z)<|x (Qv (he.fld 1 q.v Z) Z)<|x (Qr I Z)<|Qb<|xe ?_
 refine Qh<|Qz (α:=Nat×Nat) [(4,4),(6,6),(14,23)] (λz=>[(4,.int .u16 z.2),(14,.int .i64 z.1)]) (λz w'=>z.1≤q.ts.length∧Step [] w w'∧z.2=jd (q.ts.take z.1)) (λz=>q.ts.length - z.1) (by rfl) (0,0) ⟨Z,Z,La⟩
  ⟨Ln _,Step.refl _ _,Z⟩ ?_
 rintro ⟨k,b⟩ g w1 ⟨hk,J,hb⟩;simp only[] at hk hb;have hj:b<65536:=by rw[hb];exact QaT _ (λl hl=>hm l (L2 hl))
 refine Qc<|x (QA Z Z)<|xe<|Qg<|QC Z (λU=>?_) (λU=>?_)
 ·refine Qy ?_;have hn:q.ts.length≤k:=by have H:¬(k:Int)<(q.ts.length:Int):=U;omega
  rw[Ls hn] at hb;refine Qc<|Qb<|Qf ?_;exact Ql ⟨[.int .u16 b],Lb,by rw[hb];rfl,J⟩
 have E:k<q.ts.length:=by have H:(k:Int)<(q.ts.length:Int):=U;omega
 have hf:q.ts.take (k+1)=q.ts.take k++[q.ts[k]'E]:=Lj E;have ho:=hm _ (Le E);refine Qi<|Qg<|Qh<|Qc<|xig (g:=Zb) JU (I.ext J) Z Z E λhy H=>?_;refine Zh (q.ts[k]'E) λl hl=>?_;rw[hl] at H hf ho;have hp:l.1=(l.1.toNat:Int):=by omega
 have hg:l.1.toNat<16:=by omega
 refine x (QJ H Z Z)<|xl Z<|Qu (us:=[.int .i64 0,.int .i64 0]) Z λb6 w2 hr hs V=>xl Z<|Qn (us:=Zb l) V Z Z Z Z ⟨Z,Z,La⟩ λw3 ht V =>
  xe ?_
 have hu:Step [] w1 w3:=hr.then1 ht hs;refine Qx<|Qb<|x (Qa Z)<|x (Qd V Z Z)<|x (Qfa (n:=l.1.toNat) Z (congrArg (Value.int .i64) hp) (by show l.1.toNat≤16;omega) (QlX hg))<|x (QdN (a:=b) (b:=1 <<< l.1.toNat) Z (congrArg (Value.int .u16) (Qb2 _)) hj (KR hg))<|Qf<|Qx<|QQ Z Z<|Qb<|xe ?_
 exact ⟨(k+1,orB b l.1.toNat),by simp only[];omega,⟨Z,Z,La⟩,E,J.trans hu,by simp only[];rw[hf,Qce,hb]⟩
end Go.Proofs.YtjcgijbhaemldaaGreatDoor
namespace Go.Lg
theorem xcG {P:Program}{f:Fr}{w:World}{K:Fr→World→Prop}{d:Option Nat}{ty:Nat}{ps:String}{af:Array Edge}{gd:Option (Nat×Bool)}{x:Operand}{l:List Operand}{at_:Array Nat}
  {g:Nat} {first capt:LV} (E:∃fn,Fu P g fn) (hx:ev f x=.func (.func g) first.toArray capt.toArray) (h:QG P g (first++l.map (ev f)++capt) w λv w'=>K (QV f d v) w') :
  XO P ⟨d,.call ⟨.value x,l.toArray,at_⟩,ty,ps,af,gd⟩ f w K:=by
 obtain ⟨fn,H⟩:=E;exact xc (fn:=fn) hx h
end Go.Lg
namespace Go.Proofs.YtjcgijbhaemldaaGreatDoor
open Go.Proofs.Tryz
open Go.Lg
def gK (m:Nat):Nat:=if m=0 then 152 else if m=1 then 155 else 156
theorem Qjd (m:Nat):∃fn,Fu prog (gK m) fn:=by
 unfold gK;split
 ·exact ⟨_,inferInstance⟩
 split
 ·exact ⟨_,inferInstance⟩
 exact ⟨_,inferInstance⟩
abbrev Jb (c:Q4) (m:Nat):LN:=srK c ((m:Int)+1)
theorem QhR (c:Q4):Jb c 0=srR c:=rfl
theorem QhQ (c:Q4):Jb c 1=srX c:=rfl
theorem QhP (c:Q4):Jb c 2=srC c:=rfl
structure qK (c:Q4):Prop where
 c8:c.co.length≤8
 r:c.rq.length≤32
 x:c.ex.length≤32
 k:c.cs.length≤32
 xl:∀e∈c.ex,∀l∈e.ls,0≤l.1∧l.1<16
 kl:∀e∈c.cs,∀l∈e.ts,0≤l.1∧l.1<16
theorem Qkz.sr {c:Q4}(h:Qkz c):qK c:=by
 have h1:=qC h.cd;have h2:(szs c.co).length=c.co.length:=Li ..;have E:=h.c8;have H:=h.cr;refine ⟨E,by omega,h1.xl,h1.kl,λe he l hl=>?_,λe he l hl=>?_⟩
 ·have:=h1.x e he l hl;omega
 have:=(h1.k e he).1 l hl;omega
theorem Uc {c:Q4}(h:qK c) {m:Nat}(hm:m<3):(Jb c m).length≤32:=by
 have h1:=h.r;have h2:=h.x;have h3:=h.k;rcases m with _ | _ | _ | m
 ·rw[QhR];unfold srR;rw[Li];exact h1
 ·rw[QhQ];unfold srX;rw[Li];exact h2
 ·rw[QhP];unfold srC;rw[Li];exact h3
 omega
theorem zp {c:Q4}(h:qK c) {m:Nat}(hm:m<3):∀b∈Jb c m,b<65536:=by
 have E:=h.c8;rcases m with _ | _ | _ | m
 ·rw[QhR];unfold srR;intro b hb;obtain ⟨x,_,rfl⟩:=Lq.1 hb;exact Qh3 _ _ _ (by decide) (by omega)
 ·rw[QhQ];unfold srX;intro b hb;obtain ⟨x,hx,rfl⟩:=Lq.1 hb;exact QaT _ (h.xl x hx)
 ·rw[QhP];unfold srC;intro b hb;obtain ⟨x,hx,rfl⟩:=Lq.1 hb;exact QaT _ (h.kl x hx)
 omega
abbrev srV (b1:Nat) (c:Q4) (m:Nat):LV:=[.int .i64 ((m:Int)+1),.int .i64 (Jb c m).length,.func (.func (gK m)) #[] #[.pointer (some ⟨b1,0,none⟩)]]
theorem zo (E:Nat) (c:Q4) (m:Nat):(srV E c m).length=3:=rfl
theorem QdF {w:World}{c:CL}{J m i:Nat}(H:QT w.heap J 37 c.cells) (hc:ZS [] w.heap c) (I:qK c.cel) (hm:m<3) (hi:i<(Jb c.cel m).length) :
  QG prog (gK m) [.int .i64 i,.pointer (some ⟨J,0,none⟩)] w λr w'=>r=.int .u16 ((Jb c.cel m)[i]'hi:Nat)∧Step [] w w':=by
 rcases m with _ | _ | _ | m
 ·have hl:(Jb c.cel 0).length=c.rq.length:=by rw[QhR];unfold srR;rw[Li];exact Li ..
  have E:i<c.rq.length:=Nat.lt_of_lt_of_eq hi hl;have e:(Jb c.cel 0)[i]'hi=rqB (c.rq[i]'E).it 0 0 c.cel.co:=by
   show (srR c.cel)[i]'_=_;simp[srR,CL.cel]
  rw[e];have U:c.co.length≤8:=by have:=I.c8;rw[show c.cel.co.length=c.co.length from Li ..] at this;exact this
  exact QkV H hc U (LE E)
 ·have hl:(Jb c.cel 1).length=c.ex.length:=by rw[QhQ];unfold srX;rw[Li];exact Li ..
  have E:i<c.ex.length:=Nat.lt_of_lt_of_eq hi hl;have e:(Jb c.cel 1)[i]'hi=jd (c.ex[i]'E).ls:=by
   show (srX c.cel)[i]'_=_;simp[srX,CL.cel,XV.x]
  rw[e];exact QkU H hc (LE E) (λl hl=>I.xl (c.ex[i]'E).x (LW (Le E)) l hl)
 ·have hl:(Jb c.cel 2).length=c.cs.length:=by rw[QhP];unfold srC;rw[Li];exact Li ..
  have E:i<c.cs.length:=Nat.lt_of_lt_of_eq hi hl;have e:(Jb c.cel 2)[i]'hi=jd (c.cs[i]'E).ts:=by
   show (srC c.cel)[i]'_=_;simp[srC,CL.cel,KV.k]
  rw[e];exact QkT H hc (LE E) (λl hl=>I.kl (c.cs[i]'E).k (LW (Le E)) l hl)
 omega
structure QqH (N:Nat) (w:World) (c:CL) (r:Value) (b1 b:Nat):Prop where
 r:r=.slice (some ⟨b,0,none⟩) 3 3
 n1:N≤b1
 n:N≤b
 B1:QT w.heap b1 37 c.cells
 B:QT w.heap b 200 ([0,1,2].flatMap (srV b1 c.cel))
theorem VT {L:LN}{w:World}{c:CL}(U:ZS L w.heap c) :
  QG prog 98 [c.val] w λr w'=>Step [] w w'∧∃E b,QqH w.heap.size w' c r E b:=by
 have h:=U.up (L':=[]) (by simp);have e0:(Jb c.cel 0).length=c.rq.length:=by rw[QhR];unfold srR;rw[Li];exact Li ..
 have e1:(Jb c.cel 1).length=c.ex.length:=by rw[QhQ];unfold srX;rw[Li];exact Li ..
 have e2:(Jb c.cel 2).length=c.cs.length:=by rw[QhP];unfold srC;rw[Li];exact Li ..
 refine QG.of_W func98 Z ntmps98 results98 (by simp) ?_;refine Qc<|xl Z<|QR (us:=c.cells) Z λE w1 I V H=>Qf ?_;have h1:=h.ext I;refine Qc<|x (Qa Z)<|x (Qd H Z Z)<|x (Qr h1.rq.arr Z)<|x (Zo (l:=[]) (l':=[_]))<|x (QN ⟨Z,Z,Z,La⟩)<|x (Qa Z) <|
  x (Qd H Z Z)<|x (Qr h1.ex.arr Z)<|x (Zo (l:=[]) (l':=[_]))<|x (QN ⟨Z,Z,Z,La⟩)<|x (Qa Z)<|x (Qd H Z Z) <|
  x (Qr h1.cs.arr Z)<|x (Zo (l:=[]) (l':=[_]))<|x (QN ⟨Z,Z,Z,La⟩) <|
  xl rfl<|QH (us:=[[.int .i64 1,.int .i64 c.rq.length,.func (.func 152) #[] #[.pointer (some ⟨E,0,none⟩)]],[.int .i64 2,.int .i64 c.ex.length,.func (.func 155) #[] #[.pointer (some ⟨E,0,none⟩)]],[.int .i64 3,.int .i64 c.cs.length,.func (.func 156) #[] #[.pointer (some ⟨E,0,none⟩)]]]) Z Z (by decide) (by simp) ⟨rfl,rfl,rfl,rfl,rfl,rfl,La⟩ λY w2 J hb ha =>
  Qf ?_
 have hc:=I.size;refine Ql ⟨[_],Lb,I.trans J,E,Y,Z,V,by omega,H.ext J,?_⟩;have e:[0,1,2].flatMap (srV E c.cel)=[.int .i64 1,.int .i64 c.rq.length,.func (.func 152) #[] #[.pointer (some ⟨E,0,none⟩)],.int .i64 2,.int .i64 c.ex.length,.func (.func 155) #[] #[.pointer (some ⟨E,0,none⟩)],.int .i64 3,.int .i64 c.cs.length,.func (.func 156) #[] #[.pointer (some ⟨E,0,none⟩)]]:=by
  simp only[List.flatMap_cons,List.flatMap_nil,srV,e0,e1,e2];rfl
 rw[e];exact ha
def srP (c:Q4):Nat→LN
 | 0=>[]
 | m+1=>srP c m++Jb c m
theorem Qb1 (c:Q4):srP c 3=sets c:=by
 simp only[srP,QhR,QhQ,QhP,sets,List.nil_append,List.append_assoc]
theorem Qaz {c:Q4}(h:qK c):∀m,m≤3→(srP c m).length≤32*m
 | 0,_=>Ln _
 | m+1,hm=>by
  have h1:=Qaz h m (by omega);have h2:=Uc h (show m<3 by omega);rw[srP,Ll];omega
abbrev Qht (l:LN):LV:=l.map λb=>.int .u16 (b:Nat)
abbrev yU (base:Nat) (w:World) (v:Value) (l:LN):Prop:=w.ownsRow base 202 1 v l.length (Qht l)
theorem yU.snoc {base:Nat}{w:World}{v:Value}{l:LN}{b:Nat}(h:w.ownsRow base 202 1 v (l.length+1) (Qht l++[.int .u16 (b:Nat)])):yU base w v (l++[b]):=by
 unfold yU Qht;rw[Ll,Ly];exact h
set_option maxHeartbeats 4000000 in
theorem QkZ {L:LN}{w:World}{c:CL}(h0:ZS L w.heap c) (he:qK c.cel) :
  QG prog 101 [c.val] w λr w'=>Step [] w w'∧yU w.heap.size w' r (sets c.cel):=by
 have h:=h0.up (L':=[]) (by simp);refine QG.of_W func101 Z ntmps101 results101 (by simp) ?_;refine Qc<|xl Z<|QR (us:=c.cells) Z λb1 w1 hp hH ht=>Qf<|Qc<|Qf<|Qg<|Qc<|x (Qp ht Z Z)<|xl Z<|xf<|(VT (h.ext hp)).mono ?_;rintro r2 H ⟨hu,E,bs,hS⟩;have hv:=hS.r;subst hv;have hf:=hp.trans hu
 have hA:∀{w':World},Step [] H w'→ZA [] w'.heap (.slice (some ⟨bs,0,none⟩) 3 3) [0,1,2].length 3 ([0,1,2].flatMap (srV E c.cel)):=λhs =>
  (hS.B.ext hs).arr (by simp) (n:=3) (cap:=3) (sz:=3) (by rfl) (by omega) (Lv _)
 refine x (Qr (hA (Step.refl _ _)) Z)<|Qb<|xe<|Qh<|Qz (α:=Nat×Value) [(3,3),(5,6),(10,27)] (λz=>[(3,z.2),(10,.int .i64 z.1)]) (λz w'=>z.1≤3∧Step [] H w'∧yU H.heap.size w' z.2 (srP c.cel z.1)) (λz=>3 - z.1) (by rfl) (0,nS) ⟨Z,Z,La⟩
  ⟨Ln _,Step.refl _ _,QP _ _ _ _⟩ ?_
 rintro ⟨m,v⟩ g w3 ⟨hm,V,I⟩;simp only[] at hm I;have hI:=Qaz he m hm;refine Qc<|x (QA Z Z)<|xe<|Qg<|QC Z (λhg=>?_) (λhg=>?_)
 ·refine Qy ?_;have hw:m=3:=by have hh:¬(m:Int)<(3:Nat):=hg;omega
  rw[hw,Qb1] at I;refine Qc<|Qb<|Qf ?_;exact Ql ⟨[v],Lb,hf.trans V,Zi I hf.size⟩
 have J:m<3:=by have hh:(m:Int)<(3:Nat):=hg;omega
 have hJ:=Uc he J;refine Qi ?_;have hK:=V.size;have hge:=Qq I;have hy:([0,1,2]:LN)[m]'J=m:=by rcases m with _ | _ | _ | m <;> first | rfl | omega
 refine Qg<|Qh<|Qc<|xig (g:=srV E c.cel) (i:=m) (zo E c.cel) (hA V) Z Z J λhL hq=>?_;rw[hy] at hq;refine x (QJ hq Z Z)<|xl Z<|Qu (us:=[.int .i64 0,.int .i64 0,.nilFunc]) Z λb5 w4 hz h1 Y=>xl Z<|Qn (us:=srV E c.cel m) Y Z Z Z Z ⟨Z,Z,Z,La⟩ λw5 h2 Y =>
  xe ?_
 have hj:Step [] w3 w5:=hz.then1 h2 h1;have hM:=hj.size;refine Qc<|x (Qa Z)<|x (Qd Y Z Z)<|Qb<|xe<|Qh<|Qz (α:=Nat×Value) [(3,3),(6,6),(16,26)] (λz=>[(3,z.2),(16,.int .i64 z.1)]) (λz w'=>z.1≤(Jb c.cel m).length∧Step (ob v) w5 w'∧yU H.heap.size w' z.2 (srP c.cel m++(Jb c.cel m).take z.1)∧∀b∈ob z.2,b∈ob v∨w5.heap.size≤b) (λz=>(Jb c.cel m).length - z.1) (by rfl) (0,v) ⟨Z,Z,La⟩
  ⟨Ln _,Step.refl _ _,by simp only[List.take_zero,List.append_nil];exact Qt I hj,λb hb=>.inl hb⟩ ?_
 rintro ⟨i,vi⟩ g w6 ⟨hi,ha,hc,hk⟩;simp only[] at hi hc hk;have hN:=ha.size;have hl:Step [] H w6:=(V.trans hj).then ha (λb hb=>.inr (hge b hb).1);have h3:b5∉ob v:=λhb=>by have:=(hge b5 hb).2;omega
 have h4:=Y.step ha h3;have h6:=h.ext (hf.trans hl);have h5:QT w6.heap E 37 c.cells:=hS.B1.ext hl;refine Qc<|x (QA Z Z)<|xe<|Qg<|QC Z (λhn=>?_) (λhn=>?_)
 ·refine Qy ?_;have h7:(Jb c.cel m).length≤i:=by have hh:¬(i:Int)<((Jb c.cel m).length:Int):=hn;omega
  rw[Ls h7] at hc;refine Qx<|QQ Z Z<|Qb<|xe ?_;exact ⟨(m+1,vi),by simp only[];omega,⟨Z,Z,La⟩,J,hl,hc⟩
 have U:i<(Jb c.cel m).length:=by have hh:(i:Int)<((Jb c.cel m).length:Int):=hn;omega
 have hr:(Jb c.cel m).take (i+1)=(Jb c.cel m).take i++[(Jb c.cel m)[i]'U]:=Lj U;have hO:(srP c.cel m++(Jb c.cel m).take i).length≤200:=by rw[Ll,LD];omega
 refine Qi<|Qg<|Qh<|Qc<|Qb<|Qf<|Qx<|Qb<|x (Qa Z)<|x (Qd h4 Z Z)<|Qb<|xl Z<|xcG (first:=[]) (capt:=[.pointer (some ⟨E,0,none⟩)]) (Qjd m) Z<|(QdF h5 h6 he J U).mono ?_;rintro r7 w7 ⟨rfl,h8⟩;refine Zh ((Jb c.cel m)[i]'U) λbv hB=>?_;rw[hB] at hr ⊢;refine xl rfl<|QH (us:=[[.int .u16 (bv:Nat)]]) Z Z (by decide) (by simp) ⟨rfl,rfl,La⟩ λhP w8 hC hQ hD=>?_;have ho:=h8.trans hC
 have hR:=ho.size;refine xl rfl<|Q6 (news:=[.int .u16 (bv:Nat)]) (L:=[]) (Qt hc ho) Z Z Z (hD.at (by simp)) (by simp[Value.oneCell']) (by omega) (by omega) λv9 w9 hE hF hG =>
  Qf<|Qx<|QQ Z Z<|Qb<|xe ?_
 refine ⟨(i+1,v9),by simp only[];omega,⟨Z,Z,La⟩,U,(ha.trans ho).then hF hk,?_,λb hb=>?_⟩
 ·simp only[];rw[hr,←LC];exact yU.snoc hE
 rcases hG b hb with h9 | h9
 ·exact hk b h9
 exact .inr (by omega)
structure MV where
 kd:Int
 ix:Int
 v:Value
 co:LI
def MV.m (q:MV):YZ:=⟨q.kd,q.ix,q.co⟩
abbrev YQ (q:MV):LV:=[.int .i64 q.kd,.int .i64 q.ix,q.v]
theorem QnS (q:MV):(YQ q).length=3:=rfl
abbrev mvP (q:MV):Value×Nat×Nat×LV:=(q.v,q.co.length,1,q.co.map (.int .i64))
abbrev MvN (base:Nat) (w:World) (v:Value) (l:List MV):Prop:=Yh YQ 3 135 mvP base w v l
theorem Qlt {q:MV}(h:q.v.oneCell'=true):∀u∈YQ q,u.oneCell'=true:=by
 intro u hu;simp only[YQ,List.mem_cons,List.not_mem_nil,or_false] at hu;rcases hu with rfl | rfl | rfl
 ·rfl
 ·rfl
 exact h
theorem Uo (k:Int):∀(l:LN) (i:Nat),(JB k i l).length=l.length
 | [],_=>rfl
 | _::l,i=>by rw[JB,LF,Uo k l,LF]
theorem jI (k:Int):∀(l:LN) (i j:Nat) (h:j<l.length),(JB k i l).take (j+1)=(JB k i l).take j++[⟨k,((i+j:Nat):Int),setK (l[j]'h) 8⟩]
 | [],_,j,h=>absurd h (Me _)
 | b::l,i,0,h=>by rw[JB];rfl
 | b::l,i,j+1,h=>by
  rw[JB,Nn,Nn,jI k l (i+1) j (by simpa using h),Mm];have e:((i+1+j:Nat):Int)=((i+(j+1):Nat):Int):=by omega
  rw[e];rfl
abbrev mdG (c:Q4) (m:Nat):List YZ:=JB ((m:Int)+1) 0 (Jb c m)
def mdP (c:Q4):Nat→List YZ
 | 0=>[]
 | m+1=>mdP c m++mdG c m
theorem Qcp (c:Q4):mdP c 3=mods c:=by
 simp only[mdP,mods,List.nil_append,List.append_assoc];rfl
theorem Qa2 {c:Q4}(h:qK c):∀m,m≤3→(mdP c m).length≤32*m
 | 0,_=>Ln _
 | m+1,hm=>by
  have h1:=Qa2 h m (by omega);have h2:=Uc h (show m<3 by omega);rw[mdP,Ll,Uo];omega
set_option maxHeartbeats 4000000 in
theorem QeG {L:LN}{w:World}{c:CL}(h0:ZS L w.heap c) :
  QG prog 48 [c.val] w λr w'=>Step [] w w'∧∃v l,r=.tuple #[v,.int .i64 (Zf c.cel)]∧MvN w.heap.size w' v l∧(Zf c.cel≠0→v=nS∧l=[])∧(Zf c.cel=0→l.map MV.m=mods c.cel):=by
 have h:=h0.up (L':=[]) (by simp);refine Zh (Zf c.cel) λE hE=>?_;rw[hE];refine QG.of_W func48 Z ntmps48 results48 (by simp) ?_;refine Qc<|xl Z<|QR (us:=c.cells) Z λb1 w1 hB gj hC=>x Qe<|Qf<|Qg<|Qc<|x (Qp hC Z Z)<|xl Z<|xf<|(XB (h.ext hB)).mono ?_;rintro rc wc ⟨hD,hF⟩;rw[hE] at hD;subst hD;have hN:=hC.ext hF;have hr:=hB.trans hF;refine Qf<|Qc<|Qb<|x (Q8 Z Z)<|xe ?_
 refine Q3 rfl (λI=>?_) (λI=>?_)
 ·refine Qc<|Qb<|x Qe<|Qf ?_;exact Ql ⟨[nS,.int .i64 E],⟨Z,Z,La⟩,hr,nS,[],Z,Yh.nil,λ_=>⟨Z,Z⟩,λh0=>absurd h0 I⟩
 have ht:E=0:=Lo.1 I;have hk:qK c.cel:=(Yd (hE.trans ht)).sr;refine Qi<|Qc<|Qf<|Qg<|Qc<|x (Qp hN Z Z)<|xl Z<|xf<|(VT (h.ext hr)).mono ?_;rintro r2 J ⟨hO,U,bs,hS⟩;have hP:=hS.r;subst hP;have hu:=hr.trans hO;have hA:∀{w':World},Step [] J w'→ZA [] w'.heap (.slice (some ⟨bs,0,none⟩) 3 3) [0,1,2].length 3 ([0,1,2].flatMap (srV U c.cel)):=λhs =>
  (hS.B.ext hs).arr (by simp) (n:=3) (cap:=3) (sz:=3) (by rfl) (by omega) (Lv _)
 refine x (Qr (hA (Step.refl _ _)) Z)<|Qb<|xe<|Qh<|Qz (α:=Nat×Value×List MV) [(5,5),(7,8),(17,39)] (λz=>[(5,z.2.1),(17,.int .i64 z.1)]) (λz w'=>z.1≤3∧Step [] J w'∧MvN J.heap.size w' z.2.1 z.2.2∧z.2.2.map MV.m=mdP c.cel z.1) (λz=>3 - z.1) (by rfl) (0,nS,[]) ⟨Z,Z,La⟩
  ⟨Ln _,Step.refl _ _,Yh.nil,Z⟩ ?_
 rintro ⟨m,v,l⟩ g w3 ⟨hm,hl,ha,he⟩;simp only[] at hm ha he;have gk:=Qa2 hk m hm;have gl:l.length=(mdP c.cel m).length:=by rw[←he,Li]
 refine Qc<|x (QA Z Z)<|xe<|Qg<|QC Z (λhv=>?_) (λhv=>?_)
 ·refine Qy ?_;have hQ:m=3:=by have hw:¬(m:Int)<(3:Nat):=hv;omega
  rw[hQ,Qcp] at he;refine Qc<|Qb<|x Qe<|Qf ?_;have hR:=hu.size;exact Ql ⟨[v,.int .i64 0],⟨Z,Z,La⟩,hu.trans hl,v,l,by rw[ht];rfl,⟨Zi ha.own hR,λq hq L hL=>ha.each q hq L (λb hb=>(hL b hb).imp (λh=>by omega) id)⟩,λh0=>absurd ht h0,λ_=>he⟩
 have V:m<3:=by have hw:(m:Int)<(3:Nat):=hv;omega
 have gm:=Uc hk V;refine Qi ?_;have gn:=hl.size;have hge:=Qq ha.own;have hT:([0,1,2]:LN)[m]'V=m:=by rcases m with _ | _ | _ | m <;> first | rfl | omega
 refine Qg<|Qh<|Qc<|xig (g:=srV U c.cel) (i:=m) (zo U c.cel) (hA hl) Z Z V λgq I=>?_;rw[hT] at I;refine x (QJ I Z Z)<|xl Z<|Qu (us:=[.int .i64 0,.int .i64 0,.nilFunc]) Z λb7 w4 hU hV hf=>xl Z<|Qn (us:=srV U c.cel m) hf Z Z Z Z ⟨Z,Z,Z,La⟩ λw5 hW hf =>
  xe ?_
 have hy:Step [] w3 w5:=hU.then1 hW hV;have gr:=hy.size;refine Qc<|x (Qa Z)<|x (Qd hf Z Z)<|Qb<|xe ?_
 refine Qh<|Qz (α:=Nat×Value×List MV) [(5,5),(8,8),(23,38)] (λz=>[(5,z.2.1),(23,.int .i64 z.1)]) (λz w'=>z.1≤(Jb c.cel m).length∧Step (ob v) w5 w'∧MvN J.heap.size w' z.2.1 z.2.2∧z.2.2.map MV.m=mdP c.cel m++(mdG c.cel m).take z.1∧∀b∈ob z.2.1,b∈ob v∨w5.heap.size≤b) (λz=>(Jb c.cel m).length - z.1) (by rfl) (0,v,l) ⟨Z,Z,La⟩
  ⟨Ln _,Step.refl _ _,ha.ext hy,by simp only[List.take_zero,List.append_nil];exact he,λb hb=>.inl hb⟩ ?_
 rintro ⟨i,vi,li⟩ g H ⟨hi,hn,hg,hh,ho⟩;simp only[] at hi hg hh ho;have gs:=hn.size;have hX:=Qq hg.own;have hp:Step [] J H:=(hl.trans hy).then hn (λb hb=>.inr (hge b hb).1);have hG:b7∉ob v:=λhb=>by have:=(hge b7 hb).2;omega
 have hH:=hf.step hn hG;have h6:=h.ext (hu.trans hp);have hY:QT H.heap U 37 c.cells:=hS.B1.ext hp;have gt:li.length≤200:=by
  have e1:=congrArg List.length hh;rw[Li,Ll,LD] at e1;have e2:(mdG c.cel m).length=(Jb c.cel m).length:=Uo _ _ _;omega
 refine Qc<|x (QA Z Z)<|xe<|Qg<|QC Z (λhz=>?_) (λhz=>?_)
 ·refine Qy ?_;have hZ:(Jb c.cel m).length≤i:=by have hw:¬(i:Int)<((Jb c.cel m).length:Int):=hz;omega
  rw[Ls (by rw[Uo];exact hZ)] at hh;refine Qx<|QQ Z Z<|Qb<|xe ?_;exact ⟨(m+1,vi,li),by simp only[];omega,⟨Z,Z,La⟩,V,hp,hg,hh⟩
 have Y:i<(Jb c.cel m).length:=by have hw:(i:Int)<((Jb c.cel m).length:Int):=hz;omega
 have h1:(mdG c.cel m).take (i+1)=(mdG c.cel m).take i++[⟨(m:Int)+1,((0+i:Nat):Int),setK ((Jb c.cel m)[i]'Y) 8⟩]:=jI _ _ _ _ Y;rw[LR] at h1;have hI:=zp hk V _ (Le Y);refine Qi<|Qg<|Qh<|Qc<|Qb<|Qf ?_;have hJ:b7∉ob vi:=λhb=>by
  rcases ho b7 hb with h9 | h9
  ·exact hG h9
  have:=hf.lt;omega
 have h2:Step [] H { H with drawn:=H.drawn+1 }:=Step.drew _ _
 have gu:({ H with drawn:=H.drawn+1 }:World).heap.size=H.heap.size:=rfl
 refine QU (Step (ob vi) H) [(0,true),(1,true),(2,true),(3,true),(4,true),(5,true),(6,true),(7,false),(8,false),(9,true),(10,false),(11,false),(12,true)] mixed (by rfl) (by kernel_rfl) (Step.drew _ _) ?_;refine p (λ_=>Qm)<|p (λ_=>Qa Z)<|pq (λ_ hc=>Qd (hH.step hc hJ) Z Z)<|p (λ_=>Qm)<|p (λ_=>Qa Z) <|
  pq (λ_ hc=>Qd (hH.step hc hJ) Z Z)<|p (λ_=>Qm)<|pk<|xcG (first:=[]) (capt:=[.pointer (some ⟨U,0,none⟩)]) (Qjd m) Z<|(QdF (hY.ext h2) (h6.ext h2) hk V Y).mono ?_
 rintro r8 w8 ⟨rfl,ga⟩;refine Zh ((Jb c.cel m)[i]'Y) λbv gb=>?_;rw[gb] at h1 hI ⊢;have h3:=h2.trans ga;refine ⟨h3.any,?_⟩;refine pk<|xf<|(Qa7 bv hI w8).mono ?_;rintro r9 w9 ⟨gc,h4⟩;have h5:=h3.trans gc;have gv:=h3.size;refine ⟨h5.any,?_⟩
 refine p (λ_=>QN ⟨Z,Z,Zp h4,La⟩)<|pk<|QH (us:=[YQ ⟨(m:Int)+1,i,r9,setK bv 8⟩]) Z Z (by decide) (by simp) ⟨rfl,rfl,La⟩ λgx gy h7 gz ge=>⟨(h5.trans h7).any,?_⟩;have hj:=h5.trans h7;have g0:=hj.size
 refine pk<|Q6 (news:=YQ ⟨(m:Int)+1,i,r9,setK bv 8⟩) (L:=[]) (Qt hg.own hj) Z Z Z (ge.at (by simp)) (Qlt (q:=⟨(m:Int)+1,i,r9,setK bv 8⟩) (QO h4)) (by omega) (by omega) λhK gg gh h8 hM=>⟨hj.any.trans' h8,?_⟩;refine p (λ_=>Qe)<|pe ?_;have g1:=Jq bv 8
 have gi:MvN J.heap.size gg hK (li++[⟨(m:Int)+1,i,r9,setK bv 8⟩]):=Yh.app2 (N:=w8.heap.size) (hg.ext hj) (Qt h4 h7) (by show (setK bv 8).length≤_;omega) (by have:=hp.size;omega) (λb hb=>by have:=hX b hb;omega) gh h8 hM;refine Qx<|QQ Z Z<|Qb<|xe ?_
 refine ⟨(i+1,hK,li++[⟨(m:Int)+1,i,r9,setK bv 8⟩]),by simp only[];omega,⟨Z,Z,La⟩,Y,(hn.trans hj).then h8 ho,gi,?_,λb hb=>?_⟩
 ·simp only[];rw[h1,Ly,hh,LC];rfl
 rcases hM b hb with h9 | h9
 ·exact ho b h9
 exact .inr (by omega)
theorem Qqs {n:Nat}(h:n≤8):2 ^ n≤256:=Nat.pow_le_pow_right (by decide) h
set_option maxHeartbeats 4000000 in
theorem Qbz {L:LN}{w:World}{c:CL}(J:ZS L w.heap c) :
  QG prog 50 [c.val] w λr w'=>Step [] w w'∧∃v,r=.tuple #[v,.int .i64 (Zf c.cel)]∧(Zf c.cel≠0→v=nS)∧(Zf c.cel=0→Qs 3 w.heap.size w' v (rem c.cel)):=by
 have h:=J.up (L':=[]) (by simp);refine Zh (Zf c.cel) λE hE=>?_;rw[hE];refine QG.of_W func50 Z ntmps50 results50 (by simp) ?_;refine Qc<|xl Z<|QR (us:=c.cells) Z λb1 w1 hg hB hh=>x Qe<|Qf<|Qg<|Qc<|x (Qp hh Z Z)<|xl Z<|xf<|(XB (h.ext hg)).mono ?_;rintro rc wc ⟨hi,hj⟩;rw[hE] at hi;subst hi;have hl:=hh.ext hj;have V:=hg.trans hj;refine Qf<|Qc<|Qb<|x (Q8 Z Z)<|xe ?_
 refine Q3 rfl (λY=>?_) (λY=>?_)
 ·refine Qc<|Qb<|x Qe<|Qf ?_;exact Ql ⟨[nS,.int .i64 E],⟨Z,Z,La⟩,V,nS,Z,λ_=>Z,λJ=>absurd J Y⟩
 have ha:E=0:=Lo.1 Y;have H:qK c.cel:=(Yd (hE.trans ha)).sr;have hu:c.cel.co.length=c.co.length:=Li ..;have h8:c.co.length≤8:=by have:=H.c8;omega
 have hC:=Qqs h8;have hD:0<2 ^ c.co.length:=Nat.pow_pos (by decide);have he:(1:Int)*(2:Int) ^ c.co.length - 1=((2 ^ c.co.length - 1:Nat):Int):=by
  rw[Qb2,Nat.shiftLeft_eq,M6];omega
 have hv:inK .u16 ((1:Int)*(2:Int) ^ c.co.length - 1):=by rw[he];exact ⟨by omega,by omega⟩
 have hm:2 ^ c.co.length - 1<65536:=by omega
 have hw:=Qaz H 3 (by omega);rw[Qb1] at hw;have hn:QaL c.cel=(sets c.cel).foldl (λl b=>l &&& (65535 ^^^ b)) (2 ^ c.co.length - 1):=by unfold QaL;rw[hu]
 have hz:∀b∈sets c.cel,b<65536:=by
  intro b hb;unfold sets at hb;rcases Lp.1 hb with hb | hb
  ·exact zp H (m:=0) (by omega) b hb
  rcases Lp.1 hb with hb | hb
  ·exact zp H (m:=1) (by omega) b hb
  exact zp H (m:=2) (by omega) b hb
 refine Zh (2 ^ c.co.length - 1) λb0 h1=>?_;rw[h1] at he hn hm;have ho:=h.ext V;refine Qi<|Qc<|x (Qa Z)<|x (Qd hl Z Z)<|x (Qr ho.co.arr Z)<|x (Qfa (n:=c.co.length) Z Z (by show c.co.length≤16;omega) (QlX (by omega)))<|x (J2 Z Z hv)<|Qf<|Qg<|Qc<|x (Qp hl Z Z)<|xl Z<|xf<|(QkZ ho H).mono ?_;rintro r2 w2 ⟨h2,h3⟩
 have hA:ZA [] w2.heap r2 (sets c.cel).length 1 (Qht (sets c.cel)):=QX h3 (by omega) (by simp);have h4:ZA [] w2.heap r2 (sets c.cel).length 1 ((sets c.cel).flatMap λb=>[.int .u16 (b:Nat)]):=by
  have e:(sets c.cel).flatMap (λb=>[Value.int .u16 (b:Nat)])=Qht (sets c.cel):=by
   generalize sets c.cel=l;induction l with
   | nil=>rfl
   | cons a l ih=>rw[LY,ih];rfl
  rw[e];exact hA
 refine x (Qr hA Z)<|Qb<|xe<|Qh<|Qz (α:=Nat×Nat) [(5,5),(7,7),(21,28)] (λz=>[(5,.int .u16 z.2),(21,.int .i64 z.1)]) (λz w'=>z.1≤(sets c.cel).length∧Step [] w2 w'∧z.2<65536∧((sets c.cel).drop z.1).foldl (λl b=>l &&& (65535 ^^^ b)) z.2=QaL c.cel) (λz=>(sets c.cel).length - z.1) (by rfl) (0,b0) ⟨congrArg (Value.int .u16) he,Z,La⟩
  ⟨Ln _,Step.refl _ _,hm,hn.symm⟩ ?_
 rintro ⟨k,b⟩ g w3 ⟨hk,hc,hb,I⟩;simp only[] at hk hb I;have hp:=(V.trans h2).trans hc;refine Qc<|x (QA Z Z)<|xe<|Qg<|QC Z (λhf=>?_) (λhf=>?_)
 ·refine Qy ?_;have h5:(sets c.cel).length≤k:=by have h6:¬(k:Int)<((sets c.cel).length:Int):=hf;omega
  rw[Lx h5] at I;have h7:b=QaL c.cel:=I;refine Qc<|Qb<|xl Z<|xf<|(Qa7 b hb w3).mono ?_;rintro r4 w4 ⟨h9,hq⟩;refine x Qe<|Qf ?_;rw[h7] at hq;exact Ql ⟨[r4,.int .i64 0],⟨Z,Z,La⟩,hp.trans h9,r4,by rw[ha];rfl,λJ=>absurd ha J,λ_=>Zi hq hp.size⟩
 have U:k<(sets c.cel).length:=by have h6:(k:Int)<((sets c.cel).length:Int):=hf;omega
 have hs:=hz _ (Le U);rw[LQ U,LM] at I;refine Qi<|Qg<|Qh<|Qc<|xig (g:=λb:Nat=>[.int .u16 (b:Nat)]) (i:=k) (λ_=>Z) (h4.ext hc) Z Z U λhF ht=>?_;refine Zh ((sets c.cel)[k]'U) λy hy=>?_;rw[hy] at ht hs I;refine x (Qv ht Z)<|Qf<|Qx<|Qb<|Qb<|x (QdR (a:=b) (b:=y) Z Z hb hs)<|Qf<|Qx<|QQ Z Z<|Qb<|xe ?_
 exact ⟨(k+1,b &&& (65535 ^^^ y)),by simp only[];omega,⟨Z,Z,La⟩,U,hc,Nw Nat.and_le_left hb,I⟩
theorem QlS {L:LN}{w:World}{v:Value}{U:Nat}{c:Q4}{es:LN}{g:Nat}{fn:Func}[Fu prog g fn] {cap:LV}{q:Nat→Bool}(h:ZA L w.heap v es.length 3 (es.flatMap (srV U c)))
  (hk:∀(m:Nat) (H:World),Step [] w H→QG prog g ([.agg (srV U c m).toArray]++cap) H λr w'=>r=.bool (q m)∧Step [] H w') :
  QG prog 193 [v,.func (.func g) #[] cap.toArray] w λr w'=>Step [] w w'∧∃i:Int,r=.int .i64 i∧((i=-1∧∀m∈es,q m=false)∨∃k:Nat,∃m,es[k]?=some m∧i=(k:Int)∧q m=true):=by
 have hg:=h.le;refine QG.of_W func193 Z ntmps193 results193 (by simp) ?_;refine Qc<|Qf<|Qg<|Qc<|Qb<|x (Qr h Z)<|Qb<|xe<|Qh<|Qz (α:=Nat) [(4,5),(8,18)] (λz=>[(8,.int .i64 z)]) (λz w'=>z≤es.length∧Step [] w w'∧∀m∈es.take z,q m=false) (λz=>es.length - z) (by rfl) 0 Lb ⟨Ln _,Step.refl _ _,λm hm=>by simp at hm⟩ ?_;rintro k g' H ⟨hh,I,V⟩;refine Qc<|x (QA Z Z)<|xe ?_
 refine Qg<|QC Z (λh9=>?_) (λh9=>?_)
 ·refine Qy ?_;have hf:es.length≤k:=by have J:¬(k:Int)<(es.length:Int):=h9;omega
  rw[Ls hf] at V;refine Qc<|Qf ?_;exact Ql ⟨[.int .i64 (-1)],Lb,I,-1,Z,.inl ⟨Z,V⟩⟩
 have E:k<es.length:=by have J:(k:Int)<(es.length:Int):=h9;omega
 have Y:es.take (k+1)=es.take k++[es[k]'E]:=Lj E;have ha:es[k]?=some (es[k]'E):=LE E;refine Qi<|Qg<|Qh<|Qc<|Qb<|Qf<|Qc<|Qb<|Qb<|Qb<|xig (g:=srV U c) (i:=k) (zo U c) (h.ext I) Z Z E λhi hb=>?_;refine Zh (es[k]'E) λm hm=>?_;rw[hm] at hb Y ha;refine x (QJ hb Z Z)<|xl Z<|xc (first:=[]) (capt:=cap) Z<|(hk m H I).mono ?_
 rintro r2 w2 ⟨rfl,hc⟩;refine xe<|QW rfl (λJ=>?_) (λJ=>?_)
 ·refine Qc<|Qb<|Qf ?_;exact Ql ⟨[.int .i64 k],Lb,I.trans hc,k,Z,.inr ⟨k,m,ha,Z,J⟩⟩
 refine Qi<|Qx<|QQ Z Z<|Qb<|xe<|⟨k+1,by omega,Lb,E,I.trans hc,λm' he=>?_⟩;rw[Y] at he;rcases Lp.1 he with h1 | h1
 ·exact V m' h1
 simp only[List.mem_singleton] at h1;subst h1;exact J
theorem Qmw {w:World}{E H m:Nat}{c:Q4}{q:MV}(J:QT w.heap H 135 (YQ q)) :
  QG prog 194 [.agg (srV E c m).toArray,.pointer (some ⟨H,0,none⟩)] w λr w'=>r=.bool (decide ((m:Int)+1=q.kd))∧Step [] w w':=by
 refine QG.of_W func194 Z ntmps194 results194 (by simp) ?_;refine Qc<|xl Z<|QR (us:=srV E c m) Z λV Y I ha U=>Qf<|Qc<|x (Qa Z)<|x (Qd U Z Z)<|x (Qa Z)<|x (Qd (J.ext I) Z Z)<|x (Zr Z Z)<|Qf ?_;exact Ql ⟨[_],Lb,Z,I⟩
set_option maxHeartbeats 4000000 in
theorem QgL {L:LN}{w:World}{c:CL}{q:MV}(h0:ZS L w.heap c) (hI:QL L w.heap q.v q.co) :
  QG prog 157 [c.val,.agg #[.int .i64 q.kd,.int .i64 q.ix,q.v]] w λr w'=>r=.int .i64 (mdE c.cel q.m)∧Step [] w w':=by
 have h:=h0.up (L':=[]) (by simp);have hm:=hI.up (L':=[]) (by simp);have H:mdE c.cel q.m=if Zf c.cel≠0 then Zf c.cel else if q.kd<1∨3<q.kd then 11 else if q.ix<0∨((srK c.cel q.kd).length:Int)≤q.ix then 10 else if q.co=setK ((srK c.cel q.kd).getD q.ix.toNat 0) 8 then 0 else 13:=rfl
 refine Zh (mdE c.cel q.m) λE hE=>?_;rw[hE] at H ⊢;refine QG.of_W func157 Z ntmps157 results157 (by simp) ?_;refine Qc<|xl Z<|QR (us:=c.cells) Z λb2 w1 hJ gi h1=>xl Z<|QR (us:=YQ q) Z λb3 w2 hh gj hK=>Qf ?_;have h2:=hJ.trans hh;refine Qg<|Qc<|x (Qp (h1.ext hh) Z Z)<|xl Z<|xf<|(XB (h.ext h2)).mono ?_;rintro r3 w3 ⟨rfl,hj⟩;refine Qf ?_;have hl:=h2.trans hj
 have hL:=(h1.ext hh).ext hj;have hM:=hK.ext hj;refine Qc<|Qb<|x (Q8 Z Z)<|xe<|Q3 rfl (λhb=>?_) (λhb=>?_)
 ·rw[if_pos hb] at H;subst H;refine Qc<|Qb<|Qf ?_;exact Ql ⟨[_],Lb,Z,hl⟩
 rw[if_neg hb] at H;have hn:qK c.cel:=(Yd (Lo.1 hb)).sr;refine Qi<|Qc<|x (Qp hL Z Z)<|xl Z<|xf<|(VT (h.ext hl)).mono ?_;rintro r4 w4 ⟨h3,I,bs,hS⟩;have hN:=hS.r;subst hN;refine Qf ?_;have hO:=hl.trans h3;have h4:=hM.ext h3
 have hA:ZA [] w4.heap (.slice (some ⟨bs,0,none⟩) 3 3) [0,1,2].length 3 ([0,1,2].flatMap (srV I c.cel)):=hS.B.arr (by simp) (n:=3) (cap:=3) (sz:=3) (by rfl) (by omega) (Lv _);refine Qc<|Qb<|x (Zo (l:=[]) (l':=[_]))<|xl Z<|xf<|(QlS (q:=λm=>decide ((m:Int)+1=q.kd)) (cap:=[.pointer (some ⟨b3,0,none⟩)]) hA (λm w5 J=>Qmw (h4.ext J))).mono ?_;rintro r5 w5 ⟨J,i,rfl,hi⟩;refine Qf ?_
 have h5:=hO.trans J;have ho:=h4.ext J;have h6:=hA.ext J;have hP:QT w5.heap I 37 c.cells:=hS.B1.ext J;refine Qg<|Qh<|Qc<|Qb<|x (QA Z Z)<|Qf<|Q3 Z (λhp=>?_) (λhp=>?_)
 ·have ht:q.kd<1∨3<q.kd:=by
   rcases hi with ⟨_,hi⟩ | ⟨k,m,_,hi,_⟩
   ·have e0:=of_decide_eq_false (hi 0 (by simp));have e1:=of_decide_eq_false (hi 1 (by simp));have e2:=of_decide_eq_false (hi 2 (by simp));omega
   have gk:i<0:=hp;omega
  rw[if_pos ht] at H;subst H;refine Qc<|Qf ?_;exact Ql ⟨[_],Lb,Z,h5⟩
 obtain ⟨m,U,hQ,ht⟩:∃m:Nat,m<3∧i=(m:Int)∧q.kd=(m:Int)+1:=by
  rcases hi with ⟨hi,_⟩ | ⟨k,m,hk,hi,hq⟩
  ·exact absurd (by rw[hi];decide:i<0) hp
  have gl:=of_decide_eq_true hq;obtain ⟨hR,hk⟩:=Ma.1 hk;have hT:k<3:=hR;have gm:m=k:=by rcases k with _ | _ | _ | k <;> first | exact hk.symm | omega
  exact ⟨k,hT,hi,by omega⟩
 subst hQ;rw[if_neg (by omega),show srK c.cel q.kd=Jb c.cel m by rw[ht]] at H;have gn:=Uc hn U;have h7:([0,1,2]:LN)[m]'U=m:=by rcases m with _ | _ | _ | m <;> first | rfl | omega
 refine QZ (α:=Bool) [(21,34)] (λz=>[(21,.bool z)]) (λz w'=>Step [] w5 w'∧z=decide (q.ix<0∨((Jb c.cel m).length:Int)≤q.ix)) (by rfl) ?_ ?_
 ·refine QU (Step [] w5) [(0,true),(1,true),(2,true),(3,true),(4,true),(5,true),(6,true),(7,true),(8,true),(9,true),(10,true),(11,true),(12,true),(13,true)] mixed (by rfl) (by kernel_rfl) (Step.drew _ _) ?_;refine p (λ_=>Qa Z)<|pq (λ_ hc=>Qd (ho.ext hc) Z Z)<|pb (λ_=>QA Z Z) (λhu=>?_) (λhu=>?_)
  ·refine p (λ_=>Qm)<|ps<|ps<|ps<|ps<|ps<|ps<|ps<|ps<|p (λ_=>Qo Z)<|p (λ_=>Qe)<|pe ?_;have hv:q.ix<0:=hu;exact ⟨true,Lb,Step.drew _ _,by rw[decide_eq_true (.inl hv)]⟩
  refine p (λ_=>Qm)<|p (λ_=>Qa Z)<|pq (λ_ hc=>Qd (ho.ext hc) Z Z)<|p (λ_=>Qm)<|p (λ_=>Qm) <|
   Go.Lg.pig (g:=srV I c.cel) (i:=m) Z (zo I c.cel) h6 Z Z U λgq h8=>?_
  rw[h7] at h8;refine p (λ_=>Zj Z)<|pq (λ_ hc=>Qv ((h8.fld 1 (.int .i64 (Jb c.cel m).length) Z).st hc) Z)<|p (λ_=>ZZ Z Z) <|
   p (λ_=>Qo Z)<|p (λ_=>Qe)<|pe ?_
  have hv:¬q.ix<0:=hu;refine ⟨decide (((Jb c.cel m).length:Int)≤q.ix),Lb,Step.drew _ _,?_⟩;rw[decide_eq_decide];exact ⟨.inr,λh=>h.resolve_left hv⟩
 rintro z g Y ⟨he,hz⟩;have hf:=h5.trans he;refine QW rfl (λhw=>?_) (λhw=>?_)
 ·rw[if_pos (of_decide_eq_true (hz.symm.trans hw))] at H;subst H;refine Qc<|Qf ?_;exact Ql ⟨[_],Lb,Z,hf⟩
 have hU:=of_decide_eq_false (hz.symm.trans hw);rw[if_neg hU] at H;have hV:q.ix=(q.ix.toNat:Int):=by omega
 have V:q.ix.toNat<(Jb c.cel m).length:=by omega
 have hW:(Jb c.cel m).getD q.ix.toNat 0=(Jb c.cel m)[q.ix.toNat]'V:=by simp[List.getD,V]
 have h9:=zp hn U _ (Le V);rw[hW] at H;have hB:=ho.ext he;have hX:=h6.ext he;have hC:Step [] Y { Y with drawn:=Y.drawn+1 }:=Step.drew _ _
 have hY:∀{w':World},Step [] Y w'→QG prog (gK m) [.int .i64 q.ix,.pointer (some ⟨I,0,none⟩)] w' λr hZ=>r=.int .u16 ((Jb c.cel m)[q.ix.toNat]'V:Nat)∧Step [] w' hZ:=by
  intro w' hs;have:=QdF ((hP.ext he).ext hs) ((h.ext hf).ext hs) hn U V;rw[←hV] at this;exact this
 refine Qg<|QU (Step [] Y) [(0,true),(1,true),(2,true),(3,true),(4,true),(5,true),(6,true),(7,true),(8,true),(9,false),(10,false),(11,false),(12,true),(13,true)] mixed (by rfl) (by kernel_rfl) (Step.drew _ _) ?_;refine p (λ_=>Qa Z)<|pq (λ_ hc=>Qd (hB.ext hc) Z Z)<|p (λ_=>Qm)<|p (λ_=>Qm)<|Go.Lg.pig (g:=srV I c.cel) (i:=m) Z (zo I c.cel) hX Z Z U λgr hD=>?_;rw[h7] at hD
 refine p (λ_=>Zj Z)<|pq (λ_ hc=>Qv ((hD.fld 2 (.func (.func (gK m)) #[] #[.pointer (some ⟨I,0,none⟩)]) Z).st hc) Z)<|p (λ_=>Qa Z)<|pq (λ_ hc=>Qd (hB.ext hc) Z Z) <|
  pk<|xcG (first:=[]) (capt:=[.pointer (some ⟨I,0,none⟩)]) (Qjd m) Z<|(hY hC).mono ?_
 rintro r7 w7 ⟨rfl,ga⟩;refine Zh ((Jb c.cel m)[q.ix.toNat]'V) λbv gb=>?_;rw[gb] at H h9 ⊢;have hF:=hC.trans ga;refine ⟨hF,?_⟩;refine pk<|xf<|(Qa7 bv h9 w7).mono ?_;rintro r8 w8 ⟨gc,ge⟩;have hg:=hF.trans gc;refine ⟨hg,?_⟩;have gs:=Jq bv 8;refine pk<|xf<|(Vy (hm.ext (hf.trans hg)) (Qs.ints (L:=[]) ge (by omega) (by simp))).mono ?_;rintro r9 w9 ⟨rfl,hG⟩
 refine ⟨hg.trans hG,?_⟩;refine p (λ_=>Zs Z)<|p (λ_=>Qe)<|pe ?_;have hH:=(hf.trans hg).trans hG;refine QW rfl (λhy=>?_) (λhy=>?_)
 ·have gg:¬q.co=setK bv 8:=by
   intro e;have ha:(!decide (q.co=setK bv 8))=true:=hy;rw[decide_eq_true e] at ha;cases ha
  rw[if_neg gg] at H;subst H;refine Qc<|Qf ?_;exact Ql ⟨[_],Lb,Z,hH⟩
 have gh:q.co=setK bv 8:=by
  refine Decidable.byContradiction λe=>?_;have ha:(!decide (q.co=setK bv 8))=false:=hy;rw[decide_eq_false e] at ha;cases ha
 rw[if_pos gh] at H;subst H;refine Qi<|Qc<|Qf ?_;exact Ql ⟨[_],Lb,Z,hH⟩
end Go.Proofs.YtjcgijbhaemldaaGreatDoor
namespace Go.Proofs
open Go.Proofs.Tryz
open Go.Shelf
def Tryz.sortRm_ren:Go.Shelf.Ren:=⟨λ| 6=>148 | 15=>165 | 14=>192 | 28=>207 | 29=>208 | 20=>220 | 21=>221 | 22=>222 | 23=>223 | 24=>224 | 25=>225 | 26=>226 | 27=>227 | 46=>243 | 47=>231 | 48=>232 | 49=>244 | 50=>245 | 57=>252 | n=>n,λ| 22=>116 | 24=>269 | 25=>275 | 3=>3 | 39=>218 | 0=>0 | 53=>332 | 55=>334 | 4=>4 | 46=>326 | 45=>325 | 50=>141 | 5=>5 | 9=>9 | 66=>351 | 70=>355 | 76=>366 | 77=>284 | n=>n,λ| n=>n⟩
theorem Tryz.sortRm:Go.Proofs.SlLaysF0.n6 prog Tryz.sortRm_ren:={
 mixed:=by kernel_rfl
 f6:=⟨Tryz.f148.name,by decide,func148.trans (congrArg some (by kernel_rfl))⟩
 f14:=⟨Tryz.f192.name,by decide,func192.trans (congrArg some (by kernel_rfl))⟩
 f15:=func165.trans (congrArg some (by kernel_rfl))
 f20:=⟨Tryz.f220.name,by decide,func220.trans (congrArg some (by kernel_rfl))⟩
 f21:=⟨Tryz.f221.name,by decide,func221.trans (congrArg some (by kernel_rfl))⟩
 f22:=⟨Tryz.f222.name,by decide,func222.trans (congrArg some (by kernel_rfl))⟩
 f23:=⟨Tryz.f223.name,by decide,func223.trans (congrArg some (by kernel_rfl))⟩
 f24:=⟨Tryz.f224.name,by decide,func224.trans (congrArg some (by kernel_rfl))⟩
 f25:=⟨Tryz.f225.name,by decide,func225.trans (congrArg some (by kernel_rfl))⟩
 f26:=⟨Tryz.f226.name,by decide,func226.trans (congrArg some (by kernel_rfl))⟩
 f27:=⟨Tryz.f227.name,by decide,func227.trans (congrArg some (by kernel_rfl))⟩
 f28:=func207.trans (congrArg some (by kernel_rfl))
 f29:=func208.trans (congrArg some (by kernel_rfl))
 f46:=⟨Tryz.f243.name,by decide,func243.trans (congrArg some (by kernel_rfl))⟩
 f47:=func231.trans (congrArg some (by kernel_rfl))
 f48:=func232.trans (congrArg some (by kernel_rfl))
 f49:=⟨Tryz.f244.name,by decide,func244.trans (congrArg some (by kernel_rfl))⟩
 f50:=⟨Tryz.f245.name,by decide,func245.trans (congrArg some (by kernel_rfl))⟩
 f57:=⟨Tryz.f252.name,by decide,func252.trans (congrArg some (by kernel_rfl))⟩
 t0:=underlying0
 a0:=Tryz.isAgg0
 z0:=Tryz.sizeOf0
 v0:=Tryz.zeroValue0
 t3:=underlying3
 a3:=Tryz.isAgg3
 z3:=Tryz.sizeOf3
 v3:=Tryz.zeroValue3
 t4:=underlying4
 a4:=Tryz.isAgg4
 z4:=Tryz.sizeOf4
 v4:=Tryz.zeroValue4
 t5:=underlying5
 a5:=Tryz.isAgg5
 z5:=Tryz.sizeOf5
 v5:=Tryz.zeroValue5
 t9:=underlying9
 a9:=Tryz.isAgg9
 z9:=Tryz.sizeOf9
 v9:=Tryz.zeroValue9
 t22:=underlying116
 a22:=Tryz.isAgg116
 z22:=Tryz.sizeOf116
 v22:=Tryz.zeroValue116
 t25:=underlying275
 a25:=Tryz.isAgg275
 z25:=Tryz.sizeOf275
 v25:=Tryz.zeroValue275
 t39:=underlying218
 a39:=Tryz.isAgg218
 z39:=Tryz.sizeOf218
 v39:=Tryz.zeroValue218
 t45:=underlying325
 a45:=Tryz.isAgg325
 z45:=Tryz.sizeOf325
 v45:=Tryz.zeroValue325
 t46:=underlying326
 a46:=Tryz.isAgg326
 z46:=Tryz.sizeOf326
 v46:=Tryz.zeroValue326
 t50:=underlying141
 a50:=Tryz.isAgg141
 z50:=Tryz.sizeOf141
 v50:=Tryz.zeroValue141
 t53:=underlying332
 a53:=Tryz.isAgg332
 z53:=Tryz.sizeOf332
 v53:=Tryz.zeroValue332
 t55:=underlying334
 a55:=Tryz.isAgg334
 z55:=Tryz.sizeOf334
 v55:=Tryz.zeroValue334
 t66:=underlying351
 a66:=Tryz.isAgg351
 z66:=Tryz.sizeOf351
 v66:=Tryz.zeroValue351
 t70:=underlying355
 a70:=Tryz.isAgg355
 z70:=Tryz.sizeOf355
 v70:=Tryz.zeroValue355
 t76:=underlying366
 a76:=Tryz.isAgg366
 z76:=Tryz.sizeOf366
 v76:=Tryz.zeroValue366
 t77:=underlying284
 a77:=Tryz.isAgg284
 z77:=Tryz.sizeOf284
 v77:=Tryz.zeroValue284 }
end Go.Proofs
namespace Go.Proofs.YtjcgijbhaemldaaGreatDoor
open Go.Lg
theorem Qop (lf:Lf) (x:Int) (z:LI×LI) (y:Int):Va lf x z y=if lft lf y=true then KE x z y else z:=by
 unfold Va KE;by_cases h:lft lf y=true <;> by_cases h2:cget z.1 y.toNat<0 <;> simp[h,h2]
structure DsI (n:Nat) (z:LI×LI):Prop where
 ok:yT n z.1 z.2
 cnt:neg z.1+z.2.length=n
 s0:Qdq z.1 z.2
theorem DsI.le {n:Nat}{z:LI×LI}(h:DsI n z):z.2.length≤n:=by have:=h.cnt;omega
theorem QjL {n:Nat}{lf:Lf}{x y:Int}{z:LI×LI}(h:DsI n z) (hx:0≤x∧x<(n:Int)) (E:0≤cget z.1 x.toNat) (hy:0≤y∧y<(n:Int)) :
  DsI n (Va lf x z y)∧0≤cget (Va lf x z y).1 x.toNat:=by
 rw[Qop];split
 ·obtain ⟨h1,h2,h3⟩:=Qeu h.ok hx E hy;exact ⟨⟨h1,by have:=h.cnt;omega,yF h.ok E hy h.s0⟩,h3⟩
 exact ⟨h,E⟩
theorem Qmn (lf:Lf) (x:Int) (z:LI×LI) (y:Int):∃r,(Va lf x z y).2=z.2++r:=by
 unfold Va;split
 ·exact ⟨[y],Z⟩
 exact ⟨[],by simp⟩
theorem QfZ {n:Nat}{lf:Lf}{x:Int}(hx:0≤x∧x<(n:Int)):∀(l:LI) (z:LI×LI),DsI n z→0≤cget z.1 x.toNat→(∀y∈l,0≤y∧y<(n:Int)) →
  DsI n (l.foldl (Va lf x) z)∧∃r,(l.foldl (Va lf x) z).2=z.2++r
 | [],z,h,_,_=>⟨h,[],by simp⟩
 | y::l,z,h,E,hl=>by
  obtain ⟨h1,h2⟩:=QjL (lf:=lf) h hx E (hl y Lm);obtain ⟨h3,r2,h4⟩:=QfZ hx l _ h1 h2 (λy hy=>hl y (Lk _ hy));obtain ⟨H,h5⟩:=Qmn lf x z y;exact ⟨h3,H++r2,by rw[LM,h4,h5,LC]⟩
theorem QjJ {es:List Ed}{lf:Lf}{f i:Nat}{z:LI×LI}(h:¬i<z.2.length):q7 es lf f i z=z:=by
 cases f with
 | zero=>rfl
 | succ f=>rw[q7,if_neg h]
theorem Qgh {n:Nat}{l:LI}{x:Int}(E:0≤x):(Vf n l).set x.toNat 0=Vf n (l++[x]):=by
 apply LX
 ·simp[Vf]
 intro i h2 h3;rw[MU];by_cases e:x.toNat=i
 ·have:(i:Int)=x:=by omega
  rw[if_pos e];simp[Vf,this]
 have:(i:Int)≠x:=by omega
 rw[if_neg e];simp[Vf,this]
theorem QcT {a:QD}{lf:Lf}(hm:∀x∈a.mr,0≤x) (k:Nat):(a.mr.take k).foldl (ds1 lf) (List.replicate a.st.toNat (-1),[])=(Vf a.st.toNat ((a.mr.take k).filter (lft lf)),(a.mr.take k).filter (lft lf)):=by
 induction k with
 | zero =>
  simp only[List.take_zero,List.foldl_nil,List.filter_nil];congr 1;apply LX
  ·simp[Vf]
  intro i h1 h2;simp[Vf]
 | succ k ih =>
  by_cases hk:k<a.mr.length
  ·rw[Lj hk,Mv,ih,Mb];simp only[List.foldl_cons,List.foldl_nil,ds1];by_cases hl:lft lf (a.mr[k]'hk)=true
   ·rw[if_pos hl,Qgh (hm _ (Le hk))];simp[hl]
   rw[if_neg hl];simp[hl]
  have e:a.mr.take (k+1)=a.mr.take k:=by rw[Ls (by omega),Ls (by omega)]
  rw[e];exact ih
theorem qg {a:QD}{lf:Lf}(hm:∀x∈a.mr,0≤x):j6 a lf=(Vf a.st.toNat (a.mr.filter (lft lf)),a.mr.filter (lft lf)):=by
 have:=QcT (lf:=lf) hm a.mr.length;rw[Nt] at this;exact this
theorem Qlr {n:Nat}(l:LI) (E:l.Nodup) (hb:∀x∈l,0≤x∧x<(n:Int)):neg (Vf n l)+l.length=n:=by
 have key:∀k,k≤l.length→neg (Vf n (l.take k))+k=n:=by
  intro k;induction k with
  | zero =>
   intro _;have e:Vf n (l.take 0)=List.replicate n (-1):=by
    apply LX
    ·simp[Vf]
    intro i h1 h2;simp[Vf]
   rw[e];unfold neg;simp
  | succ k ih =>
   intro hk;have h1:=ih (by omega);have hx:=hb _ (Le (show k<l.length by omega));rw[Lj (show k<l.length by omega),←Qgh hx.1];have H:(l[k]'(by omega)).toNat<(Vf n (l.take k)).length:=by rw[Yx];omega
   have U:=Ui (Vf n (l.take k)) (l[k]'(by omega)).toNat 0 H (by
    have e:(((l[k]'(by omega)).toNat:Nat):Int)=l[k]'(by omega):=by omega
    have I:(l[k]'(by omega))∉l.take k:=λh=>by
     obtain ⟨j,hj,he⟩:=LB h;rw[Nb] at he;have J:j<k:=by simp at hj;omega
     have:=(M0.1 E) j k (by omega) (by omega) J;exact this he
    simp[Vf,e,I]) (MQ _)
   omega
 have:=key l.length (Lv _)
 rwa [Nt] at this
theorem QjN {a:QD}{lf:Lf}{n:Nat}(E:QM a) (H:a.st=(n:Int)):DsI n (j6 a lf):=by
 have hb:∀x∈a.mr.filter (lft lf),0≤x∧x<(n:Int):=λx hx=>by rw[←H];exact E.mr x (LL.1 hx).1
 have e:a.st.toNat=n:=by omega
 rw[qg (λx hx=>(E.mr x hx).1),e];refine ⟨Qev hb,Qlr _ ((E.mri.imp (λh=>by omega)).filter _) hb,λx hx=>?_⟩;rw[q8 (hb x hx) hx];exact MQ _
def Vc (l:Lf):Nat:=l.countP (· == true)
theorem Qbp (l:Lf):Vc l≤l.length:=List.countP_le_length
theorem Qf1 (l:Lf) (s:Int):(cut l s).length=l.length:=by simp[cut]
theorem UJ:∀(xs:LI) (l:Lf),(xs.foldl cut l).length=l.length
 | [],_=>rfl
 | x::xs,l=>by rw[LM,UJ xs,Qf1]
theorem Qf3:∀(l:Lf) (i:Nat),Vc (l.set i false)+(if l.getD i false=true then 1 else 0)=Vc l
 | [],i=>by simp[Vc]
 | b::l,0=>by cases b <;> simp[Vc]
 | b::l,i+1=>by
  have ih:=Qf3 l i;unfold Vc at *;simp only[List.set_cons_succ,List.countP_cons,List.getD_cons_succ];omega
theorem Qf4 (l:Lf) (s:Int):Vc (cut l s)+(if lft l s=true then 1 else 0)=Vc l:=Qf3 l s.toNat
theorem QcW:∀(xs:LI) (l:Lf),Vc (xs.foldl cut l)≤Vc l
 | [],_=>Lv _
 | x::xs,l=>by
  have h1:=QcW xs (cut l x);have h2:=Qf4 l x;rw[LM];omega
theorem QjT {xs:LI}{l:Lf}(h:0<xs.length) (E:∀x∈xs,lft l x=true):Vc (xs.foldl cut l)<Vc l:=by
 cases xs with
 | nil=>simp at h
 | cons x xs =>
  have h1:=QcW xs (cut l x);have h2:=Qf4 l x;rw[if_pos (E x Lm)] at h2;rw[LM];omega
def Qkt (a:QD) (lf:Lf) (out:List (Int×Int)):Prop:=∀p∈out,lft lf p.1=true∧∃e∈a.ed,e.1=p.1∧e.2.1=p.2
theorem QlC {a:QD}{ul:LI}{lf:Lf}{out:List (Int×Int)}{e:Ed}(h:Qkt a lf out) (he:e∈a.ed):Qkt a lf (Jf ul lf out e)∧(Jf ul lf out e).length≤out.length+1:=by
 unfold Jf;split
 ·exact ⟨h,by omega⟩
 rename_i hc;split
 ·exact ⟨h,by omega⟩
 refine ⟨λp hp=>?_,by simp⟩;simp only[List.mem_append,List.mem_singleton] at hp;rcases hp with hp | rfl
 ·exact h p hp
 exact ⟨by cases hl:lft lf e.1 with | true=>rfl | false=>exact absurd (.inl hl) hc,e,he,rfl,rfl⟩
theorem zQ {a:QD}{ul:LI}{lf:Lf}:∀(l:List Ed) (out:List (Int×Int)),(∀e∈l,e∈a.ed)→Qkt a lf out→Qkt a lf (l.foldl (Jf ul lf) out)∧(l.foldl (Jf ul lf) out).length≤out.length+l.length
 | [],out,_,h=>⟨h,by simp⟩
 | e::l,out,hl,h=>by
  obtain ⟨h1,h2⟩:=QlC (ul:=ul) h (hl e Lm);obtain ⟨h3,h4⟩:=zQ l _ (λe he=>hl e (Lk _ he)) h1;exact ⟨h3,by rw[LM,LF];omega⟩
theorem Qa4 (a:QD) (ul:LI) (lf:Lf):Qkt a lf (lost a ul lf)∧(lost a ul lf).length≤a.ed.length:=by
 have:=zQ (ul:=ul) (lf:=lf) a.ed [] (λ_ h=>h) (λp hp=>by cases hp);unfold lost;simpa using this
theorem UP (lf:Lf):∀(l:LI) (i:Nat),(∀x∈Jz lf i l,lft lf x=true∧(i:Int)≤x∧x<(i:Int)+l.length)∧(Jz lf i l).length≤l.length
 | [],i=>⟨λx hx=>(by cases hx),Lv _⟩
 | d::l,i=>by
  obtain ⟨h1,h2⟩:=UP lf l (i+1);unfold Jz;split
  ·rename_i hc;refine ⟨λx hx=>?_,by simp;omega⟩;rcases Lh.1 hx with rfl | hx
   ·exact ⟨by unfold lft;simpa using hc.1,MQ _,by simp;omega⟩
   have:=h1 x hx;exact ⟨this.1,by omega,by simp only[List.length_cons];omega⟩
  refine ⟨λx hx=>?_,by simp;omega⟩;have:=h1 x hx;exact ⟨this.1,by omega,by simp only[List.length_cons];omega⟩
theorem Qix {a:QD}{ul:LI}{lf:Lf}(x:Int) (hx:x∈nxs a ul lf):lft lf x=true:=by
 unfold nxs at hx;split at hx
 ·obtain ⟨p,hp,rfl⟩:=Lq.1 hx;exact ((Qa4 a ul lf).1 p hp).1
 exact ((UP lf (dsts a lf) 0).1 x hx).1
theorem QgB {a:QD}{ul:LI}{f:Nat}{lf:Lf}(h:(nxs a ul lf).length=0):KD a ul f lf=lf:=by
 cases f with
 | zero=>rfl
 | succ f=>rw[KD,if_pos h]
theorem U2 {a:QD}{ul:LI}{f:Nat}{lf:Lf}(h:(nxs a ul lf).length≠0):KD a ul (f+1) lf=KD a ul f ((nxs a ul lf).foldl cut lf):=by rw[KD,if_neg h]
theorem zJ {a:QD}{ul:LI}{lf:Lf}(h:(nxs a ul lf).length≠0):Vc ((nxs a ul lf).foldl cut lf)<Vc lf:=QjT (by omega) (λx hx=>Qix x hx)
theorem Xx {a:QD}(h:QM a) (lf:Lf):QM (rstr a lf) :=
 ⟨h.al,h.ali,h.st0,h.st1,h.mr,h.mri,λe he=>h.ed e (LL.1 he).1,h.edi.filter _⟩
open Go.Proofs.Tryz
theorem Qif {P:Program}{f:Fr}{w:World}{d:Option Nat}{ty:Nat}{ps:String}{af:Array Edge}{gd:Option (Nat×Bool)}{x y:Operand}{t m e:Nat}[h:Ay P t m e 1] [h1:X7 P e] {cs:LV}{k:IntKind}{i:Nat}{u:Value}(hx:ev f x=.agg cs.toArray) (hy:ev f y=.int k i) (hi:i<m) (hu:cs[i]?=some u) :
  (execOp (ev f) ⟨d,.index t x y,ty,ps,af,gd⟩).run P w=.ok (.value u) w:=by
 have E:=zq (P:=P) (w:=w) (t:=e);have H:=jR (P:=P) (w:=w) (t:=e);simp[execOp,hx,hy,Instr.index,asIntOf,run_underlying h.u,E,part,H,hu];intro h2;omega
theorem Qks {w:World}{b E n:Nat}{l:LI}{s:Int}(H:QT w.heap b 175 [.slice (some ⟨E,0,none⟩) n n]) (hS:QT w.heap E 4 ((flg n l).map Value.bool)) (I:0≤s) (h1:s<(n:Int)) :
  QG prog 82 [.int .i64 s,.pointer (some ⟨b,0,none⟩)] w λr w'=>r=.bool (decide (s∈l))∧Step [] w w':=by
 refine QG.of_W func82 Z ntmps82 results82 (by simp) ?_;have J:s=(s.toNat:Int):=by omega
 refine Qc<|Qf<|Qc<|x (Qd H Z Z)<|Qb<|x (QS (i:=s.toNat) Z (congrArg (Value.int .i64) J) (by omega))<|x (Qd hS Z (Qbh I h1))<|Qf ?_;exact Ql ⟨[_],Lb,Z,Step.refl _ _⟩
theorem Qkr {w:World}{b H n:Nat}{l:LI}{e:Ed}(I:QT w.heap b 175 [.slice (some ⟨H,0,none⟩) n n]) (hS:QT w.heap H 4 ((flg n l).map Value.bool)) (J:0≤e.2.2) (h1:e.2.2<(n:Int)) :
  QG prog 83 [.agg (QB e).toArray,.pointer (some ⟨b,0,none⟩)] w λr w'=>r=.bool (decide (e.2.2∈l))∧Step [] w w':=by
 refine QG.of_W func83 Z ntmps83 results83 (by simp) ?_;have U:e.2.2=(e.2.2.toNat:Int):=by omega
 refine Qc<|xl Z<|QR (us:=QB e) Z λY w1 E ha V=>Qf<|Qc<|x (Qd (I.ext E) Z Z)<|x (Qa Z)<|x (Qd V Z Z)<|x (QS (i:=e.2.2.toNat) Z (congrArg (Value.int .i64) U) (by omega))<|x (Qd (hS.ext E) Z (Qbh J h1))<|Qf ?_;exact Ql ⟨[_],Lb,Z,E⟩
instance ayJk1:Ay prog 173 2 39 1:=⟨by kernel_rfl,by kernel_rfl⟩
def ptR (a:QD) (n from0:Nat) (tg wi:LI):LI×Bool:=pth (λs=>decide (s∈tg)) (λe=>decide (e.2.2∈wi)) a.ed n from0
def phP (N n:Nat) (tg wi:LI) (i:Nat) (v:Value) (w:World):Prop :=
 if i=2 then ∃b,v=.slice (some ⟨b,0,none⟩) n n∧N≤b∧QT w.heap b 4 ((flg n wi).map Value.bool)
 else if i=5 then ∃b,v=.slice (some ⟨b,0,none⟩) n n∧N≤b∧QT w.heap b 4 ((flg n tg).map Value.bool)
 else ∃b,v=.pointer (some ⟨b,0,none⟩)∧N≤b∧QT w.heap b 175 [nS]
theorem Qlf {N n:Nat}{tg wi:LI}(i:Nat) (v:Value) (w w':World) (h:phP N n tg wi i v w) (hs:Step [] w w'):phP N n tg wi i v w':=by
 unfold phP at *;split
 ·rename_i e;rw[if_pos e] at h;obtain ⟨b,h1,h2,h3⟩:=h;exact ⟨b,h1,h2,h3.ext hs⟩
 rename_i e;rw[if_neg e] at h;split
 ·rename_i e2;rw[if_pos e2] at h;obtain ⟨b,h1,h2,h3⟩:=h;exact ⟨b,h1,h2,h3.ext hs⟩
 rename_i e2;rw[if_neg e2] at h;obtain ⟨b,h1,h2,h3⟩:=h;exact ⟨b,h1,h2,h3.ext hs⟩
structure PhZ where
 bi:Nat
 bt:Nat
 b15:Nat
 b16:Nat
theorem QmO {w:World}{va vm ve vt vi:Value}{a:QD}{n from0:Nat}{tg wi:LI}(h:Zq [] w.heap va vm ve a) (hck:XM a=0) (hn:a.st=(n:Int)) (hf:from0<n) (ht:QL [] w.heap vt tg) (hi:QL [] w.heap vi wi)
  (h6:YV a.st none tg=0) (h7:YV a.st none wi=0) (hM:(from0:Int)∈wi) :
  QG prog 38 [.agg #[va,.int .i64 a.st,vm,ve],.int .i64 from0,vt,vi] w λr w'=>Step [] w w'∧∃v,r=.tuple #[v,.bool (ptR a n from0 tg wi).2,.int .i64 0]∧Qs 3 w.heap.size w' v (ptR a n from0 tg wi).1:=by
 have I:=(Zv a).1 hck;have hz:=I.st1;refine QG.of_W func38 Z ntmps38 results38 (by simp) ?_;refine Qc<|xl Z<|QR (us:=[va,.int .i64 a.st,vm,ve]) Z λb4 w1 h8 hZ h9=>x Qe<|x Qe<|Qf<|Qg<|Qc<|x (Qp h9 Z Z)<|xl Z<|xf<|(Xn (h.ext h8)).mono ?_;rintro r2 w2 ⟨rfl,hA⟩;refine Qf<|Qc<|Qb<|x (Q8 Z Z)<|xe<|Q3 rfl (λhC=>absurd hck hC) (λhC=>?_);refine Qi ?_;have hD:=h8.trans hA
 have h3:=h9.ext hA;have hN:¬(from0:Int)≥a.st:=by omega
 refine Qg<|Qc<|Qb<|xb (QA Z Z) (λhE=>absurd hE (by omega)) (λhE=>?_);refine Qb<|Qb<|x (Qa Z)<|x (Qd h3 Z Z)<|x (ZZ Z Z)<|x (Qo Z)<|xe<|Q3 rfl (λhF=>absurd hF hN) (λhF=>?_);refine Qi<|Qg<|Qc<|Qb<|Qb<|x (QN ⟨ht.cells,hi.cells,La⟩)<|Qb<|xe ?_
 refine Qh<|Qz (α:=Nat) [(8,10),(13,14),(33,42)] (λz=>[(33,.int .i64 z)]) (λz w'=>z≤2∧Step [] w2 w') (λz=>2 - z) (by rfl) 0 Lb ⟨by omega,Step.refl _ _⟩ ?_;rintro k g w4 ⟨hk,ha⟩;refine Qc<|x (QA Z Z)<|xe<|Qg<|QC Z (λhG=>?_) (λhG=>?_)
 ·refine Qy ?_;have hg:=hD.trans ha;have hH:=h.ext hg;have ga:=hg.size;have h4:=h3.ext ha;have hO:=((Z6 a.st tg none).1 h6).1;have hP:=((Z6 a.st wi none).1 h7).1;refine Qg<|Qgr (α:=PhZ) (Step [] w4) [(0,true),(1,true),(3,true),(4,true)] [2,5,6,7] [(8,false),(9,false)] [(15,16),(45,45),(48,48)] (phP w4.heap.size n tg wi)
   (λz=>[(45,.slice (some ⟨z.bi,0,none⟩) n n),(48,.slice (some ⟨z.bt,0,none⟩) n n),(15,.pointer (some ⟨z.b15,0,none⟩)),(16,.pointer (some ⟨z.b16,0,none⟩))])
   (λz w'=>QT w'.heap z.bi 4 ((flg n wi).map Value.bool)∧QT w'.heap z.bt 4 ((flg n tg).map Value.bool)∧QT w'.heap z.b15 175 [nS]∧QT w'.heap z.b16 175 [nS]∧(z.b15≠z.b16∧z.bi≠z.b15∧z.bi≠z.b16∧z.bt≠z.b15∧z.bt≠z.b16)∧w4.heap.size≤z.b15∧w4.heap.size≤z.b16)
   mixed (by rfl) (by kernel_rfl) (Step.drew _ _) (λ_ _ h1 h2=>h1.trans h2) Qlf ?_ ?_
  ·rintro g w' ⟨⟨bi,e1,_,hq⟩,⟨bt,e2,_,hr⟩,⟨b15,e3,U,hs⟩,⟨b16,e4,hh,hw⟩,_⟩ hj;refine ⟨⟨bi,bt,b15,b16⟩,⟨e1,e2,e3,e4,La⟩,hq,hr,hs,hw,?_,U,hh⟩;have d1:=hj 6 (by simp) 7 (by simp) (by decide);have d2:=hj 2 (by simp) 6 (by simp) (by decide);have d3:=hj 2 (by simp) 7 (by simp) (by decide);have d4:=hj 5 (by simp) 6 (by simp) (by decide)
   have d5:=hj 5 (by simp) 7 (by simp) (by decide);rw[e3,e4] at d1;rw[e1,e3] at d2;rw[e1,e4] at d3;rw[e2,e3] at d4;rw[e2,e4] at d5;simp only[ow,List.mem_singleton,forall_eq] at d1 d2 d3 d4 d5;exact ⟨d1,d2,d3,d4,d5⟩
  refine pq (λ_ hc=>Qp (h4.ext hc) Z Z)<|p (λ_=>Qm)<|pq (λ_ hc=>Qp (h4.ext hc) Z Z)<|p (λ_=>Qm)<|pe ⟨⟨?_,?_,?_,?_,La⟩,?_⟩
  ·intro g w' hc;refine xf<|(QcK ((hi.ext hg).ext hc) hn hz hP).mono ?_;rintro r5 w5 ⟨H,b,rfl,hb,E⟩;exact ⟨H,⟨b,Z,LT hc.size hb,E⟩,λc J=>by rw[Lc.1 (show c∈[b] from J)];exact ⟨hb,E.lt⟩⟩
  ·intro g w' hc;refine xf<|(QcK ((ht.ext hg).ext hc) hn hz hO).mono ?_;rintro r5 w5 ⟨H,b,rfl,hb,E⟩;exact ⟨H,⟨b,Z,LT hc.size hb,E⟩,λc J=>by rw[Lc.1 (show c∈[b] from J)];exact ⟨hb,E.lt⟩⟩
  ·intro g w' hc;exact Qu (us:=[nS]) Z λb w5 H hb E=>⟨H,⟨b,Z,LT hc.size hb,E⟩,λc J=>by rw[Lc.1 (show c∈[b] from J)];exact ⟨hb,E.lt⟩⟩
  ·intro g w' hc;exact Qu (us:=[nS]) Z λb w5 H hb E=>⟨H,⟨b,Z,LT hc.size hb,E⟩,λc J=>by rw[Lc.1 (show c∈[b] from J)];exact ⟨hb,E.lt⟩⟩
  rintro ⟨bi,bt,b15,b16⟩ g w5 h5 ⟨hq,hr,hs,hw,hQ,U,hh⟩;simp only[] at hq hr hs hw hQ U hh;refine pk<|QF (u:=.slice (some ⟨bi,0,none⟩) n n) hs Z Z (by simp) rfl λw6 V hR=>⟨h5.then1 V U,?_⟩;refine pk<|QF (u:=.slice (some ⟨bt,0,none⟩) n n) (hw.step V (by simp;omega)) Z Z (by simp) rfl λw7 hm hS=>⟨(h5.then1 V U).then1 hm hh,pe ?_⟩
  have hy:Step [] w4 w7:=(h5.then1 V U).then1 hm hh;have hI:=hR.step hm (by simp;omega);have hJ:=(hq.step V (by simp;omega)).step hm (by simp;omega);have hT:=(hr.step V (by simp;omega)).step hm (by simp;omega);have gb:=hy.size;have hU:((flg n wi).map Value.bool)[0+from0*1]?=some (.bool true):=by
   have e1:=Qbh (n:=n) (l:=wi) (x:=(from0:Int)) (by omega) (by omega);rw[decide_eq_true hM] at e1;exact e1
  refine Qg<|Qc<|x (Qd hI Z Z)<|Qb<|x (QS (i:=from0) Z Z hf)<|x (Qd hJ Z hU)<|x (Zs Z)<|xe<|YT Z<|Qi<|Qc<|x (Qp (h4.ext hy) Z Z)<|xl Z<|xf<|(qv (hH.ext hy) hn hz (λe he=>⟨(I.ed e he).1,(I.ed e he).2.1⟩)).mono ?_;rintro r8 w8 ⟨Y,bF,rfl,gc,hV⟩;have hK:=hy.trans Y;have ge:=Y.size;refine Qb<|x (Zo (l:=[]) (l':=[_]))<|x (Zo (l:=[]) (l':=[_]))<|xl Z<|xf <|
   (Qlg (wt:=λs=>decide (s∈tg)) (pm:=λe=>decide (e.2.2∈wi)) (cw:=[.pointer (some ⟨b16,0,none⟩)]) (cp:=[.pointer (some ⟨b15,0,none⟩)]) (gw:=82) (gp:=83) (hH.ext hK) hn (by omega) (λe he=>by have:=(I.ed e he).2.2.2;omega) I.eds hV hf
    (λs w' h0 h1 hp=>Qks ((hS.ext Y).ext hp) ((hT.ext Y).ext hp) h0 h1) (λe w' he hp=>Qkr ((hI.ext Y).ext hp) ((hJ.ext Y).ext hp) (by have:=(I.ed e he).2.2.2;omega) (by have:=(I.ed e he).2.2.2;omega))).mono ?_
  rintro r9 w9 ⟨hW,v,rfl,hv⟩;refine Qb<|x (Qj Z Z)<|x (Qj Z Z)<|x Qe<|Qf<|Qc<|Qb<|Qb<|x Qe<|x Qe<|Qf ?_;exact Ql ⟨[_,_,_],⟨Z,Z,Z,La⟩,hg.trans (hK.trans hW),v,Z,Zi hv (by omega)⟩
 refine Qi ?_;have hX:k<2:=by have gg:(k:Int)<2:=hG;omega
 have hY:∃u l,[vt,vi][k]?=some u∧QL [] w.heap u l∧YV a.st none l=0:=by
  rcases k with _ | k
  ·exact ⟨vt,tg,Z,ht,h6⟩
  have:k=0:=by omega
  subst this;exact ⟨vi,wi,Z,hi,h7⟩
 refine Exists.elim hY λu hu=>Exists.elim hu λl hl=>?_;refine Qg<|Qh<|Qc<|x (Qif (i:=k) (cs:=[vt,vi]) Z Z hX hl.1)<|Qf<|Qc<|x (Qp (h3.ext ha) Z Z)<|Qb<|xl Z<|xf<|(yx (va:=va) (vm:=vm) (ve:=ve) (a:=a) ((hl.2.1.ext hD).ext ha)).mono ?_;rintro r5 w5 ⟨rfl,H⟩;refine Qf<|Qc<|Qb<|x (Q8 Z Z)<|xe<|Q3 rfl (λhL=>absurd hl.2.2 hL) (λhL=>?_);refine Qi<|Qx<|QQ Z Z<|Qb<|xe ?_
 exact ⟨k+1,by omega,Lb,by omega,ha.trans H⟩
theorem Qfb {P:Program}{f:Fr}{w:World}{d:Option Nat}{ty:Nat}{ps:String}{af:Array Edge}{gd:Option (Nat×Bool)}{t kt et:Nat}[hm:Mp P t kt et (.int .i64 0)] [hk:Key P kt Z4] {x y:Operand}{b:Nat}{s:QD}{q v:Int}(h:ZN Z4 w.heap b (Kx [] s.ed))
  (hs:s.ed.Pairwise λx y=>x.1<y.1∨(x.1=y.1∧x.2.1<y.2.1)) (hx:ev f x=.map (some b)) (hy:ev f y=Z4 (q,v)) :
  (execOp (ev f) ⟨d,.lookup t x y true,ty,ps,af,gd⟩).run P w=.ok (.value (.tuple #[.int .i64 ((eget s.ed q v).getD 0),.bool (decide ((eget s.ed q v).isSome=true))])) w:=by
 rw[KT h hx hy,qf s.ed [] q v hs];cases eget s.ed q v <;> rfl
def YP (k:Nat):LI:=(List.range k).map λi:Nat=>(i:Int)
theorem KX (k:Nat):(YP k).length=k:=by simp[YP]
theorem U7 (k:Nat):YP (k+1)=YP k++[(k:Int)]:=by unfold YP;rw[List.range_succ,Ly];rfl
theorem KW (k:Nat) (x:Int):x∈YP k↔0≤x∧x<(k:Int):=by
 unfold YP;simp only[List.mem_map,List.mem_range];constructor
 ·rintro ⟨i,hi,rfl⟩;omega
 intro h;exact ⟨x.toNat,by omega,by omega⟩
theorem Uj (k:Nat):Z8 (YP k):=by
 induction k with
 | zero=>exact List.Pairwise.nil
 | succ k ih =>
  rw[U7];refine MF.2 ⟨ih,M9 _ _,λx hx y hy=>?_⟩;have:=(KW k x).1 hx;simp at hy;omega
theorem QjP (d:LI) (k:Nat) (x:Int):x∈VH d k→0≤x∧x<(k:Int):=by
 unfold VH;simp only[List.mem_map,List.mem_filter,List.mem_range];rintro ⟨i,hi,rfl⟩;omega
theorem QcV (d:LI) (k:Nat):Z8 (VH d k):=by
 induction k with
 | zero=>exact List.Pairwise.nil
 | succ k ih =>
  rw[j7];split
  ·refine MF.2 ⟨ih,M9 _ _,λx hx y hy=>?_⟩;have:=QjP d k x hx;simp at hy;omega
  exact ih
theorem Qmq (A:QD):Z8 (cor A):=QcV _ _
def Xo (A:QD):LI:=mrg (λp q=>p && !q) (YP A.st.toNat) (cor A)
theorem yH (A:QD):Z8 (Xo A):=qV _ _ _ _ (Lv _) (Uj _) (QcV _ _)
theorem UO (A:QD) (x:Int):x∈Xo A↔(0≤x∧x<(A.st.toNat:Int))∧x∉cor A:=by
 unfold Xo;rw[Kl (Uj _) (Qmq A)];have hm:=KW A.st.toNat x;by_cases h1:x∈cor A
 ·simp[h1]
 by_cases h2:x∈YP A.st.toNat
 ·have:=hm.1 h2;simp[h1,h2];omega
 have:¬(0≤x∧x<(A.st.toNat:Int)):=λh=>h2 (hm.2 h);simp only[h1,h2,false_or,false_and,this]
theorem Qeo {n:Int}{l:LI}(h1:∀x∈l,0≤x∧x<n) (h2:Z8 l):YV n none l=0:=(Z6 n l none).2 ⟨h1,h2,λy hy=>by cases hy⟩
structure Vs where
 x:Int
 y:Int
 b:Int
 v:Int
def Vs.ky (p:Vs):Int×Int:=(p.x,p.y)
def yY (a b:QD) (i:Nat) (p:Vs) (v:Int):Vs:=⟨nxt a.ed p.x v,nxt b.ed p.y v,(i:Int),v⟩
def Uq (a:QD) (kd x:Int):Bool:=decide (0≤x) && (decide (kd=1) || decide (x∈a.mr))
def lgC (a b:QD) (kd:Int) (p:Vs):Bool:=!(Uq a kd p.x == Uq b kd p.y)
def lgA (a b:QD) (i:Nat) (p:Vs) (V:List Vs) (v:Int):List Vs:=if (yY a b i p v).ky≠(-1,-1)∧(yY a b i p v).ky∉V.map Vs.ky then V++[yY a b i p v] else V
def vs0:Vs:=⟨-1,-1,-1,0⟩
def gV (V:List Vs) (k:Nat):Vs:=V.getD k vs0
def lgW (V:List Vs):Nat→Nat→LI
 | 0,_=>[]
 | f+1,k=>if 0≤(gV V k).b then (gV V k).v::lgW V f (gV V k).b.toNat else []
def lgL (a b:QD) (kd:Int) (al:LI):Nat→Nat→List Vs→Option (LI)
 | 0,_,_=>none
 | f+1,i,V=>if i<V.length then (if lgC a b kd (gV V i)=true then some (lgW V (i+1) i).reverse else lgL a b kd al f (i+1) (al.foldl (lgA a b i (gV V i)) V)) else none
def fst (a:QD):Int:=if a.st=0 then -1 else 0
def lgq (a b:QD) (kd:Int):Option (LI):=lgL a b kd (mrg (· || ·) a.al b.al) ((a.st.toNat+1)*(b.st.toNat+1)+1) 0 [⟨fst a,fst b,-1,0⟩]
def lgE (a b:QD) (kd:Int):Int:=if XM a≠0 then XM a else if XM b≠0 then XM b else if kd≠1∧kd≠2 then 11 else 0
structure Rpt where
 ps:Bool
 ev:Int
 f1:Int
 f2:Int
 nc:Bool
 wd:LI
 sts:LI
 tg:Int
def qI (s:Option (Int×Int×Int)):Int×Int×Int:=s.getD (0,0,0)
def Qh4 (A:QD):LI:=if (Xo A).length=0 then [] else (ptR A A.st.toNat 0 (Xo A) (YP A.st.toNat)).1
def VI (c:Q4):Rpt:=⟨(U0 c).isNone,(qI (U0 c)).1,(qI (U0 c)).2.1,(qI (U0 c)).2.2,decide ((Xo (ZT c)).length=0),Qh4 (ZT c),(ZD c).map (·.st),(ZT c).st⟩
def Ve (c:Q4):QD:=X8 (ZT c) [] (unc c.ev)
def cdE (c:Q4):Int:=if X2 c≠0 then X2 c else Ub (ZT c) [] (unc c.ev)
def ccE (c:Q4):Int:=if cdE c≠0 then cdE c else X9 [ZT c,Ve c]
def ccA (c:Q4):QD:=UX [ZT c,Ve c]
def QgN:LI→LI→Bool
 | a::v,b::w=>if a=b then QgN v w else decide (a<b)
 | _,_=>false
def less (v w:LI):Bool:=if v.length≠w.length then decide (v.length<w.length) else QgN v w
def own (c:Q4) (k:Bool):QD:=if k=true then ccA c else ZT c
def cmE (c:Q4) (k:Bool):Int:=if X2 c≠0 then X2 c else if suE c≠0 then suE c else if k=true∧ccE c≠0 then ccE c else lgE (own c k) (Jp c) 1
def cm1 (z:Option (LI)) (w:Option (LI)):Option (LI):=match w with
 | none=>z
 | some w=>match z with
  | none=>some w
  | some v=>if less w v=true then some w else some v
def cmW (a b:QD):Option (LI):=cm1 (cm1 none (lgq a b 1)) (lgq a b 2)
end Go.Proofs.YtjcgijbhaemldaaGreatDoor
namespace Go.Lg
section
variable {P:Program} {K:Fr→World→Prop} {f:Fr} {w:World} {d:Option Nat} {ty:Nat} {ps:String} {af:Array Edge} {gd:Option (Nat×Bool)}
theorem zH {t:Nat}[h1:X7 P t] {x y:Operand}{b T i:Nat}{l:List Bool}{u:Bool}(E:QT w.heap b T (l.map Value.bool)) (hx:ev f x=.pointer (some ⟨b,0+i*1,none⟩)) (hy:ev f y=.bool u) (hi:i<l.length)
  (H:∀w',Step [b] w w'→QT w'.heap b T ((l.set i u).map Value.bool)→K (QV f d undef) w'):XO P ⟨d,.store t x y,ty,ps,af,gd⟩ f w K:=by
 refine QF E hx hy (by simpa using hi) rfl λw' hs I=>H w' hs ?_;rw[Nu];simpa using I
theorem JK {t:Nat}[X7 P t] {x:Operand}{b T i:Nat}{l:List Bool}(h:QT w.heap b T (l.map Value.bool)) (hx:ev f x=.pointer (some ⟨b,0+i*1,none⟩)) (hi:i<l.length) :
  (execOp (ev f) ⟨d,.load t x,ty,ps,af,gd⟩).run P w=.ok (.value (.bool (l[i]'hi))) w:=Qd h hx (by simp[hi])
variable {ops:List Oper} {C:World→Prop} {pl:List (Nat×Bool)} {i:Nat}
theorem pqB {b:Bool}(E:∀w',C w'→(execOp (ev f) (QK ops i)).run P w'=.ok (.value (.bool b)) w') (ht:b=true→XP P ops C K pl (QV f (QK ops i).dst (.bool true)) w) (I:b=false→XP P ops C K pl (QV f (QK ops i).dst (.bool false)) w)
  (hd:yV (QK ops i)=true:=by rfl) (H:Yi ops f (QK ops i)=true:=by rfl):XP P ops C K ((i,true)::pl) f w:=by
 cases hb:b with
 | true=>rw[hb] at E;exact pq E (ht hb) hd H
 | false=>rw[hb] at E;exact pq E (I hb) hd H
end
end Go.Lg
namespace Go.Proofs.YtjcgijbhaemldaaGreatDoor
open Go.Proofs.Tryz
open Go.Lg
def bA (n:Nat) (g:Nat→Bool):List Bool:=(List.range n).map g
theorem QoI (n:Nat) (g:Nat→Bool):(bA n g).length=n:=by simp[bA]
theorem QoH {n i:Nat}{g E:Nat→Bool}{u:Bool}(hu:u=E i) (h:∀j,j<n→j≠i→E j=g j):(bA n g).set i u=bA n E:=by
 apply LX
 ·simp[bA]
 intro k h1 h2;rw[MU];have hk:k<n:=by simpa[bA] using h2
 by_cases e:i=k
 ·rw[if_pos e,hu,e];simp[bA]
 rw[if_neg e];have:=h k hk (λH=>e H.symm);simp[bA,this]
theorem Qgj (n:Nat):(List.replicate n (Value.bool false).cells.toList).flatten=(bA n (λi=>decide (i<0))).map Value.bool:=by
 apply LX
 ·simp[Value.cells,bA]
 intro i h1 h2;simp[Value.cells,bA]
theorem qb {l:Lf}{s:Int}(h:s.toNat<l.length):l[s.toNat]'h=lft l s:=by unfold lft;simp[List.getD,h]
theorem QlJ (n:Nat) (fb:LI):(lf0 n fb).length=n:=by unfold lf0;rw[UJ];simp
instance:Bw prog 273 [nS,.int .i64 0,nS,nS,nS,.map none,nS] [(0,4),(4,1),(5,1),(6,1)]:=⟨by kernel_rfl,by decide⟩
structure Pz where
 va:Value
 vm:Value
 ve:Value
 a:QD
 vu:Value
 unc:LI
 mb:Nat
 mm:List (Int×Value)
 bl:Nat
 n:Nat
 rv:Nat→Value
abbrev Pz.cells (p:Pz):LV:=[p.va,.int .i64 p.a.st,p.vm,p.ve,p.vu,.map (some p.mb),.slice (some ⟨p.bl,0,none⟩) p.n p.n]
structure PzA (L:LN) (H:Array Obj) (bp:Nat) (p:Pz):Prop where
 B:QT H bp 273 p.cells
 bL:bp∉L
 a:Zq L H p.va p.vm p.ve p.a
 u:QL L H p.vu p.unc
 M:ZN JV H p.mb p.mm
 mL:p.mb∉L
 g:∀s,s<p.n→(match mget p.mm ((s:Nat):Int) with | some u=>u | none=>nS)=p.rv s
 R:∀s,s<p.n→QL L H (p.rv s) (Zz p.a.ed s)
theorem PzA.ext {L:LN}{w w':World}{bp:Nat}{p:Pz}(h:PzA L w.heap bp p) (hs:Step [] w w'):PzA L w'.heap bp p:=⟨h.B.ext hs,h.bL,h.a.ext hs,h.u.ext hs,h.M.ext hs,h.mL,h.g,λs E=>(h.R s E).ext hs⟩
theorem PzA.st {L:LN}{w w':World}{bp:Nat}{p:Pz}(h:PzA L w.heap bp p) (hs:Step L w w'):PzA L w'.heap bp p:=⟨h.B.step hs h.bL,h.bL,h.a.st hs,h.u.st hs,h.M.step hs h.mL,h.mL,h.g,λs E=>(h.R s E).st hs⟩
theorem PzA.up {L L':LN}{H:Array Obj}{bp:Nat}{p:Pz}(h:PzA L H bp p) (E:∀b∈L',b∈L∨H.size≤b):PzA L' H bp p :=
 ⟨h.B,λhm=>by rcases E _ hm with h1 | h1;exact h.bL h1;have:=h.B.lt;omega,h.a.up E,h.u.up E,h.M,λhm=>by rcases E _ hm with h1 | h1;exact h.mL h1;have:=h.M.lt;omega,h.g,λs I=>(h.R s I).up E⟩
structure PzQ (p:Pz):Prop where
 ok:QM p.a
 n:p.a.st=(p.n:Int)
set_option maxHeartbeats 4000000 in
theorem QhK {w:World}{va vm ve vr vu:Value}{a:QD}{rm unc:LI}{n:Nat}(h:Zq [] w.heap va vm ve a) (h8:QM a) (hn:a.st=(n:Int)) (hr:QL [] w.heap vr rm) (gq:∀x∈rm,0≤x∧x<a.st) (hu:QL [] w.heap vu unc) :
  QG prog 146 [.agg #[va,.int .i64 a.st,vm,ve],vr,vu] w λr w'=>Step [] w w'∧∃bp p,r=.pointer (some ⟨bp,0,none⟩)∧p.a=a∧p.unc=unc∧p.n=n∧w.heap.size≤p.bl∧PzA [p.bl] w'.heap bp p∧QT w'.heap p.bl 4 ((lf0 n rm).map Value.bool):=by
 have kp:=h8.st1;have gr:=h8.ed;have kq:=h8.ed_le;have kr:=hr.le;refine QG.of_W func146 Z ntmps146 results146 (by simp) ?_;refine Qc<|xl Z<|QR (us:=[va,.int .i64 a.st,vm,ve]) Z λb3 H ho kt h0=>Qf ?_;have ku:=h0.lt
 refine QZ (α:=Nat×Nat×Nat) [(7,7),(13,20)] (λz=>[(7,.pointer (some ⟨z.1,0,none⟩))]) (λz w'=>Step [] H w'∧QT w'.heap z.1 273 [va,.int .i64 a.st,vm,ve,vu,.map (some z.2.1),.slice (some ⟨z.2.2,0,none⟩) n n] ∧
  ZN JV w'.heap z.2.1 []∧QT w'.heap z.2.2 4 ((bA n (λi=>decide (i<0))).map Value.bool)∧H.heap.size≤z.1∧H.heap.size≤z.2.1∧H.heap.size≤z.2.2∧z.1≠z.2.1∧z.1≠z.2.2∧z.2.1≠z.2.2) (by rfl) ?_ ?_
 ·have hf:Step [] H { H with drawn:=H.drawn+1 }:=Step.drew _ _
  refine QmM (Step [] H) [(0,true),(1,true),(3,true),(4,true)] 2 5 [(5,false),(6,true),(7,false),(8,true)] [(2,false),(6,true),(7,false),(8,true)] mixed (by rfl) (by kernel_rfl) (Step.drew _ _) ?_;refine pq (λ_ hc=>Qp (h0.ext hc) Z Z)<|p (λ_=>Qm)<|p (λ_=>Qa Z)<|pq (λ_ hc=>Qd (h0.ext hc) Z Z)<|pe ⟨⟨Z,?_⟩,Z,?_⟩
  ·refine Ya JV λbm w2 V hA hP=>⟨hf.trans V,?_⟩;refine pk<|XZ (n:=n) (congrArg (Value.int .i64) hn) (congrArg (Value.int .i64) hn) (by omega) λbl w3 Y hC hB=>⟨(hf.trans V).trans Y,?_⟩;rw[Qgj] at hB;refine p (λ_=>ZF [(0,[va,.int .i64 a.st,vm,ve]),(1,[vu]),(2,[.map (some bm)]),(3,[.slice (some ⟨bl,0,none⟩) n n])] ⟨Z,Z,hu.cells,Z,Z,Z,Z,Z,La⟩)<|pk <|
    QR (us:=[va,.int .i64 a.st,vm,ve,vu,.map (some bm),.slice (some ⟨bl,0,none⟩) n n]) Z λbp w4 E hD J=>⟨((hf.trans V).trans Y).trans E,?_⟩
   refine p (λ_=>Qe)<|pe ?_;have gs:=hP.lt;have gt:=hB.lt;have gu:({ H with drawn:=H.drawn+1 }:World).heap.size=H.heap.size:=rfl
   exact ⟨(bp,bm,bl),Lb,((hf.trans V).trans Y).trans E,J,(hP.ext Y).ext E,hB.ext E,by simp only[];omega,by simp only[];omega,by simp only[];omega,by simp only[];omega,by simp only[];omega,by simp only[];omega⟩
  refine XZ (n:=n) (congrArg (Value.int .i64) hn) (congrArg (Value.int .i64) hn) (by omega) λbl w2 V hC hB=>⟨hf.trans V,?_⟩;rw[Qgj] at hB;refine pk<|Ya JV λbm w3 Y hA hQ=>⟨(hf.trans V).trans Y,?_⟩;refine p (λ_=>ZF [(0,[va,.int .i64 a.st,vm,ve]),(1,[vu]),(2,[.map (some bm)]),(3,[.slice (some ⟨bl,0,none⟩) n n])] ⟨Z,Z,hu.cells,Z,Z,Z,Z,Z,La⟩)<|pk <|
   QR (us:=[va,.int .i64 a.st,vm,ve,vu,.map (some bm),.slice (some ⟨bl,0,none⟩) n n]) Z λbp w4 E hD J=>⟨((hf.trans V).trans Y).trans E,?_⟩
  refine p (λ_=>Qe)<|pe ?_;have gs:=hQ.lt;have gt:=hB.lt;have gu:({ H with drawn:=H.drawn+1 }:World).heap.size=H.heap.size:=rfl
  exact ⟨(bp,bm,bl),Lb,((hf.trans V).trans Y).trans E,J,hQ.ext E,(hB.ext Y).ext E,by simp only[];omega,by simp only[];omega,by simp only[];omega,by simp only[];omega,by simp only[];omega,by simp only[];omega⟩
 rintro ⟨bp,bm,bl⟩ g w4 ⟨E,J,hE,hF,hD,hA,hC,hR,hS,hG⟩;simp only[] at J hE hF hD hA hC hR hS hG;have kv:=J.lt;have kw:=hE.lt;have gv:=ho.trans E;have ht:bp∉[bl]:=by simpa using hS
 have hT:bm∉[bl]:=by simpa using hG
 refine Qg<|Qc<|Qb<|x (QE Z)<|x (Qa Z)<|x (Qd J Z Z)<|x (Qr (L:=[]) (hF.arr (by simp) (n:=n) (cap:=n) (sz:=1) (by simp[bA]) (by omega) (Lv _)) rfl)<|Qb<|xe<|Qh<|Qz (α:=Nat) [(8,8),(26,35)] (λz=>[(26,.int .i64 z)]) (λz w'=>z≤n∧Step [bl] w4 w'∧QT w'.heap bl 4 ((bA n (λi=>decide (i<z))).map Value.bool)) (λz=>n - z) (by rfl) 0 Lb ⟨Ln _,Step.refl _ _,hF⟩ ?_
 rintro k g w5 ⟨hk,hv,hH⟩;refine Qc<|x (QA Z Z)<|xe<|Qg<|QC Z (λhU=>?_) (λhU=>?_)
 ·refine Qy ?_;have gx:bA n (λi=>decide (i<k))=(rm.take 0).foldl cut (List.replicate n true):=by
   apply LX
   ·simp[bA]
   intro i h1 h2;have:i<n:=by simpa[bA] using h1
   simp[bA];omega
  rw[gx] at hH;have hV:QL [bl] H.heap vr rm:=(hr.ext ho).up (λb hb=>.inr (by simp only[List.mem_singleton] at hb;omega));have gy:Zq [bl] H.heap va vm ve a:=(h.ext ho).up (λb hb=>.inr (by simp only[List.mem_singleton] at hb;omega));have hW:=J.step hv ht;refine Qg<|Qc<|Qb<|x (Qr ((hV.ext E).st hv) Z)<|Qb<|xe ?_
  refine Qh<|Qz (α:=Nat) [(10,10),(38,48)] (λz=>[(38,.int .i64 z)]) (λz w'=>z≤rm.length∧Step [bl] w4 w'∧QT w'.heap bl 4 (((rm.take z).foldl cut (List.replicate n true)).map Value.bool)) (λz=>rm.length - z) (by rfl) 0 Lb ⟨Ln _,hv,hH⟩ ?_;rintro j g w6 ⟨hj,I,hg⟩;refine Qc<|x (QA Z Z)<|xe<|Qg<|QC Z (λhI=>?_) (λhI=>?_)
  ·refine Qy ?_;have gz:rm.length≤j:=by have h3:¬(j:Int)<(rm.length:Int):=hI;omega
   rw[Ls gz] at hg;have hX:=J.step I ht;have g0:=hE.step I hT;have kx:=hg.lt;refine Qg<|Qc<|x (Qa Z)<|x (Qd ((h0.ext E).step I (by simp only[List.mem_singleton];omega)) Z Z)<|x (Qr ((gy.ext E).st I).ed Z)<|Qb<|xe ?_;have kz:=I.size
   refine Qh<|Qz (α:=Nat×(Nat→Value)×List (Int×Value)) [(12,12),(52,73)] (λz=>[(52,.int .i64 z.1)]) (λz w'=>z.1≤a.ed.length∧Step [bm] w6 w'∧ZN JV w'.heap bm z.2.2∧Vi w6.heap.size w' n z.2.1 (Zz (a.ed.take z.1))∧∀s,s<n→(match mget z.2.2 ((s:Nat):Int) with | some u=>u | none=>nS)=z.2.1 s) (λz=>a.ed.length - z.1) (by rfl) (0,λ_=>nS,[]) ⟨rfl,La⟩
    ⟨Ln _,Step.refl _ _,g0,⟨λi _=>QP _ _ _ _,λi j _ _ _=>Dj.nil _⟩,λs _=>Z⟩ ?_
   rintro ⟨i,rv,m⟩ g w7 ⟨hi,U,hJ,hh,h4⟩;simp only[] at hi hJ hh h4;have k0:=U.size;have hY:bp∉[bm]:=by simpa using hR
   have g1:bl∉[bm]:=by simpa using Ne.symm hG
   refine Qc<|x (QA Z Z)<|xe<|Qg<|QC Z (λhK=>?_) (λhK=>?_)
   ·refine Qy ?_;have g2:a.ed.length≤i:=by have h5:¬(i:Int)<(a.ed.length:Int):=hK;omega
    rw[Ls g2] at hh;refine Qc<|Qb<|Qf<|Ql ⟨[_],Lb,(gv.then1 I (by omega)).then1 U (by omega),bp,⟨va,vm,ve,a,vu,unc,bm,m,bl,n,rv⟩,Z,Z,Z,Z,by simp only[];omega,⟨hX.step U hY,ht,?_,?_,hJ,hT,h4,λs hs=>QX (hh.own s hs) (LT (Jl a.ed s) (by omega)) (λb hb hm=>?_)⟩,hg.step U g1⟩
    ·have h9:Zq [bl,bm] w7.heap va vm ve a:=((((h.ext ho).up (L':=[bl,bm]) (λb hb=>.inr (by simp only[List.mem_cons,List.not_mem_nil,or_false] at hb;omega))).ext E).st (I.mono (by simp))).st (U.mono (by simp));exact h9.up (by simp)
    ·have h9:QL [bl,bm] w7.heap vu unc:=((((hu.ext ho).up (L':=[bl,bm]) (λb hb=>.inr (by simp only[List.mem_cons,List.not_mem_nil,or_false] at hb;omega))).ext E).st (I.mono (by simp))).st (U.mono (by simp));exact h9.up (by simp)
    have:=(Qq (hh.own s hs) b hb).1;simp only[List.mem_singleton] at hm;omega
   refine Qi ?_;have ha:i<a.ed.length:=by have h5:(i:Int)<(a.ed.length:Int):=hK;omega
   have hw:a.ed.take (i+1)=a.ed.take i++[a.ed[i]'ha]:=Lj ha;have hZ:=gr _ (Le ha);refine Zh (a.ed[i]'ha) λe he=>?_;rw[he] at hw hZ;have ga:e.2.2=(e.2.2.toNat:Int):=by omega
   have hy:e.2.2.toNat<n:=by omega
   have g3:=Jl (a.ed.take i) e.2.2.toNat;rw[LD] at g3;have hL:=z7 (a.ed.take i) e hZ.2.2.2.1;have g4:zf [bl,bm] w7.heap ve a.ed:=((((h.ed.ext ho).up (L':=[bl,bm]) (λb hb=>.inr (by simp only[List.mem_cons,List.not_mem_nil,or_false] at hb;omega))).ext E).st (I.mono (by simp))).st (U.mono (by simp));refine Qg<|Qh<|Qc<|xie g4 Z Z ha λk4 h5=>?_;rw[he] at h5
   refine x (QJ h5 Z Z)<|xl Z<|Qu (us:=[.int .i64 0,.int .i64 0,.int .i64 0]) Z λg5 w8 g6 g7 g8=>xl Z<|Qn (us:=QB e) g8 Z Z Z Z ⟨Z,Z,Z,La⟩ λw9 g9 hM=>xe ?_;have hz:Step [] w7 w9:=g6.then1 g9 g7;have k5:=hz.size;have gb:=hh.ext hz;have ka:=gb.own _ hy
   have h6:∀b∈ob (rv e.2.2.toNat),w6.heap.size≤b∧b<w7.heap.size:=λb hb=>⟨(Qq (hh.own _ hy) b hb).1,Q2 (hh.own _ hy) b hb⟩;have gc:bp∉ob (rv e.2.2.toNat):=λhb=>by have:=h6 _ hb;omega
   have ge:bm∉ob (rv e.2.2.toNat):=λhb=>by have:=h6 _ hb;omega
   have hN:g5∉ob (rv e.2.2.toNat):=λhb=>by have:=h6 _ hb;omega
   have gg:=((hX.step U hY).ext hz);have gh:=hJ.ext hz;have gi:=h4 e.2.2.toNat hy;rw[←ga] at gi;refine QU (Step (ob (rv e.2.2.toNat)) w9) [(0,true),(1,true),(2,true),(3,true),(4,true),(5,true),(6,true),(7,true),(8,true),(9,true),(10,true),(11,true),(12,true),(13,true),(14,true),(15,false),(16,false),(17,false)] mixed (by rfl) (by kernel_rfl) (Step.drew _ _) ?_
   refine p (λ_=>Qm)<|p (λ_=>QE Z)<|p (λ_=>Qa Z)<|pq (λ_ hc=>Qd (gg.step hc gc) Z Z) <|
    p (λ_=>Qa Z)<|pq (λ_ hc=>Qd (hM.step hc hN) Z Z)<|p (λ_=>Qm)<|p (λ_=>QE Z)<|p (λ_=>Qa Z) <|
    pq (λ_ hc=>Qd (gg.step hc gc) Z Z)<|p (λ_=>Qa Z)<|pq (λ_ hc=>Qd (hM.step hc hN) Z Z) <|
    pq (λ_ hc=>(J3 (k:=e.2.2) (gh.step hc ge) Z Z).trans (congrArg (λv=>Result.ok (Next.value v) _) gi))<|p (λ_=>Qa Z)<|pq (λ_ hc=>Qd (hM.step hc hN) Z Z) <|
    pk<|QH (us:=[[.int .i64 e.1]]) Z Z (by decide) (by simp) ⟨rfl,rfl,La⟩ λk6 kb gj k7 kc=>⟨(Step.drew _ _).trans gj,?_⟩
   have hp:Step [] w9 kb:=(Step.drew _ _).trans gj;have k8:=hp.size;refine pk<|Q6 (m:=1) (news:=[.int .i64 e.1]) (Qt ka hp) Z Z Z (kc.at (L:=[]) (by simp)) (by simp[Value.oneCell']) (by omega) (by omega) λhO k9 ke h7 kf=>⟨hp.any.trans' h7,?_⟩;have kg:=(gh.ext hp).step h7 ge;refine pkl (hl:=by kernel_rfl)<|Y1 (k:=e.2.2) kg Z Z λma gk kh=>pe ?_
   have ki:∀b∈ob hO,b∈ob (rv e.2.2.toNat)∨w9.heap.size≤b:=λb hb=>(kf b hb).imp id (λh=>by omega);have gl:=gb.app hy (Qs.snoc ke) (hp.any.trans' h7) ki;have gm:=gl.step gk (λi hi b hb=>by have:=(Qq (gl.own i hi) b hb).1;simp only[List.mem_singleton];omega)
   have kj:KB (Zz (a.ed.take i)) e.2.2.toNat (Zz (a.ed.take i) e.2.2.toNat++[e.1])=Zz (a.ed.take (i+1)):=by rw[hw];exact funext hL
   rw[kj] at gm;refine Qx<|QQ Z Z<|Qb<|xe<|⟨(i+1,KB rv e.2.2.toNat hO,mput m e.2.2 hO),by simp only[];omega,Lb,ha,?_,kh,gm,λs hs=>?_⟩
   ·exact (((U.trans hz).trans hp).then h7 (λb hb=>.inr (h6 b hb).1)).trans' gk
   simp only[];rw[J6];by_cases gn:s=e.2.2.toNat
   ·subst gn;rw[if_pos ga,Z9]
   rw[if_neg (by omega),YD _ _ gn];exact h4 s hs
  refine Qi ?_;have hq:j<rm.length:=by have h3:(j:Int)<(rm.length:Int):=hI;omega
  have kk:=gq _ (Le hq);have hw:rm.take (j+1)=rm.take j++[rm[j]'hq]:=Lj hq;refine Zh (rm[j]'hq) λs hs=>?_;rw[hs] at kk hw;have hL:s=(s.toNat:Int):=by omega
  have mc:((rm.take j).foldl cut (List.replicate n true)).length=n:=by rw[UJ];simp
  refine Qg<|Qh<|Qc<|xii (i:=j) ((hV.ext E).st I) Z Z hq λmf h3=>?_;rw[hs] at h3;refine x (Qv h3 Z)<|Qf<|Qx<|Qb<|x (QE Z)<|x (Qa Z)<|x (Qd (J.step I ht) Z Z)<|Qb<|x (QS (i:=s.toNat) Z (congrArg (Value.int .i64) hL) (by omega)) <|
   xl rfl<|zH (i:=s.toNat) hg Z Z (by omega) λw7 U kn=>xe ?_
  refine Qx<|QQ Z Z<|Qb<|xe<|⟨j+1,by omega,Lb,hq,I.trans' U,?_⟩;rw[hw,Mv];exact kn
 refine Qi ?_;have ha:k<n:=by have mg:(k:Int)<(n:Int):=hU;omega
 have hW:=J.step hv ht;refine Qg<|Qh<|Qc<|Qb<|Qf<|Qx<|Qb<|x (QE Z)<|x (Qa Z)<|x (Qd hW Z Z)<|Qb<|x (QS (i:=k) Z Z (by omega)) <|
  xl rfl<|zH (i:=k) hH Z Z (by rw[QoI];exact ha) λw6 I hg=>xe ?_
 have ko:(bA n (λi=>decide (i<k))).set k true=bA n (λi=>decide (i<k+1)):=QoH (by simp) (λi _ hi=>by
  by_cases e:i<k
  ·simp[e];omega
  simp[e];omega)
 rw[ko] at hg;refine Qx<|QQ Z Z<|Qb<|xe ?_;exact ⟨k+1,by omega,Lb,ha,hv.trans' I,hg⟩
theorem yA {l r:LI}{i:Nat}(h:i<l.length):cget (l++r) i=cget l i:=by
 unfold cget;simp[List.getD,List.getElem?_append_left h]
set_option maxHeartbeats 4000000 in
theorem UH {w:World}{bp:Nat}{q:Pz}{lf:Lf}(hA:PzA [] w.heap bp q) (hq:PzQ q) (hB:QT w.heap q.bl 4 (lf.map Value.bool)) (hl:lf.length=q.n) :
  QG prog 150 [.pointer (some ⟨bp,0,none⟩)] w λr w'=>Step [] w w'∧∃b,r=.slice (some ⟨b,0,none⟩) q.n q.n∧w.heap.size≤b∧QT w'.heap b 3 ((dsts q.a lf).map (Value.int .i64))∧(dsts q.a lf).length=q.n:=by
 have hn:=hq.n;have ku:=hq.ok.st1;have ge:=hq.ok.mr;have kv:=hq.ok.mr_le;have kw:=hq.ok.ed_le;have hN:q.a.st.toNat=q.n:=by omega
 have gx:=QjN (lf:=lf) hq.ok hn;have gg:(q7 q.a.ed lf q.n 0 (j6 q.a lf)).1=dsts q.a lf:=by unfold dsts;rw[hN]
 refine Zh (dsts q.a lf) λDD gy=>?_;rw[gy] at gg ⊢;refine QG.of_W func150 Z ntmps150 results150 (by simp) ?_;refine Qc<|Qf<|Qc<|Qb<|x (QE Z)<|x (Qa Z)<|x (Qa Z)<|x (Qd hA.B Z Z)<|xl Z<|XZ (n:=q.n) (congrArg (Value.int .i64) hn) (congrArg (Value.int .i64) hn) (by omega) λbO w1 gh hD hO=>Qf ?_;rw[jS] at hO
 refine Qg<|Qc<|Qb<|x (Qr (L:=[]) (hO.arr (by simp) (n:=q.n) (cap:=q.n) (sz:=1) (by simp[gA]) (by omega) (Lv _)) rfl)<|Qb<|xe<|Qh<|Qz (α:=Nat) [(4,4),(19,25)] (λz=>[(19,.int .i64 z)]) (λz w'=>z≤q.n∧Step [] w w'∧QT w'.heap bO 3 ((gA q.n (λj=>if j<z then -1 else 0)).map (Value.int .i64))) (λz=>q.n - z) (by rfl) 0 Lb ⟨Ln _,gh,hO⟩ ?_
 rintro j g H ⟨hj,ho,h3⟩;refine Qc<|x (QA Z Z)<|xe<|Qg<|QC Z (λhP=>?_) (λhP=>?_)
 ·refine Qy ?_;have hQ:j=q.n:=by have gz:¬(j:Int)<(q.n:Int):=hP;omega
  have g0:gA q.n (λi=>if i<j then -1 else 0)=((q.a.mr.take 0).foldl (ds1 lf) (List.replicate q.n (-1),[])).1:=by
   apply LX
   ·simp[gA]
   intro i h1 h2;have:i<q.n:=by simpa[gA] using h1
   simp[gA];omega
  rw[g0] at h3;refine Qc<|Qf<|Qg<|Qc<|Qb<|x (QE Z)<|x (Qa Z)<|x (Qa Z)<|x (Qd (hA.ext ho).B Z Z)<|x (Qr (hA.ext ho).a.mr Z)<|Qb<|xe<|Qh<|Qz (α:=Nat×Value) [(5,5),(7,7),(32,50)] (λz=>[(5,z.2),(32,.int .i64 z.1)]) (λz w'=>z.1≤q.a.mr.length∧Step [] w w'∧H.heap.size≤w'.heap.size∧QT w'.heap bO 3 (((q.a.mr.take z.1).foldl (ds1 lf) (List.replicate q.n (-1),[])).1.map (Value.int .i64)) ∧
   Qs 3 H.heap.size w' z.2 ((q.a.mr.take z.1).foldl (ds1 lf) (List.replicate q.n (-1),[])).2) (λz=>q.a.mr.length - z.1) (by rfl) (0,nS) ⟨Z,Z,La⟩ ⟨Ln _,ho,Lv _,h3,QP _ _ _ _⟩ ?_
  rintro ⟨k,vl⟩ g w3 ⟨hk,h4,gi,hp,hf⟩;simp only[] at hk hp hf;have gj:=QcT (lf:=lf) (λx hx=>(ge x hx).1) k;rw[hN] at gj;refine Qc<|x (QA Z Z)<|xe<|Qg<|QC Z (λhR=>?_) (λhR=>?_)
  ·refine Qy ?_;have g1:q.a.mr.length≤k:=by have hF:¬(k:Int)<(q.a.mr.length:Int):=hR;omega
   have e0:(q.a.mr.take k).foldl (ds1 lf) (List.replicate q.n (-1),[])=j6 q.a lf:=by rw[Ls g1];unfold j6;rw[hN]
   rw[e0] at hp hf;have g2:bO<H.heap.size:=h3.lt;refine Qg<|Qc<|Qf<|Qh<|Qz (α:=Nat×Nat×Value×LI×LI) [(5,5),(8,8),(10,10),(51,100)] (λz=>[(5,z.2.2.1),(8,.int .i64 z.2.1)])
    (λz w'=>Step [] w w'∧H.heap.size≤w'.heap.size∧QT w'.heap bO 3 (z.2.2.2.1.map (Value.int .i64))∧Qs 3 H.heap.size w' z.2.2.1 z.2.2.2.2∧DsI q.n z.2.2.2∧z.1+z.2.1=q.n∧(q7 q.a.ed lf z.1 z.2.1 z.2.2.2).1=DD) (λz=>q.n - z.2.1) (by rfl) (q.n,0,vl,(j6 q.a lf).1,(j6 q.a lf).2) ⟨Z,Z,La⟩
    ⟨h4,gi,hp,hf,gx,Z,gg⟩ ?_
   rintro ⟨f,i,vl,o,l⟩ g w4 ⟨hg,hS,h5,U,hr,g3,V⟩;simp only[] at hS h5 U hr g3 V;have g4:=hr.le;have gk:=hr.ok.len;simp only[] at g4 gk;have hG:=hA.ext hg;refine Qg<|Qc<|Qb<|Qb<|x (Qr (L:=[]) (QX U (by omega) (by simp)) rfl)<|x (QA rfl rfl)<|xe<|QC Z (λhT=>?_) (λhT=>?_)
   ·refine Qy ?_;have g5:¬i<l.length:=by have g6:¬(i:Int)<(l.length:Int):=hT;omega
    rw[QjJ g5] at V;simp only[] at V;subst V;refine Qc<|Qb<|Qf ?_;exact Ql ⟨[.slice (some ⟨bO,0,none⟩) q.n q.n],Lb,hg,bO,Z,hD,h5,gk⟩
   refine Qi ?_;have ht:i<l.length:=by have g6:(i:Int)<(l.length:Int):=hT;omega
   refine Exists.elim (MR (show f≠0 by omega)) λf' g7=>?_;subst g7;rw[q7,if_pos ht] at V;have gl:=Q9 ht;have hsr:=hr.ok.q _ (Jy ht);have hU:=hr.s0 _ (Jy ht);refine Zh (cget l i) λs hs=>?_;rw[hs] at V hsr gl;simp only[] at hsr hU;rw[hs] at hU;have gm:s=(s.toNat:Int):=by omega
   have gn:=hG.g s.toNat (by omega);rw[←gm] at gn;have g8:=hG.R s.toNat (by omega);have kx:=Jl q.a.ed s.toNat;refine Qg<|Qh<|Qg<|QU (Step [] w4) [(0,true),(1,true),(2,true),(3,true),(4,true),(5,true),(6,true),(7,true),(8,true),(9,true),(10,true)] mixed (by rfl) (by kernel_rfl) (Step.drew _ _) ?_
   refine p (λ_=>Qm)<|p (λ_=>QE Z)<|p (λ_=>Qa Z)<|pq (λ_ hc=>Qd (hG.B.ext hc) Z Z)<|p (λ_=>Qm)<|p (λ_=>Qm) <|
    pii (i:=i) Z (QX (L:=[]) U (by omega) (by simp)) rfl rfl ht λkz gq=>?_
   rw[gl] at gq;refine pq (λ_ hc=>Qv (gq.ext hc) Z)<|pq (λ_ hc=>(J3 (k:=s) (hG.M.ext hc) Z Z).trans (congrArg (λv=>Result.ok (Next.value v) _) gn))<|p (λ_=>Qr g8 Z)<|p (λ_=>Qm)<|pe ?_;have hH:Step [] w4 { w4 with drawn:=w4.drawn+1 }:=Step.drew _ _
   refine Qh<|Qz (α:=Nat×Value×LI×LI) [(5,5),(10,10),(67,100)] (λz=>[(5,z.2.1),(67,.int .i64 z.1)])
    (λz w'=>z.1≤(Zz q.a.ed s.toNat).length∧Step [] w w'∧H.heap.size≤w'.heap.size∧QT w'.heap bO 3 (z.2.2.1.map (Value.int .i64))∧Qs 3 H.heap.size w' z.2.1 z.2.2.2∧DsI q.n z.2.2∧0≤cget z.2.2.1 s.toNat∧i<z.2.2.2.length∧cget z.2.2.2 i=s ∧
     ((Zz q.a.ed s.toNat).drop z.1).foldl (Va lf s) z.2.2=(Zz q.a.ed s.toNat).foldl (Va lf s) (o,l)) (λz=>(Zz q.a.ed s.toNat).length - z.1) (by rfl) (0,vl,o,l) ⟨Z,Z,La⟩
    ⟨Ln _,hg.trans hH,LT hS hH.size,h5.ext hH,Qt U hH,hr,hU,ht,hs,Z⟩ ?_
   rintro ⟨m,hI,o2,l2⟩ g w5 ⟨hm,E,hJ,hu,hv,hh,hV,h6,hK,I⟩;simp only[] at hm hJ hu hv hh hV h6 hK I;have gr:=hA.ext E;have g9:=hh.le;have ka:=hh.ok.len;simp only[] at g9 ka;refine Qc<|x (QA Z Z)<|xe<|Qg<|QC Z (λhW=>?_) (λhW=>?_)
   ·refine Qy ?_;have kb:(Zz q.a.ed s.toNat).length≤m:=by have hL:¬(m:Int)<((Zz q.a.ed s.toNat).length:Int):=hW;omega
    rw[Lx kb] at I;simp only[List.foldl_nil] at I;rw[←I] at V;refine Qx<|Qb<|QQ Z Z<|Qf ?_;exact ⟨(f',i+1,hI,o2,l2),by simp only[];omega,⟨Z,Z,La⟩,E,hJ,hu,hv,hh,by simp only[];omega,V⟩
   refine Qi ?_;have hw:m<(Zz q.a.ed s.toNat).length:=by have hL:(m:Int)<((Zz q.a.ed s.toNat).length:Int):=hW;omega
   have gs:=Xz (Le hw);have kc:=Q7 hw;rw[kc,LM] at I;refine Zh ((Zz q.a.ed s.toNat)[m]'hw) λy hy=>?_;rw[hy] at gs I;have ke:0≤y∧y<(q.n:Int):=by
    obtain ⟨e,he,h1,_⟩:=gs;have:=hq.ok.ed e he;omega
   have h0:y=(y.toNat:Int):=by omega
   have h7:y.toNat<o2.length:=by omega
   have hX:s.toNat<o2.length:=by omega
   have kf:=hh.ok.le _ (Jy hX);simp only[] at kf;have hE:=QjL (lf:=lf) hh hsr hV ke;have hY:=qb (l:=lf) (s:=y) (by omega);refine Qg<|Qh<|Qc<|xii (i:=m) ((gr.R s.toNat (by omega))) Z Z hw λk0 hL=>?_;rw[hy] at hL;refine x (Qv hL Z)<|Qf<|QZ (α:=Bool) [(71,84)] (λz=>[(84,.bool z)]) (λz w'=>w'=w5∧z=(lft lf y && decide (cget o2 y.toNat<0))) (by rfl) ?_ ?_
   ·refine Qx<|Qb<|x (QE Z)<|x (Qa Z)<|x (Qd gr.B Z Z)<|Qb<|x (QS (i:=y.toNat) Z (congrArg (Value.int .i64) h0) (by omega))<|x (JK (i:=y.toNat) (hB.ext E) Z (by omega))<|?_;rw[hY];cases lft lf y with
    | true =>
     refine Qb<|Qb<|Qb<|x (QS (i:=y.toNat) Z (congrArg (Value.int .i64) h0) (by omega))<|x (Vq (i:=y.toNat) hu Z h7)<|x (QA Z Z)<|x (Qo Z)<|xe ?_;exact ⟨_,Lb,Z,by rw[Q9 h7];rfl⟩
    | false =>
     refine Qb<|xs Z<|xs Z<|xs Z<|xs Z<|xs Z<|x (Qo Z)<|xe ?_;exact ⟨_,Lb,Z,Z⟩
   rintro z g k4 ⟨rfl,rfl⟩;refine QW Z (λh8=>?_) (λh8=>?_)
   ·rw[Lu,decide_eq_true_eq] at h8;have hZ:Va lf s (o2,l2) y=(o2.set y.toNat (cget o2 s.toNat+1),l2++[y]):=by unfold Va;rw[if_pos h8]
    rw[hZ] at I hE;have kg:=Q9 hX;have gt:=Q9 h6;rw[hK] at gt;refine Qc<|Qb<|Qb<|Qb<|Qb<|Qb<|xii (i:=i) (QX (L:=[]) hv (by omega) (by simp)) rfl rfl h6 λk5 gu=>?_;rw[gt] at gu;refine x (Qv gu Z)<|x (QS (i:=s.toNat) Z (congrArg (Value.int .i64) gm) (by omega))<|x (Vq (i:=s.toNat) hu Z hX)<|x (JL Z Z ⟨by omega,by omega⟩) <|
     x (QS (i:=y.toNat) Z (congrArg (Value.int .i64) h0) (by omega))<|xl Z<|Jr (i:=y.toNat) hu Z Z h7 λw6 J hM=>xe ?_
    rw[kg] at hM;have kh:=J.size;have ki:∀b∈ob hI,b∉[bO]:=λb hb=>by have:=Qq hv b hb;simp only[List.mem_singleton];omega
    have h9:Qs 3 H.heap.size w6 hI l2:=Qk hv J ki;have kj:Step [] w w6:=E.then1 J hD;refine Qx<|Qb<|Qb<|xl Z<|QH (us:=[[.int .i64 y]]) Z Z (by decide) (by simp) ⟨rfl,rfl,La⟩ λk6 w7 hC k7 kk=>xl rfl<|Q6 (m:=1) (news:=[.int .i64 y]) (Qt h9 hC) rfl rfl rfl (kk.at (L:=[]) (by simp)) (by simp[Value.oneCell']) (by omega) (by have:=hC.size;omega) λga w8 kn gb k8 =>
     Qf ?_
    have k9:=hC.size;have ma:=gb.size;refine Qx<|QQ Z Z<|Qb<|xe<|⟨(m+1,ga,_,l2++[y]),by simp only[];omega,⟨Z,Z,La⟩,hw,(kj.trans hC).then gb (λb hb=>.inr (by have:=Qq h9 b hb;have:=gh.size;have:=ho.size;omega)),by omega,(hM.ext hC).step gb (λhb=>by have:=Qq h9 _ hb;omega),Qs.snoc kn,hE.1,hE.2,by simp only[List.length_append];omega,by rw[yA h6];exact hK,I⟩
   have hZ:Va lf s (o2,l2) y=(o2,l2):=by
    unfold Va;rw[if_neg];intro hc;rw[hc.1,decide_eq_true hc.2] at h8;cases h8
   rw[hZ] at I;refine Qi<|Qx<|QQ Z Z<|Qb<|xe ?_;exact ⟨(m+1,hI,o2,l2),by simp only[];omega,⟨Z,Z,La⟩,hw,E,hJ,hu,hv,hh,hV,h6,hK,I⟩
  refine Qi ?_;have Y:k<q.a.mr.length:=by have hF:(k:Int)<(q.a.mr.length:Int):=hR;omega
  have ko:=ge _ (Le Y);have kp:q.a.mr.take (k+1)=q.a.mr.take k++[q.a.mr[k]'Y]:=Lj Y;have ha:(q.a.mr.take (k+1)).foldl (ds1 lf) (List.replicate q.n (-1),[])=ds1 lf ((q.a.mr.take k).foldl (ds1 lf) (List.replicate q.n (-1),[])) (q.a.mr[k]'Y):=by rw[kp,Mv];rfl
  have kq:((q.a.mr.take k).foldl (ds1 lf) (List.replicate q.n (-1),[])).1.length=q.n∧((q.a.mr.take k).foldl (ds1 lf) (List.replicate q.n (-1),[])).2.length≤q.a.mr.length:=by
   rw[gj];exact ⟨Yx _ _,LT (My _ _) (by rw[LD];omega)⟩
  refine Zh ((q.a.mr.take k).foldl (ds1 lf) (List.replicate q.n (-1),[])) λz hz=>?_;rw[hz] at hp hf ha kq;refine Zh (q.a.mr[k]'Y) λy hy=>?_;rw[hy] at ko ha;have h0:y=(y.toNat:Int):=by omega
  have h7:y.toNat<z.1.length:=by omega
  have hY:=qb (l:=lf) (s:=y) (by omega);have gv:=hA.ext h4;refine Qg<|Qh<|Qc<|xii (i:=k) gv.a.mr Z Z Y λmc hF=>?_;rw[hy] at hF;refine x (Qv hF Z)<|Qf<|Qc<|Qb<|x (QE Z)<|x (Qa Z)<|x (Qd gv.B Z Z)<|Qb<|x (QS (i:=y.toNat) Z (congrArg (Value.int .i64) h0) (by omega))<|x (JK (i:=y.toNat) (hB.ext h4) Z (by omega))<|xe ?_;rw[hY];refine QW Z (λgc=>?_) (λgc=>?_)
  ·have e1:ds1 lf z y=(z.1.set y.toNat 0,z.2++[y]):=by unfold ds1;rw[if_pos gc]
   rw[e1] at ha;refine Qc<|Qb<|Qb<|x (QS (i:=y.toNat) Z (congrArg (Value.int .i64) h0) (by omega))<|xl Z<|Jr (i:=y.toNat) hp Z Z h7 λw4 hg h5=>xe ?_;have hS:=hg.size;have g2:bO<H.heap.size:=h3.lt;have U:Qs 3 H.heap.size w4 vl z.2:=Qk hf hg (λb hb=>by have:=Qq hf b hb;simp only[List.mem_singleton];omega)
   refine Qx<|Qb<|Qb<|xl Z<|QH (us:=[[.int .i64 y]]) Z Z (by decide) (by simp) ⟨rfl,rfl,La⟩ λmf w5 E mg kr=>xl rfl<|Q6 (m:=1) (news:=[.int .i64 y]) (Qt U E) rfl rfl rfl (kr.at (L:=[]) (by simp)) (by simp[Value.oneCell']) (by omega) (by have:=E.size;omega) λga w6 h9 J mh =>
    Qf ?_
   have hJ:=E.size;have kh:=J.size;refine Qx<|QQ Z Z<|Qb<|xe<|⟨(k+1,ga),by simp only[];omega,⟨Z,Z,La⟩,Y,((h4.then1 hg hD).trans E).then J (λb hb=>.inr (by have:=Qq U b hb;have:=ho.size;omega)),by omega,?_,?_⟩
   ·simp only[];rw[ha];exact (h5.ext E).step J (λhb=>by have:=Qq U _ hb;omega)
   simp only[];rw[ha];exact Qs.snoc h9
  have e1:ds1 lf z y=z:=by unfold ds1;rw[if_neg (by rw[gc];decide)]
  rw[e1] at ha;refine Qi<|Qx<|QQ Z Z<|Qb<|xe ?_;exact ⟨(k+1,vl),by simp only[];omega,⟨Z,Z,La⟩,Y,h4,gi,by simp only[];rw[ha];exact hp,by simp only[];rw[ha];exact hf⟩
 refine Qi ?_;have hQ:j<q.n:=by have gz:(j:Int)<(q.n:Int):=hP;omega
 refine Qg<|Qh<|Qc<|Qb<|Qf<|Qx ?_;have kt:(gA q.n (λi=>if i<j then -1 else 0)).set j (-1)=gA q.n (λi=>if i<j+1 then -1 else 0):=yd (by rw[if_pos (by omega)]) (λi _ hi=>by
  by_cases e:i<j
  ·rw[if_pos e,if_pos (by omega)]
  rw[if_neg e,if_neg (by omega)])
 refine Qb<|Qb<|x (QS (i:=j) Z Z (by omega))<|xl Z<|KU (i:=j) h3 Z Z hQ kt λw6 J hM=>xe ?_;refine Qx<|QQ Z Z<|Qb<|xe ?_;exact ⟨j+1,by omega,Lb,hQ,ho.then1 J hD,hM⟩
abbrev rmC (rk rs:Int) (x:Int×Int):LV:=[.int .i64 x.1,.int .i64 rk,.int .i64 rs,.int .i64 x.2]
theorem Qe6 (rk rs:Int) (x:Int×Int):(rmC rk rs x).length=4:=rfl
abbrev RmO (base:Nat) (w:World) (v:Value) (rk rs:Int) (l:List (Int×Int)):Prop:=w.ownsRow base 269 4 v l.length (l.flatMap (rmC rk rs))
theorem RmO.snoc {base:Nat}{w:World}{v:Value}{rk rs:Int}{l:List (Int×Int)}{x:Int×Int}(h:w.ownsRow base 269 4 v (l.length+1) (l.flatMap (rmC rk rs)++rmC rk rs x)):RmO base w v rk rs (l++[x]):=by
 unfold RmO;rw[Ll,LH];simpa using h
theorem QiP {a:QD}{ul:LI}{lf:Lf}{k:Nat}(h:k<a.ed.length):(a.ed.take (k+1)).foldl (Jf ul lf) []=Jf ul lf ((a.ed.take k).foldl (Jf ul lf) []) (a.ed[k]'h):=by
 rw[Lj h,Mv];rfl
set_option maxHeartbeats 4000000 in
theorem Qio {w:World}{bp:Nat}{q:Pz}{lf:Lf}(V:PzA [] w.heap bp q) (hq:PzQ q) (hB:QT w.heap q.bl 4 (lf.map Value.bool)) (hl:lf.length=q.n) (rk:Int) :
  QG prog 190 [.pointer (some ⟨bp,0,none⟩),.int .i64 rk] w λr w'=>Step [] w w'∧RmO w.heap.size w' r rk 2 (lost q.a q.unc lf):=by
 have hn:=hq.n;have hV:=hq.ok.ed_le;refine QG.of_W func190 Z ntmps190 results190 (by simp) ?_;refine Qc<|Qf<|Qc<|Qf<|Qg<|Qc<|Qb<|x (QE Z)<|x (Qa Z)<|x (Qa Z)<|x (Qd V.B Z Z)<|x (Qr V.a.ed Z)<|Qb<|xe ?_
 refine Qh<|Qz (α:=Nat×Value) [(5,5),(7,8),(15,72)] (λz=>[(5,z.2),(15,.int .i64 z.1)]) (λz w'=>z.1≤q.a.ed.length∧Step [] w w'∧RmO w.heap.size w' z.2 rk 2 ((q.a.ed.take z.1).foldl (Jf q.unc lf) [])) (λz=>q.a.ed.length - z.1) (by rfl) (0,nS) ⟨Z,Z,La⟩ ⟨Ln _,Step.refl _ _,QP _ _ _ _⟩ ?_;rintro ⟨k,vo⟩ g w1 ⟨hk,hi,J⟩;simp only[] at hk J
 have hj:=(zQ (a:=q.a) (ul:=q.unc) (lf:=lf) (q.a.ed.take k) [] (λe he=>L2 he) (λp hp=>by cases hp)).2;rw[LD] at hj;refine Qc<|x (QA Z Z)<|xe<|Qg<|QC Z (λhm=>?_) (λhm=>?_)
 ·refine Qy ?_;have hD:q.a.ed.length≤k:=by have Y:¬(k:Int)<(q.a.ed.length:Int):=hm;omega
  rw[Ls hD] at J;refine Qc<|Qb<|Qf ?_;exact Ql ⟨[_],Lb,hi,J⟩
 refine Qi ?_;have H:k<q.a.ed.length:=by have Y:(k:Int)<(q.a.ed.length:Int):=hm;omega
 have hE:=hq.ok.ed _ (Le H);have E:=QiP (ul:=q.unc) (lf:=lf) H;refine Zh ((q.a.ed.take k).foldl (Jf q.unc lf) []) λout hF=>?_;rw[hF] at J E hj;refine Zh (q.a.ed[k]'H) λe he=>?_;rw[he] at hE E;simp only[List.length_nil] at hj;have hG:e.1=(e.1.toNat:Int):=by omega
 have hH:e.2.2=(e.2.2.toNat:Int):=by omega
 have hI:=qb (l:=lf) (s:=e.1) (by omega);have hJ:=qb (l:=lf) (s:=e.2.2) (by omega);have hK:=V.ext hi;refine Qg<|Qh<|Qc<|xie hK.a.ed Z Z H λhW Y=>?_;rw[he] at Y;refine x (QJ Y Z Z)<|xl Z<|Qu (us:=[.int .i64 0,.int .i64 0,.int .i64 0]) Z λb7 w2 hL hM I=>xl Z<|Qn (us:=QB e) I Z Z Z Z ⟨Z,Z,Z,La⟩ λw3 hN ha=>xe ?_;have h3:Step [] w1 w3:=hL.then1 hN hM
 have ho:=hi.trans h3;have hf:=V.ext ho;have h4:=hB.ext ho;have hO:=Qt J h3;refine Qg<|QZ (α:=Bool) [(19,47)] (λz=>[(47,.bool z)]) (λz w'=>Step [] w3 w'∧(z=true↔(lft lf e.1=false∨lft lf e.2.2=true∨e.2.1∉q.unc))) (by rfl) ?_ ?_
 ·refine QU (Step [] w3) [(0,true),(1,true),(2,true),(3,true),(4,true),(5,true),(6,true),(7,true),(8,true),(9,true),(10,true),(11,true),(12,true),(13,true),(14,true),(15,true),(16,true),(17,true),(18,true),(19,true),(20,true),(21,true),(22,true),(23,true),(24,true),(25,true),(26,false),(27,true),(28,true)] mixed (by rfl) (by kernel_rfl) (Step.drew _ _) ?_
  refine p (λ_=>Qm)<|p (λ_=>QE Z)<|p (λ_=>Qa Z)<|pq (λ_ hc=>Qd (hf.B.ext hc) Z Z)<|p (λ_=>Qa Z)<|pq (λ_ hc=>Qd (ha.ext hc) Z Z) <|
   p (λ_=>QS (i:=e.1.toNat) Z (congrArg (Value.int .i64) hG) (by omega))<|pq (v:=.bool (lft lf e.1)) (λ_ hc=>(JK (i:=e.1.toNat) (h4.ext hc) Z (by omega)).trans (by rw[hI]))<|pB (λ_=>Zs rfl) (λU=>?_) (λU=>?_)
  ·refine p (λ_=>Qm)<|ps<|ps<|ps<|ps<|ps<|ps<|ps<|ps<|p (λ_=>Qo Z)<|p (λ_=>Qm)<|ps<|ps<|ps<|ps<|ps<|ps<|ps<|ps<|p (λ_=>Qo Z)<|pe ?_;exact ⟨_,Lb,Step.drew _ _,by simp at U;simp[U]⟩
  refine p (λ_=>Qm)<|p (λ_=>Qm)<|p (λ_=>QE Z)<|p (λ_=>Qa Z)<|pq (λ_ hc=>Qd (hf.B.ext hc) Z Z)<|p (λ_=>Qa Z)<|pq (λ_ hc=>Qd (ha.ext hc) Z Z) <|
   p (λ_=>QS (i:=e.2.2.toNat) Z (congrArg (Value.int .i64) hH) (by omega))<|?_
  refine pqB (b:=lft lf e.2.2) (λ_ hc=>(JK (i:=e.2.2.toNat) (h4.ext hc) Z (by omega)).trans (by rw[hJ])) (λhr=>?_) (λhr=>?_)
  ·refine p (λ_=>Qo Z)<|p (λ_=>Qm)<|ps<|ps<|ps<|ps<|ps<|ps<|ps<|ps<|p (λ_=>Qo Z)<|pe ?_;exact ⟨_,Lb,Step.drew _ _,by simp[hr]⟩
  refine p (λ_=>Qo Z)<|p (λ_=>Qm)<|p (λ_=>Qm)<|p (λ_=>QE Z)<|p (λ_=>Qa Z)<|pq (λ_ hc=>Qd (hf.B.ext hc) Z Z) <|
   p (λ_=>Qa Z)<|pq (λ_ hc=>Qd (ha.ext hc) Z Z)<|pk<|xf<|(YN (hf.u.ext (Step.drew _ _)) e.2.1).mono ?_
  rintro r4 w4 ⟨rfl,rfl⟩;refine ⟨Step.drew _ _,?_⟩;refine p (λ_=>zC Z)<|p (λ_=>Qo Z)<|pe ?_;exact ⟨_,Lb,Step.drew _ _,by simp at U;simp[U,hr]⟩
 rintro z g w4 ⟨hs,hz⟩;have h5:=ho.trans hs;have ht:=Qt hO hs;have I:=ha.ext hs;refine QW rfl (λhg=>?_) (λhg=>?_)
 ·refine Qy ?_;have e1:Jf q.unc lf out e=out:=by unfold Jf;rw[if_pos (hz.1 hg)]
  rw[e1] at E;refine Qx<|QQ Z Z<|Qb<|xe ?_;exact ⟨(k+1,vo),by simp only[];omega,⟨Z,Z,La⟩,H,h5,by simp only[];rw[E];exact ht⟩
 refine Qi ?_;have h6:¬(lft lf e.1=false∨lft lf e.2.2=true∨e.2.1∉q.unc):=λh=>by rw[hz.2 h] at hg;cases hg
 have h7:ZA [] w4.heap vo out.length 4 (out.flatMap (rmC rk 2)):=QX ht (by omega) (by simp);refine Qg<|Qc<|Qb<|x (Qr h7 Z)<|Qf<|QZ (α:=Bool) [(50,62)] (λz=>[(62,.bool z)]) (λz w'=>Step [] w4 w'∧(z=true↔out.getLast?.map (·.1)=some e.1)) (by rfl) ?_ ?_
 ·refine QU (Step [] w4) [(0,true),(1,true),(2,true),(3,true),(4,true),(5,true),(6,true),(7,true),(8,true),(9,true),(10,true),(11,true),(12,true)] mixed (by rfl) (by kernel_rfl) (Step.drew _ _) ?_;refine p (λ_=>Qm)<|pb (λ_=>ZY Z Z) (λhu=>?_) (λhu=>?_)
  ·have hX:0<out.length:=by have hP:(0:Int)<(out.length:Int):=hu;omega
   have h8:out.getLast?=some (out[out.length - 1]'(by omega)):=by rw[List.getLast?_eq_getElem?,LE]
   refine Zh (out[out.length - 1]'(by omega)) λy hy=>?_;rw[hy] at h8;refine p (λ_=>Qm)<|p (λ_=>Qm)<|p (λ_=>Qm)<|p (λ_=>J2 Z Z ⟨by omega,by omega⟩)<|Go.Lg.pig (g:=rmC rk 2) (i:=out.length - 1) Z (Qe6 rk 2) h7 Z (congrArg (Value.int .i64) (show (out.length:Int) - 1=((out.length - 1:Nat):Int) by omega)) (by omega) λhY h9=>?_;rw[hy] at h9
   refine p (λ_=>Zj Z)<|pq (λ_ hc=>Qv ((h9.fld 0 (.int .i64 y.1) Z).ext hc) Z)<|p (λ_=>Qa Z)<|pq (λ_ hc=>Qd (I.ext hc) Z Z) <|
    p (λ_=>Zr Z Z)<|p (λ_=>Qo Z)<|pe ?_
   exact ⟨_,Lb,Step.drew _ _,by rw[h8];simp⟩
  have h0:out=[]:=Lt (by have hP:¬(0:Int)<(out.length:Int):=hu;omega);refine p (λ_=>Qm)<|ps<|ps<|ps<|ps<|ps<|ps<|ps<|ps<|ps<|p (λ_=>Qo Z)<|pe ?_;exact ⟨_,Lb,Step.drew _ _,by simp[h0]⟩
 rintro z2 g w5 ⟨hv,hC⟩;have hw:=h5.trans hv;have h1:=Qt ht hv;have I:=I.ext hv;refine QW rfl (λhh=>?_) (λhh=>?_)
 ·refine Qy ?_;have e1:Jf q.unc lf out e=out:=by unfold Jf;rw[if_neg h6,if_pos (hC.1 hh)]
  rw[e1] at E;refine Qx<|QQ Z Z<|Qb<|xe ?_;exact ⟨(k+1,vo),by simp only[];omega,⟨Z,Z,La⟩,H,hw,by simp only[];rw[E];exact h1⟩
 refine Qi ?_;have hQ:¬out.getLast?.map (·.1)=some e.1:=λh=>by rw[hC.2 h] at hh;cases hh
 have e1:Jf q.unc lf out e=out++[(e.1,e.2.1)]:=by unfold Jf;rw[if_neg h6,if_neg hQ]
 rw[e1] at E;refine Qx<|Qb<|x (Qa Z)<|x (Qd I Z Z)<|Qb<|x (Qa Z)<|x (Qd I Z Z)<|x (QN ⟨Z,Z,Z,Z,La⟩) <|
  xl rfl<|QH (us:=[rmC rk 2 (e.1,e.2.1)]) Z Z (by decide) (by simp) ⟨rfl,rfl,La⟩ λhZ w6 h2 ga hR =>
  xl rfl<|Q6 (m:=1) (news:=rmC rk 2 (e.1,e.2.1)) (Qt h1 h2) Z Z Z (hR.at (L:=[]) (by simp)) (by simp[Value.oneCell']) (by omega) (by have:=hw.size;have:=h2.size;omega) λhS w7 hT hU gb=>Qf<|Qx<|QQ Z Z<|Qb<|xe ?_
 exact ⟨(k+1,hS),by simp only[];omega,⟨Z,Z,La⟩,H,(hw.trans h2).then hU (λb hb=>.inr (Qq h1 b hb).1),by simp only[];rw[E];exact RmO.snoc hT⟩
theorem Qag (lf:Lf) (d:Int):∀(l:LI) (i:Nat),Jz lf i (l++[d])=Jz lf i l++if lf.getD (i+l.length) false=true∧d<0 then [((i+l.length:Nat):Int)] else []
 | [],i=>by
  simp only[List.nil_append,Jz,List.length_nil,Nat.add_zero]
 | a::l,i=>by
  have ih:=Qag lf d l (i+1);rw[show i+1+l.length=i+(a::l).length by simp;omega] at ih;simp only[List.cons_append,Jz,ih];by_cases h:lf.getD i false=true∧a<0
  ·rw[if_pos h,if_pos h,Mm]
  rw[if_neg h,if_neg h]
abbrev blP (l:LI):List (Int×Int):=l.map λs=>(s,-1)
set_option maxHeartbeats 4000000 in
theorem Qcf {w:World}{bp:Nat}{q:Pz}{lf:Lf}(hA:PzA [] w.heap bp q) (hq:PzQ q) (hB:QT w.heap q.bl 4 (lf.map Value.bool)) (hl:lf.length=q.n) (rk:Int) :
  QG prog 191 [.pointer (some ⟨bp,0,none⟩),.int .i64 rk] w λr w'=>Step [] w w'∧RmO w.heap.size w' r rk 3 (blP (Jz lf 0 (dsts q.a lf)))∧(Jz lf 0 (dsts q.a lf)).length≤q.n:=by
 have hn:=hq.n;have h2:=hq.ok.st1;refine QG.of_W func191 Z ntmps191 results191 (by simp) ?_;refine Qc<|Qf<|Qc<|Qf<|Qg<|Qc<|Qb<|xl Z<|xf<|(UH hA hq hB hl).mono ?_;rintro r1 V ⟨hh,b,rfl,hb,hi,Y⟩;refine Zh (dsts q.a lf) λD hD=>?_;rw[hD] at hi Y ⊢;have hj:QL [] V.heap (.slice (some ⟨b,0,none⟩) q.n q.n) D:=by
  have h:=hi.arr (L:=[]) (by simp) (n:=q.n) (cap:=q.n) (sz:=1) (by simp[Y]) (by omega) (Lv _);unfold QL;rw[Y];exact h
 refine x (Qr hj Z)<|Qb<|xe<|Qh<|Qz (α:=Nat×Value) [(5,7),(11,33)] (λz=>[(5,z.2),(11,.int .i64 z.1)]) (λz w'=>z.1≤D.length∧Step [] V w'∧RmO V.heap.size w' z.2 rk 3 (blP (Jz lf 0 (D.take z.1)))) (λz=>D.length - z.1) (by rfl) (0,nS) ⟨Z,Z,La⟩ ⟨Ln _,Step.refl _ _,QP _ _ _ _⟩ ?_;rintro ⟨k,vo⟩ g w2 ⟨hk,J,E⟩;simp only[] at hk E;have hm:=(UP lf (D.take k) 0).2
 rw[LD] at hm;have ha:=hh.trans J;refine Qc<|x (QA Z Z)<|xe<|Qg<|QC Z (λhc=>?_) (λhc=>?_)
 ·refine Qy ?_;have hp:D.length≤k:=by have hr:¬(k:Int)<(D.length:Int):=hc;omega
  rw[Ls hp] at E;refine Qc<|Qb<|Qf ?_;exact Ql ⟨[_],Lb,ha,Zi E hh.size,by have:=(UP lf D 0).2;omega⟩
 refine Qi ?_;have H:k<D.length:=by have hr:(k:Int)<(D.length:Int):=hc;omega
 have hs:D.take (k+1)=D.take k++[D[k]'H]:=Lj H;have I:=Qag lf (D[k]'H) (D.take k) 0;rw[←hs,LD,LR,Ni (by omega)] at I;refine Zh (D[k]'H) λd hd=>?_;rw[hd] at I;refine Zh (Jz lf 0 (D.take k)) λout ht=>?_;rw[ht] at I E hm;have he:k<lf.length:=by omega
 have hu:lf[k]'he=lf.getD k false:=by simp[List.getD,he]
 have hv:=hA.ext ha;refine Qg<|Qh<|Qc<|Qb<|xii (i:=k) (hj.ext J) Z Z H λh3 ho=>?_;rw[hd] at ho;refine x (Qv ho Z)<|x Qe<|Qf<|QZ (α:=Bool) [(16,26)] (λz=>[(26,.bool z)]) (λz w'=>w'=w2∧(z=true↔lf.getD k false=true∧d<0)) (by rfl) ?_ ?_
 ·refine Qx<|Qb<|x (QE Z)<|x (Qa Z)<|x (Qd hv.B Z Z)<|Qb<|x (QS (i:=k) Z Z (by omega))<|xB (b:=lf.getD k false) ((JK (i:=k) (hB.ext ha) Z he).trans (by rw[hu])) (λhf=>?_) (λhf=>?_)
  ·refine Qb<|Qb<|x (QA Z Z)<|x (Qo Z)<|xe ?_;exact ⟨_,Lb,Z,by rw[hf];simp⟩
  refine Qb<|xs Z<|xs Z<|x (Qo Z)<|xe ?_;exact ⟨_,Lb,Z,by rw[hf];simp⟩
 rintro z g w3 ⟨rfl,hz⟩;refine QW rfl (λU=>?_) (λU=>?_)
 ·rw[if_pos (hz.1 U)] at I;refine Qx<|Qb<|Qb<|Qb<|x (QN ⟨Z,Z,Z,Z,La⟩)<|xl Z<|QH (us:=[rmC rk 3 ((k:Int),-1)]) Z Z (by decide) (by simp) ⟨rfl,rfl,La⟩ λh4 w4 hg h5 hw =>
   xl rfl<|Q6 (m:=1) (news:=rmC rk 3 ((k:Int),-1)) (Qt E hg) Z Z Z (hw.at (L:=[]) (by simp)) (by simp[Value.oneCell']) (by rw[Li];omega) (by have:=J.size;have:=hg.size;omega) λhy w5 h0 h1 h6=>Qf<|Qx<|QQ Z Z<|Qb<|xe ?_
  refine ⟨(k+1,hy),by simp only[];omega,⟨Z,Z,La⟩,H,(J.trans hg).then h1 (λb hb=>.inr (Qq E b hb).1),?_⟩;simp only[];rw[I,show blP (out++[(k:Int)])=blP out++[((k:Int),-1)] by simp];exact RmO.snoc h0
 rw[if_neg (λh=>by rw[hz.2 h] at U;cases U),LS] at I;refine Qi<|Qx<|QQ Z Z<|Qb<|xe ?_;exact ⟨(k+1,vo),by simp only[];omega,⟨Z,Z,La⟩,H,J,by simp only[];rw[I];exact E⟩
theorem Qin {w:World}{bp:Nat}{q:Pz}{lf:Lf}(V:PzA [] w.heap bp q) (hq:PzQ q) (Y:QT w.heap q.bl 4 (lf.map Value.bool)) (hl:lf.length=q.n) (rk:Int) :
  QG prog 147 [.pointer (some ⟨bp,0,none⟩),.int .i64 rk,.bool true] w λr w'=>Step [] w w'∧∃rs l,RmO w.heap.size w' r rk rs l∧l.map (·.1)=nxs q.a q.unc lf∧l.length≤1000000:=by
 have hb:=(Qa4 q.a q.unc lf).2;have hg:=hq.ok.ed_le;have hn:=hq.n;have hh:=hq.ok.st1;have E:nxs q.a q.unc lf=if (lost q.a q.unc lf).length≠0 then (lost q.a q.unc lf).map (·.1) else Jz lf 0 (dsts q.a lf):=rfl
 refine QG.of_W func147 Z ntmps147 results147 (by simp) ?_;refine Qc<|Qf<|Qg<|Qc<|Qb<|Qb<|xl Z<|xf<|(Qio V hq Y hl rk).mono ?_;rintro r1 w1 ⟨H,J⟩;refine Zh (lost q.a q.unc lf) λL hL=>?_;rw[hL] at J E hb;refine Qf<|QZ (α:=Bool) [(11,17)] (λz=>[(17,.bool z)]) (λz w'=>w'=w1∧(z=true↔L.length≠0)) (by rfl) ?_ ?_
 ·refine Qx<|Qb<|x (Qr (L:=[]) (QX J (by omega) (by simp)) rfl)<|xb (ZY rfl rfl) (λU=>?_) (λU=>?_)
  ·refine Qb<|xs Z<|xs Z<|x (Qo Z)<|xe ?_;exact ⟨_,Lb,Z,by have ha:(0:Int)<(L.length:Int):=U;simp;intro e;subst e;simp at ha⟩
  refine Qb<|Qb<|x (Zs Z)<|x (Qo Z)<|xe ?_;have ha:¬(0:Int)<(L.length:Int):=U;have hc:L.length=0:=by omega
  exact ⟨_,Lb,Z,by rw[hc];simp⟩
 rintro z g w2 ⟨rfl,hz⟩;refine QW rfl (λI=>?_) (λI=>?_)
 ·rw[if_pos (hz.1 I)] at E;refine Qc<|Qb<|Qf ?_;exact Ql ⟨[_],Lb,H,2,L,J,E.symm,by omega⟩
 rw[if_neg (λh=>by rw[hz.2 h] at I;cases I)] at E;refine Qi<|Qc<|Qb<|Qb<|xl Z<|xf<|(Qcf (V.ext H) hq (Y.ext H) hl rk).mono ?_;rintro r3 w3 ⟨he,hf,hi⟩;refine Qf<|Ql ⟨[_],Lb,H.trans he,3,_,Zi hf H.size,?_,?_⟩
 ·rw[E,Mf];exact List.map_id _
 rw[Li];omega
structure Vj (base:Nat) (w:World) (n:Nat) (f:Nat→Value) (g:Nat→List Ed):Prop where
 own:∀i,i<n→Ye 129 base w (f i) (g i)
 dj:∀i j,i<n→j<n→i≠j→Dj (f i) (f j)
theorem Vj.app {base n i:Nat}{w w':World}{f:Nat→Value}{g:Nat→List Ed}{v':Value}{l:List Ed}(h:Vj base w n f g) (hi:i<n) (I:Ye 129 base w' v' l) (hs:Step (ob (f i)) w w')
  (J:∀b∈ob v',b∈ob (f i)∨w.heap.size≤b):Vj base w' n (KB f i v') (KB g i l):=by
 refine ⟨λj hj=>?_,λj k hj hk E=>?_⟩
 ·by_cases e:j=i
  ·subst e;rw[Z9,Z9];exact I
  rw[YD _ _ e,YD _ _ e];exact Qk (h.own j hj) hs (h.dj j i hj hi e)
 have key:∀j,j<n→j≠i→Dj v' (f j):=λj hj e b hb H=>by
  rcases J b hb with h1 | h1
  ·exact h.dj i j hi hj (Ne.symm e) b h1 H
  have:=Q2 (h.own j hj) b H;omega
 by_cases e1:j=i
 ·subst e1;rw[Z9,YD _ _ (Ne.symm E)];exact key k hk (Ne.symm E)
 rw[YD _ _ e1];by_cases e2:k=i
 ·subst e2;rw[Z9];exact (key j hj e1).symm
 rw[YD _ _ e2];exact h.dj j k hj hk E
theorem Vj.step {base n:Nat}{X:LN}{w w':World}{f:Nat→Value}{g:Nat→List Ed}(h:Vj base w n f g) (hs:Step X w w') (E:∀i,i<n→∀b∈ob (f i),b∉X):Vj base w' n f g :=
 ⟨λi hi=>Qk (h.own i hi) hs (E i hi),h.dj⟩
theorem Vj.ext {base n:Nat}{w w':World}{f:Nat→Value}{g:Nat→List Ed}(h:Vj base w n f g) (hs:Step [] w w'):Vj base w' n f g:=h.step hs (λ_ _ _ _=>by simp)
def jc (es:List Ed) (s:Nat):List Ed:=ZE es (s:Int)
theorem Qgz (es:List Ed) (e:Ed) (E:0≤e.1):KB (jc es) e.1.toNat (jc es e.1.toNat++[e])=jc (es++[e]):=by
 funext s;unfold jc ZE;rw[Mb];by_cases h:s=e.1.toNat
 ·subst h;rw[Z9];have:e.1=(e.1.toNat:Int):=by omega
  simp[←this]
 rw[YD _ _ h];have:¬e.1=(s:Int):=by omega
 simp[this]
theorem Qb9 (es:List Ed) (s:Nat):(jc es s).length≤es.length:=J4 es _
def QeF (num:LI) (m:List (Int×Value)):Prop:=∀s:Nat,s<num.length→mget m (s:Int)=if cget num s<0 then none else some (.int .i64 (cget num s))
theorem Vv (l:LI) (k:Int):Zn l k=cget l k.toNat:=rfl
structure KH (b4 mb:Nat) (r2:Value) (wS:World) (c:Cs) (m:List (Int×Value)) (vo vk ve:Value) (w:World):Prop where
 st:Step [b4,mb] wS w
 B4:QT w.heap b4 50 [r2,.int .i64 0,vk,ve]
 M:ZN JV w.heap mb m
 nm:QeF c.num m
 o:Qs 3 wS.heap.size w vo c.ord
 k:Qs 3 wS.heap.size w vk c.mk'
 e:Ye 129 wS.heap.size w ve c.ed
 d1:Dj vo vk
 d2:Dj vo ve
 d3:Dj vk ve
section
variable {b4 mb:Nat} {r2:Value} {wS:World} {c:Cs} {m:List (Int×Value)} {vo vk ve:Value} {w w' w'':World}
theorem KH.ext (h:KH b4 mb r2 wS c m vo vk ve w) (hs:Step [] w w'):KH b4 mb r2 wS c m vo vk ve w' :=
 ⟨h.st.trans hs,h.B4.ext hs,h.M.ext hs,h.nm,Qt h.o hs,Qt h.k hs,Qt h.e hs,h.d1,h.d2,h.d3⟩
theorem KH.setK (h:KH b4 mb r2 wS c m vo vk ve w) (V:b4<wS.heap.size) (lm:mb<wS.heap.size) (ne:mb≠b4) {H:Value}{l:LI}(hs:Step (ob vk) w w') (I:Qs 3 wS.heap.size w' H l)
  (J:∀b∈ob H,b∈ob vk∨w.heap.size≤b) (E:Step [b4] w' w'') (U:QT w''.heap b4 50 [r2,.int .i64 0,H,ve]):KH b4 mb r2 wS ⟨c.ord,c.num,l,c.ed⟩ m vo H ve w'' :=
 ⟨(h.st.then hs (λb hb=>.inr (Qq h.k b hb).1)).then E (λb hb=>.inl (by simp at hb;simp[hb])),U,(h.M.step hs (QY h.k lm)).step E (by simpa using ne),h.nm,
  Qk (Qk h.o hs h.d1) E (λb hb=>by have:=(Qq h.o b hb).1;simp;omega),Qk I E (λb hb=>by have:=(Qq I b hb).1;simp;omega),
  Qk (Qk h.e hs h.d3.symm) E (λb hb=>by have:=(Qq h.e b hb).1;simp;omega),h.d1.grow J (Q2 h.o),h.d2,(h.d3.symm.grow J (Q2 h.e)).symm⟩
theorem KH.setE (h:KH b4 mb r2 wS c m vo vk ve w) (U:b4<wS.heap.size) (lm:mb<wS.heap.size) (ne:mb≠b4) {ve':Value}{l:List Ed}(hs:Step (ob ve) w w') (H:Ye 129 wS.heap.size w' ve' l)
  (I:∀b∈ob ve',b∈ob ve∨w.heap.size≤b) (E:Step [b4] w' w'') (J:QT w''.heap b4 50 [r2,.int .i64 0,vk,ve']):KH b4 mb r2 wS ⟨c.ord,c.num,c.mk',l⟩ m vo vk ve' w'' :=
 ⟨(h.st.then hs (λb hb=>.inr (Qq h.e b hb).1)).then E (λb hb=>.inl (by simp at hb;simp[hb])),J,(h.M.step hs (QY h.e lm)).step E (by simpa using ne),h.nm,
  Qk (Qk h.o hs h.d2) E (λb hb=>by have:=(Qq h.o b hb).1;simp;omega),Qk (Qk h.k hs h.d3) E (λb hb=>by have:=(Qq h.k b hb).1;simp;omega),
  Qk H E (λb hb=>by have:=(Qq H b hb).1;simp;omega),h.d1,h.d2.grow I (Q2 h.o),h.d3.grow I (Q2 h.k)⟩
theorem KH.setN (h:KH b4 mb r2 wS c m vo vk ve w) (lm:mb<wS.heap.size) (ne:mb≠b4) {l:LI}{H:List (Int×Value)}(E:Step [mb] w w') (I:ZN JV w'.heap mb H) (hm:QeF l H):KH b4 mb r2 wS ⟨c.ord,l,c.mk',c.ed⟩ H vo vk ve w' :=
 ⟨h.st.then E (λb hb=>.inl (by simp at hb;simp[hb])),h.B4.step E (by simpa using ne.symm),I,hm,Qk h.o E (λb hb=>by have:=(Qq h.o b hb).1;simp;omega),
  Qk h.k E (λb hb=>by have:=(Qq h.k b hb).1;simp;omega),Qk h.e E (λb hb=>by have:=(Qq h.e b hb).1;simp;omega),h.d1,h.d2,h.d3⟩
theorem KH.setO (h:KH b4 mb r2 wS c m vo vk ve w) (I:b4<wS.heap.size) (lm:mb<wS.heap.size) {E:Value}{l:LI}(hs:Step (ob vo) w w') (J:Qs 3 wS.heap.size w' E l)
  (H:∀b∈ob E,b∈ob vo∨w.heap.size≤b):KH b4 mb r2 wS ⟨l,c.num,c.mk',c.ed⟩ m E vk ve w' :=
 ⟨h.st.then hs (λb hb=>.inr (Qq h.o b hb).1),h.B4.step hs (QY h.o I),h.M.step hs (QY h.o lm),h.nm,J,Qk h.k hs h.d1.symm,Qk h.e hs h.d2.symm,
  (h.d1.symm.grow H (Q2 h.k)).symm,(h.d2.symm.grow H (Q2 h.e)).symm,h.d3⟩
end
theorem QeF.set {num:LI}{m:List (Int×Value)}(h:QeF num m) {k:Nat}(hk:k<num.length) {v:Int}(E:0≤v):QeF (num.set k v) (mput m (k:Int) (.int .i64 v)):=by
 intro s hs;rw[MS] at hs;rw[J6];by_cases e:s=k
 ·subst e;have:cget (num.set s v) s=v:=by unfold cget;simp[List.getD,hk]
  rw[if_pos rfl,this,if_neg (by omega)]
 rw[if_neg (by omega)];have:cget (num.set k v) s=cget num s:=by unfold cget;simp[List.getD,List.getElem?_set_ne (Ne.symm e)]
 rw[this];exact h s hs
theorem QbZ (i:Nat) (c:Cs) (m:LI) (e:Ed):Zk i ⟨c.ord,c.num,m,c.ed⟩ e=⟨(Zk i c e).ord,(Zk i c e).num,m,(Zk i c e).ed⟩∧(Zk i c e).mk'=c.mk':=by
 unfold Zk;split <;> exact ⟨Z,Z⟩
theorem Qbe (i:Nat):∀(l:List Ed) (c:Cs) (m:LI),l.foldl (Zk i) ⟨c.ord,c.num,m,c.ed⟩=⟨(l.foldl (Zk i) c).ord,(l.foldl (Zk i) c).num,m,(l.foldl (Zk i) c).ed⟩∧(l.foldl (Zk i) c).mk'=c.mk'
 | [],c,m=>⟨Z,Z⟩
 | e::l,c,m=>by
  have h1:=QbZ i c m e;have h2:=Qbe i l (Zk i c e) m;rw[LM,LM,h1.1,h2.1];exact ⟨Z,h2.2.trans h1.2⟩
theorem ju (i:Nat) (c:Cs) (e:Ed):∃r,(Zk i c e).ord=c.ord++r:=by
 unfold Zk;split
 ·exact ⟨_,rfl⟩
 exact ⟨[],by simp⟩
theorem QcI (i:Nat):∀(l:List Ed) (c:Cs),∃r,(l.foldl (Zk i) c).ord=c.ord++r
 | [],c=>⟨[],by simp⟩
 | e::l,c=>by
  obtain ⟨E,h1⟩:=ju i c e;obtain ⟨r2,h2⟩:=QcI i l (Zk i c e);exact ⟨E++r2,by rw[LM,h2,h1,LC]⟩
theorem QgA {a:QD}{i:Nat}{c:Cs}(hi:i<c.ord.length):qJ a i c=Z0 a i ((ZE a.ed (cget c.ord i)).foldl (Zk i) c):=by
 unfold qJ;rw[Vv,LO];obtain ⟨r,E⟩:=QcI i (ZE a.ed (cget c.ord i)) c;have hm:=(Qbe i (ZE a.ed (cget c.ord i)) c c.mk').2;unfold Z0;have H:Zn ((ZE a.ed (cget c.ord i)).foldl (Zk i) c).ord (i:Int)=Zn c.ord (i:Int):=by
  rw[Vv,Vv,E];simp only[Int.toNat_natCast];exact yA hi
 rw[H];split
 ·rw[(Qbe i _ c _).1,hm]
 rfl
set_option maxHeartbeats 8000000 in
theorem zF {w:World}{bp:Nat}{q:Pz}{lf:Lf}(hA:PzA [] w.heap bp q) (hq:PzQ q) (hB:QT w.heap q.bl 4 (lf.map Value.bool)) (hl:lf.length=q.n) :
  QG prog 151 [.pointer (some ⟨bp,0,none⟩)] w λr w'=>Step [] w w'∧∃v o,r=.tuple #[v,o]∧JY w.heap.size w'.heap v (Ja q.a lf)∧o.oneCell'=true:=by
 have hn:=hq.n;have hst1:=hq.ok.st1;have ki:=hq.ok.ed_le;have pg:=Xx hq.ok lf;have ha:Ja q.a lf=if q.a.st=0∨lft lf 0=false then ⟨q.a.al,0,[],[]⟩ else ZJ (rstr q.a lf):=rfl
 refine Zh (Ja q.a lf) λSA ph=>?_;rw[ph] at ha ⊢;refine QG.of_W func151 Z ntmps151 results151 (by simp) ?_;refine Qc<|xl Z<|Qu (us:=[nS,.int .i64 0,nS,nS]) Z λb2 w1 kj hb2 hC=>Qf ?_;have hl2:=hC.lt;have kk:=hA.ext kj;refine Qc<|Qb<|x (QE Z)<|x (Qa Z)<|x (Qa Z)<|x (Qd kk.B Z Z)<|xl Z<|xf<|(Y2 kk.a.al).mono ?_;rintro r2 w2 ⟨hN,hy⟩;have hz2:=hN.size
 have hO:=Qs.ints (L:=[]) hy hA.a.al.le (by simp);refine x (QN ⟨hO.cells,La⟩)<|xl Z<|Qu (us:=[nS,.int .i64 0,nS,nS]) Z λb4 w3 pj pn hD =>
  xl rfl<|Qn (us:=[r2,.int .i64 0,nS,nS]) hD Z Z Z Z ⟨hO.one,Z,Z,Z,La⟩ λw4 po hD=>xe ?_
 have V:Step [] w2 w4:=pj.then1 po pn;have hf:=kj.trans hN;have hE:=hf.trans V;have hl4:=hD.lt;have hz24:=V.size;have gk:=hA.ext hE;have pp:∀b∈ob r2,b<w2.heap.size:=Q2 hy;refine Qg<|QZ (α:=Bool) [(22,36)] (λz=>[(36,.bool z)]) (λz w'=>w'=w4∧(z=true↔(q.a.st=0∨lft lf 0=false))) (by rfl) ?_ ?_
 ·refine Qx<|Qb<|x (QE Z)<|x (Qa Z)<|x (Qa Z)<|x (Qd gk.B Z Z)<|xb (Zr Z Z) (λgl=>?_) (λgl=>?_)
  ·refine Qb<|xs Z<|xs Z<|xs Z<|xs Z<|xs Z<|xs Z<|xs Z<|x (Qo Z)<|xe ?_;exact ⟨_,Lb,Z,by simp[gl]⟩
  have gm:(0:Int).toNat<lf.length:=by
   have:0<q.n:=by omega
   simp;omega
  have gn:=qb (l:=lf) (s:=0) gm;refine Qb<|Qb<|x (QE Z)<|x (Qa Z)<|x (Qd gk.B Z Z)<|x (QS (i:=0) Z Z (by simp at gm;omega))<|x (v:=.bool (lft lf 0)) ((JK (i:=0) (hB.ext hE) Z gm).trans (by rw[←gn];rfl))<|x (Zs Z)<|x (Qo Z)<|xe ?_;exact ⟨_,Lb,Z,by simp[gl]⟩
 rintro z g w4 ⟨rfl,hz⟩;refine QW rfl (λhP=>?_) (λhP=>?_)
 ·rw[if_pos (hz.1 hP)] at ha;subst ha;refine Qc<|x (Qp hD Z Z)<|xl Z<|Qn (us:=[r2,.int .i64 0,nS,nS]) ((hC.ext hN).ext V) Z Z Z Z ⟨hO.one,Z,Z,Z,La⟩ λw6 hF hC=>Qf<|Ql ⟨[.agg #[r2,.int .i64 0,nS,nS],nS],⟨⟨_,Z,Qw Z (hC.at (L:=[]) (by simp)).cells⟩,rfl,La⟩,hE.then1 hF (by omega),_,_,rfl,?_,rfl⟩;have pt:=Qk (Qt hy V) hF (λb hb=>by have:=(Qq hy b hb).1;simp;omega)
  exact ⟨r2,_,_,Z,λL' hG=>⟨Qs.ints pt hA.a.al.le (λb hb=>by have:=hG b hb;omega),ZA.nil _ _ _,ZA.nil _ _ _⟩⟩
 have kn:¬(q.a.st=0∨lft lf 0=false):=λh=>by rw[hz.2 h] at hP;cases hP
 rw[if_neg kn] at ha;have pu:0<q.a.st:=by have:=hq.ok.st0;omega
 have ko:(rstr q.a lf).st.toNat=q.n:=by show q.a.st.toNat=q.n;omega
 unfold ZJ at ha;rw[if_neg (show ¬(rstr q.a lf).st=0 from λh=>kn (.inl h)),ko] at ha;simp only[] at ha;refine Qi<|Qc<|Qb<|x (QE Z)<|x (Qa Z)<|x (Qa Z)<|x (Qd gk.B Z Z)<|xl Z<|XZ (n:=q.n) (congrArg (Value.int .i64) hn) (congrArg (Value.int .i64) hn) (by omega) λbE w6 hF pw gq=>Qf ?_;rw[Qb8] at gq;have hlE:=gq.lt;have pz:=hE.trans hF;have kp:=hA.ext pz
 refine Qg<|Qc<|Qb<|x (QE Z)<|x (Qa Z)<|x (Qa Z)<|x (Qd kp.B Z Z)<|x (Qr kp.a.ed Z)<|Qb<|xe<|Qh<|Qz (α:=Nat×(Nat→Value)) [(7,7),(50,74)] (λz=>[(50,.int .i64 z.1)]) (λz w'=>z.1≤q.a.ed.length∧Step [bE] w6 w'∧QT w'.heap bE 48 ((List.range q.n).map z.2)∧Vj w6.heap.size w' q.n z.2 (jc ((q.a.ed.take z.1).filter λe=>lft lf e.2.2))) (λz=>q.a.ed.length - z.1) (by rfl) (0,λ_=>nS) Lb
  ⟨Ln _,Step.refl _ _,gq,⟨λi _=>QP _ _ _ _,λi j _ _ _=>Dj.nil _⟩⟩ ?_
 rintro ⟨k,rv⟩ g w7 ⟨hk,hQ,gr,Y⟩;simp only[] at hk gr Y;have hH:Step [] w4 w7:=hF.then1 hQ pw;have gs:=hE.trans hH;have hz7:=hQ.size;have kq:=hA.ext gs;refine Qc<|x (QA Z Z)<|xe<|Qg<|QC Z (λgt=>?_) (λgt=>?_)
 ·refine Qy ?_;have p0:q.a.ed.length≤k:=by have hS:¬(k:Int)<(q.a.ed.length:Int):=gt;omega
  rw[Ls p0] at Y;have Y:Vj w6.heap.size w7 q.n rv (jc (rstr q.a lf).ed):=Y;have kr:(rstr q.a lf).ed.length≤q.a.ed.length:=My _ _;refine Qc<|xl Z<|Ya JV λmb w8 gu p4 p5=>xl Z<|Yz (k:=(0:Int)) p5 Z Z λE gv kt=>Qb<|Qf ?_;have I:Step [] w7 E:=gu.then1 gv p4;have p6:=I.size;have hT:=kt.lt
  refine Qc<|xl Z<|QH (us:=[[.int .i64 0]]) Z Z (by decide) (by simp) ⟨rfl,rfl,La⟩ λku gx h3 hb77 p7=>Qf<|Qg<|Qc<|Qf ?_;have gy:mb≠b4:=by omega
  have hJ:b4<E.heap.size:=by omega
  have p8:=gs.trans I;have gz:∀b∈[b4,mb],w2.heap.size≤b:=λb hb=>by simp only[List.mem_cons,List.not_mem_nil,or_false] at hb;omega
  have p9:PzA [b4,mb] E.heap bp q:=((hA.ext hf).up (λb hb=>.inr (gz b hb))).ext (V.trans (hH.trans I));have hlw:=hB.lt;have kv:∀s,s<q.n→zf [b4,mb] E.heap (rv s) (jc (rstr q.a lf).ed s):=λs hs=>QX (Qt (Y.own s hs) I) (by have:=Qb9 (rstr q.a lf).ed s;omega) (λb hb hm=>by
   have h1:=(Qq (Y.own s hs) b hb).1;have h2:=Q2 (Y.own s hs) b hb;simp only[List.mem_cons,List.not_mem_nil,or_false] at hm;omega)
  have hK:=gr.ext I;have kw:∀b,b<w2.heap.size→b∉[b4,mb]:=λb hb hm=>by have:=gz b hm;omega
  have qc:bE∉[b4,mb]:=by simp only[List.mem_cons,List.not_mem_nil,or_false];omega
  have hblw:q.bl<w2.heap.size:=by omega
  have qo:QT E.heap b4 50 [r2,.int .i64 0,nS,nS]:=((hD.ext hH)).ext I;have qr:QT E.heap b2 50 [nS,.int .i64 0,nS,nS]:=((hC.ext hN).ext V).ext (hH.trans I);have q0:=Qt hy (V.trans (hH.trans I));have q4:Qs 3 E.heap.size gx (.slice (some ⟨ku,0,none⟩) 1 1) [0]:=p7.own (n:=1) (sz:=1) Z (by omega) (by omega)
  have kx:QeF (ZO (rstr q.a lf)).num (mput [] (0:Int) (.int .i64 0)):=by
   have h0:QeF (List.replicate q.n (-1)) ([]:List (Int×Value)):=λs hs=>by
    have q9:s<q.n:=by simpa using hs
    have:cget (List.replicate q.n (-1)) s=-1:=by unfold cget;simp[List.getD,q9]
    rw[this];rfl
   have h1:=h0.set (k:=0) (by simp;omega) (v:=0) (MQ _);unfold ZO;rw[ko];exact h1
  have g0:∀e∈(rstr q.a lf).ed,0≤e.1∧e.1<q.a.st∧0≤e.2.2∧e.2.2<q.a.st:=λe he=>by have:=pg.ed e he;exact ⟨this.1,this.2.1,this.2.2.2.1,this.2.2.2.2⟩
  have kz:V5 q.a.st (ZO (rstr q.a lf)):=Qgc (a:=rstr q.a lf) pu;have k0:(rstr q.a lf).mr=q.a.mr:=rfl;refine Zh (rstr q.a lf) λR hR=>?_;rw[hR] at ha kv kx g0 kz k0 kr;have j1:R.al=q.a.al:=by rw[←hR];rfl
  have hnN:q.a.st.toNat=q.n:=by omega
  refine Qh<|Qz (α:=Nat×Cs×List (Int×Value)×Value×Value×Value) [(9,10),(12,14),(78,142)] (λz=>[(9,z.2.2.2.1),(10,.int .i64 z.1)])
   (λz w'=>KH b4 mb r2 E z.2.1 z.2.2.1 z.2.2.2.1 z.2.2.2.2.1 z.2.2.2.2.2 w'∧z.1≤z.2.1.ord.length∧V5 q.a.st z.2.1∧z.2.1.mk'.length≤z.1∧z.2.1.ed.length≤z.1*131072∧YY R (q.n - z.1) z.1 z.2.1=YY R q.n 0 (ZO R)) (λz=>q.n - z.1) (by rfl)
   (0,ZO R,mput [] (0:Int) (.int .i64 0),.slice (some ⟨ku,0,none⟩) 1 1,nS,nS) ⟨Z,Z,La⟩
   ⟨⟨h3.any,qo.ext h3,kt.ext h3,kx,q4,QP _ _ _ _,QP _ _ _ _,Dj.nil' _,Dj.nil' _,Dj.nil' _⟩,Ln _,kz,Ln _,Ln _,Z⟩ ?_
  rintro ⟨i,c,m,vo,vk,ve⟩ g j2 ⟨J,hi,hc,j3,j4,g1⟩;simp only[] at J hi hc j3 j4 g1;have hcle:=hc.le;have hU:=Qs.ints (L:=[]) J.o (by omega) (by simp);refine Qg<|Qc<|Qb<|Qb<|x (Qr hU Z)<|x (QA Z Z)<|xe<|QC Z (λza=>?_) (λza=>?_)
  ·refine Qy ?_;have zb:c=YY R q.n 0 (ZO R):=by rw[←g1,Qac (by omega)]
   refine Qc<|Qb<|x (Qr hU Z)<|x (Qa Z)<|xl Z<|QF J.B4 Z Z (by simp) rfl λhp hf hh=>xe ?_;have zv:=Qs.ints (L:=[]) J.k (by omega) (by simp);have z0:=Ye.eds (L:=[]) J.e (by have:=hc.el;omega) (by simp)
   refine Qc<|x (Qp hh Z Z)<|Qb<|xl Z<|Qn (us:=[r2,.int .i64 c.ord.length,vk,ve]) ((qr.step J.st (kw _ (by omega))).step hf (by simp;omega)) Z Z Z Z ⟨hO.one,Z,zv.one,z0.one,La⟩ λz1 hV z2=>Qf ?_;have k5:Step [b4,mb] E hp:=J.st.then hf (λb hb=>.inl (by simp at hb;simp[hb]))
   have z3:Step [] w z1:=(p8.then k5 (λb hb=>.inr (by have:=gz b hb;omega))).then1 hV (by omega);refine Ql ⟨[.agg #[r2,.int .i64 c.ord.length,vk,ve],vo],⟨⟨_,Z,Qw Z (z2.at (L:=[]) (by simp)).cells⟩,rfl,La⟩,z3,_,_,rfl,?_,hU.one⟩;rw[←zb] at ha;subst ha;have k1:=Qk (Qk J.k hf (λb hb=>by have:=(Qq J.k b hb).1;simp;omega)) hV (λb hb=>by have:=(Qq J.k b hb).1;simp;omega)
   have k2:=Qk (Qk J.e hf (λb hb=>by have:=(Qq J.e b hb).1;simp;omega)) hV (λb hb=>by have:=(Qq J.e b hb).1;simp;omega);have k3:=Qk (Qk q0 k5 (λb hb=>kw b (pp b hb))) hV (λb hb=>by have:=(Qq hy b hb).1;simp;omega)
   exact ⟨r2,vk,ve,Z,λL' hG=>⟨by rw[j1];exact Qs.ints k3 hA.a.al.le (λb hb=>by have:=hG b hb;omega),Qs.ints k1 (by show c.mk'.length≤_;omega) (λb hb=>by have:=hG b hb;omega),Ye.eds k2 (by show c.ed.length≤_;have:=hc.el;omega) (λb hb=>by have:=hG b hb;omega)⟩⟩
  have H:i<c.ord.length:=by omega
  refine Qi ?_;have k6:=Q9 H;have hsr:=hc.ord _ (Jy H);have ho:=QgA (a:=R) H;refine Zh (cget c.ord i) λs0 k7=>?_;rw[k7] at k6 hsr ho;have k8:s0=(s0.toNat:Int):=by omega
  have g2:s0.toNat<q.n:=by omega
  have z4:jc R.ed s0.toNat=ZE R.ed s0:=by unfold jc;rw[←k8]
  have hW:=kv s0.toNat g2;rw[z4] at hW;have z9:=J4 R.ed s0;have k9:∀e∈ZE R.ed s0,0≤e.2.2∧e.2.2<q.a.st:=λe he=>⟨(g0 e (Yy he).1).2.2.1,(g0 e (Yy he).1).2.2.2⟩;refine Zh (ZE R.ed s0) λos hos=>?_;rw[hos] at hW z9 k9 ho;refine Qg<|Qh<|Qg<|Qc<|Qb<|Qb<|Qb<|xii (i:=i) hU Z Z H λa87 ma=>?_;rw[k6] at ma
  refine x (Qv ma Z)<|x (QS (i:=s0.toNat) Z (congrArg (Value.int .i64) k8) g2)<|x (Qd (u:=rv s0.toNat) (hK.step J.st qc) Z (Ue g2))<|x (Qr (hW.st J.st) Z)<|Qb<|xe<|Qh<|Qz (α:=Nat×Cs×List (Int×Value)×Value×Value) [(9,9),(12,14),(92,126)] (λz=>[(9,z.2.2.2.1),(92,.int .i64 z.1)])
   (λz w'=>KH b4 mb r2 E z.2.1 z.2.2.1 z.2.2.2.1 vk z.2.2.2.2 w'∧z.1≤os.length∧V5 q.a.st z.2.1∧z.2.1.mk'=c.mk'∧z.2.1.ed.length=c.ed.length+z.1∧(∃r,z.2.1.ord=c.ord++r)∧(os.drop z.1).foldl (Zk i) z.2.1=os.foldl (Zk i) c) (λz=>os.length - z.1) (by rfl) (0,c,m,vo,ve) ⟨Z,Z,La⟩
   ⟨J,Ln _,hc,Z,Z,⟨[],by simp⟩,rfl⟩ ?_
  rintro ⟨k4,d,m4,hX,hY⟩ g hp ⟨hj,hk4,U,g3,mc,hZ,h4⟩;simp only[] at hj hk4 U g3 mc hZ h4;have hcle4:=U.le;have hoA4:=Qs.ints (L:=[]) hj.o (by omega) (by simp);have g4:i<d.ord.length:=by obtain ⟨r,hr⟩:=hZ;rw[hr,Ll];omega
  have mf:cget d.ord i=s0:=by obtain ⟨r,hr⟩:=hZ;rw[hr,yA H];exact k7
  refine Qc<|x (QA Z Z)<|xe<|Qg<|QC Z (λh93=>?_) (λh93=>?_)
  ·refine Qy ?_;rw[Lx (by omega),Nr] at h4;rw[←h4] at ho;have mg:=p9.st hj.st;have hg4:d.ord[i]'g4=s0:=by rw[Q9 g4];exact mf
   have hmkC:Z0 R i d=if s0∈q.a.mr then ⟨d.ord,d.num,d.mk'++[(i:Int)],d.ed⟩ else d:=by
    unfold Z0;rw[Vv,LO,mf,k0]
   rw[hmkC] at ho;have ga:YY R (q.n - (i+1)) (i+1) (qJ R i c)=YY R q.n 0 (ZO R):=by
    rw[←g1];obtain ⟨t,ht⟩:∃t,q.n - i=t+1:=⟨q.n - i - 1,by omega⟩;rw[ht,YY,if_pos H,show q.n - (i+1)=t by omega]
   have hm4l:=congrArg List.length g3;refine Qg<|QU (Step [] hp) [(0,true),(1,true),(2,true),(3,true),(4,true),(5,true),(6,true),(7,true),(8,true),(9,false)] mixed (by rfl) (by kernel_rfl) (Step.drew _ _) ?_;refine p (λ_=>Qm)<|p (λ_=>QE Z)<|p (λ_=>Qa Z)<|p (λ_=>Qa Z)<|pq (λ_ hc=>Qd (mg.B.ext hc) Z Z)<|p (λ_=>Qm) <|
    p (λ_=>Qm)<|pii (i:=i) Z hoA4 Z Z g4 λa134 mh=>?_
   rw[hg4] at mh;refine pq (λ_ hc=>Qv (mh.ext hc) Z)<|pk<|xf<|(YN (mg.a.mr.ext (Step.drew _ _)) s0).mono ?_;rintro r16 w16 ⟨rfl,rfl⟩;refine ⟨Step.drew _ _,pe ?_⟩;have hg:=hj.ext (Step.drew [] hp);refine QC Z (λg5=>?_) (λg5=>?_)
   ·rw[if_neg g5] at ho;refine Qi<|Qx<|Qb<|QQ Z Z<|Qf ?_;rw[ho] at ga;exact ⟨(i+1,d,m4,hX,vk,hY),by simp only[];omega,⟨Z,Z,La⟩,hg,by simp only[];omega,U,by simp only[];omega,by simp only[];omega,ga⟩
   rw[if_pos g5] at ho;refine Qx<|x (Qa Z)<|x (Qd hg.B4 Z Z)<|Qb<|xl Z<|QH (us:=[[.int .i64 i]]) Z Z (by decide) (by simp) ⟨rfl,rfl,La⟩ λb140 w17 hs17 hb140 hB140=>?_;have hL:=hg.ext hs17;refine xl Z<|Q6 (news:=[.int .i64 i]) (L:=[]) hL.k Z Z Z (hB140.at (by simp)) (by simp[Value.oneCell']) (by omega) hL.st.size λmj w18 mo mq hn18=>?_
   have hk18:Qs 3 E.heap.size w18 mj (d.mk'++[(i:Int)]):=Qs.snoc mo;refine x (Qa Z)<|xl Z<|QF (hL.B4.step mq (QY hL.k hJ)) Z Z (by simp) (QO mo) λw19 hs19 hB19=>xe ?_;have hI19:=hL.setK hJ hT gy mq hk18 hn18 hs19 hB19;refine Qx<|Qb<|QQ Z Z<|Qf ?_;rw[ho] at ga
   exact ⟨(i+1,⟨d.ord,d.num,d.mk'++[(i:Int)],d.ed⟩,m4,hX,mj,hY),by simp only[];omega,⟨Z,Z,La⟩,hI19,by simp only[];omega,⟨U.nl,U.sum,U.ord,U.num,U.el⟩,by simp only[List.length_append,List.length_singleton];omega,by simp only[];omega,ga⟩
  refine Qi ?_;have gb:k4<os.length:=by omega
  have hdr:=Q7 gb;rw[hdr,LM] at h4;have g6:=k9 _ (Le gb);refine Zh (os[k4]'gb) λe he=>?_;rw[he] at h4 g6;have gc:e.2.2=(e.2.2.toNat:Int):=by omega
  have ge:e.2.2.toNat<d.num.length:=by rw[U.nl];omega
  have ms:=hj.nm e.2.2.toNat ge;rw[←gc] at ms;have mt:Zn d.num e.2.2=cget d.num e.2.2.toNat:=rfl;refine Qg<|Qh<|Qc<|xie (hW.st hj.st) Z Z gb λa94 mu=>?_;rw[he] at mu;refine x (QJ mu Z Z)<|xl Z<|Qu (us:=[.int .i64 0,.int .i64 0,.int .i64 0]) Z λg7 w20 hs20 g8 hh=>xl Z<|Qn (us:=QB e) hh Z Z Z Z ⟨Z,Z,Z,La⟩ λgg hs21 hh=>xe ?_;have mv:Step [] hp gg:=hs20.then1 hs21 g8
  have hg:=hj.ext mv;have hl12:=hh.lt;have hz21:=mv.size;have hIz:=hj.st.size;have hc5:V5 q.a.st (Zk i d e):=QbY U g6.1 g6.2 (by have:=U.el;omega);have mw:Zk i d e=⟨(Yc d e).ord,(Yc d e).num,(Yc d e).mk',(Yc d e).ed++[((i:Int),e.2.1,Zn (Yc d e).num e.2.2)]⟩:=zm ge
  refine QZ (α:=Value) [(13,14),(96,102)] (λz=>[(13,.int .i64 (if cget d.num e.2.2.toNat<0 then 0 else cget d.num e.2.2.toNat)),(14,.bool (!decide (cget d.num e.2.2.toNat<0)))]) (λz w'=>w'=gg) (by rfl) ?_ ?_
  ·refine Qx<|Qb<|x (Qa Z)<|x (Qd hh Z Z)<|x (v:=.tuple #[.int .i64 (if cget d.num e.2.2.toNat<0 then 0 else cget d.num e.2.2.toNat),.bool (!decide (cget d.num e.2.2.toNat<0))]) ((KT (k:=e.2.2) hg.M Z Z).trans (congrArg (λv=>Result.ok (Next.value v) _) ?_))<|Qb<|x (Qj Z Z)<|x (Qj Z Z)<|x Qe<|Qf ?_
   ·rw[ms];by_cases hv:cget d.num e.2.2.toNat<0
    ·simp[hv]
    simp[hv]
   exact ⟨.bool true,⟨Z,Z,La⟩,Z⟩
  rintro z5 g gg rfl;refine QZ (α:=Value×List (Int×Value)×Int) [(9,9),(13,13),(103,115)] (λz=>[(9,z.1),(13,.int .i64 z.2.2)]) (λz w'=>cget (Yc d e).num e.2.2.toNat=z.2.2∧KH b4 mb r2 E (Yc d e) z.2.1 z.1 vk hY w'∧QT w'.heap g7 129 (QB e)∧gg.heap.size≤w'.heap.size) (by rfl) ?_ ?_
  ·refine Qc<|Qb<|x (Zs Z)<|xe<|QW Z (λg9=>?_) (λg9=>?_)
   ·have hv:cget d.num e.2.2.toNat<0:=by simpa using g9
    have hM:Yc d e=⟨d.ord++[e.2.2],d.num.set e.2.2.toNat d.ord.length,d.mk',d.ed⟩:=by unfold Yc;rw[mt,if_pos hv]
    have hcg:cget (Yc d e).num e.2.2.toNat=(d.ord.length:Int):=by rw[hM];unfold cget;simp[List.getD,ge]
    refine Qc<|Qb<|x (Qr (Qs.ints (L:=[]) hg.o (by omega) (by simp)) rfl)<|Qf<|Qc<|Qb<|x (Qa rfl)<|x (Qd hh rfl rfl)<|Qb<|xl rfl<|Y1 (k:=e.2.2) hg.M rfl rfl λw22 ka hM22=>xe ?_;have mx:=hg.nm.set ge (v:=(d.ord.length:Int)) (by omega);rw[←gc] at mx;have hI6:=hg.setN hT gy ka hM22 mx;have gh:=hh.step ka (by simp;omega)
    refine Qx<|Qb<|x (Qa Z)<|x (Qd gh Z Z)<|xl Z<|QH (us:=[[.int .i64 e.2.2]]) Z Z (by decide) (by simp) ⟨rfl,rfl,La⟩ λb114 w23 kb hb114 hB114=>?_;have kc:=hI6.ext kb;refine xl Z<|Q6 (news:=[.int .i64 e.2.2]) (L:=[]) kc.o Z Z Z (hB114.at (by simp)) (by simp[Value.oneCell']) (by show d.ord.length+1≤_;omega) kc.st.size λmy w24 ho24 V hn24=>Qf ?_
    have hk24:Qs 3 E.heap.size w24 my (d.ord++[e.2.2]):=Qs.snoc ho24;have hb12o:g7∉ob hX:=λhb=>by have:=Q2 hj.o g7 hb;omega
    have h5:=kc.setO hJ hT V hk24 hn24;have:=ka.size;have:=kb.size;have:=V.size;refine ⟨(my,mput m4 e.2.2 (.int .i64 d.ord.length),(d.ord.length:Int)),⟨Z,Z,La⟩,hcg,?_,(gh.ext kb).step V hb12o,by omega⟩;simp only[];rw[hM];exact h5
   have hv:¬cget d.num e.2.2.toNat<0:=by simpa using g9
   have hM:Yc d e=d:=by unfold Yc;rw[mt,if_neg hv]
   have ki:(if cget d.num e.2.2.toNat<0 then 0 else cget d.num e.2.2.toNat)=cget (Yc d e).num e.2.2.toNat:=by rw[hM,if_neg hv]
   refine Qi<|⟨(hX,m4,if cget d.num e.2.2.toNat<0 then 0 else cget d.num e.2.2.toNat),⟨Z,Z,La⟩,ki.symm,?_,hh,Lv _⟩
   rw[hM];exact hg
  rintro ⟨vo5,m5,tn⟩ g w25 ⟨mz,h5,gh,hz25⟩;simp only[] at h5 mz;have m0:(Yc d e).ed=d.ed:=by unfold Yc;split <;> rfl
  have hgN:Zn (Yc d e).num e.2.2=cget (Yc d e).num e.2.2.toNat:=rfl;rw[hgN,m0,mz] at mw;have heN:Ye 129 E.heap.size w25 hY d.ed:=by have:=h5.e;rw[m0] at this;exact this
  refine Qx<|x (Qa Z)<|x (Qd h5.B4 Z Z)<|Qb<|x (Qa Z)<|x (Qd gh Z Z)<|Qb<|x (QN ⟨Z,Z,Z,La⟩) <|
   xl rfl<|QH (us:=[QB ((i:Int),e.2.1,tn)]) Z Z (by decide) (by exact (by decide:1*3≤1000000)) ⟨Z,Z,La⟩ λb123 w26 m1 hb123 hB123=>?_
  have gi:=h5.ext m1;refine xl Z<|Q6 (m:=1) (news:=QB ((i:Int),e.2.1,tn)) (L:=[]) (Qt heN m1) Z Z Z (hB123.at (by simp)) (λu hu=>by simp only[QB,List.mem_cons,List.not_mem_nil,or_false] at hu;rcases hu with rfl | rfl | rfl <;> rfl) (by have:=U.el;omega) gi.st.size λm2 w27 m3 m6 hn27=>?_
  have hk27:Ye 129 E.heap.size w27 m2 (d.ed++[((i:Int),e.2.1,tn)]):=Ye.snoc m3;refine x (Qa Z)<|xl Z<|QF (gi.B4.step m6 (QY gi.e hJ)) Z Z (by simp) (QO m3) λw28 hs28 hB28=>xe ?_;have m7:=gi.setE hJ hT gy m6 hk27 hn27 hs28 hB28;rw[←mw] at m7;refine Qx<|QQ Z Z<|Qb<|xe ?_
  refine ⟨(k4+1,Zk i d e,m5,vo5,m2),by simp only[];omega,⟨Z,Z,La⟩,m7,by simp only[];omega,hc5,?_,?_,?_,h4⟩
  ·simp only[];rw[←g3];exact (QbZ i d [] e).2
  ·simp only[];rw[Qb0,mc];omega
  simp only[];obtain ⟨r1,h1⟩:=ju i d e;obtain ⟨r2',h2⟩:=hZ;exact ⟨r2'++r1,by rw[h1,h2,LC]⟩
 refine Qi ?_;have H:k<q.a.ed.length:=by have hS:(k:Int)<(q.a.ed.length:Int):=gt;omega
 have m8:=hq.ok.ed _ (Le H);have htk:q.a.ed.take (k+1)=q.a.ed.take k++[q.a.ed[k]'H]:=Lj H;have h6:(q.a.ed.take (k+1)).filter (λe=>lft lf e.2.2)=(q.a.ed.take k).filter (λe=>lft lf e.2.2)++if lft lf (q.a.ed[k]'H).2.2=true then [q.a.ed[k]'H] else []:=by
  rw[htk,Mb];congr 1;by_cases h:lft lf (q.a.ed[k]'H).2.2=true
  ·simp[h]
  simp[h]
 have hfll:((q.a.ed.take k).filter (λe=>lft lf e.2.2)).length≤k:=LT (My _ _) (by rw[LD];omega);refine Zh ((q.a.ed.take k).filter (λe=>lft lf e.2.2)) λkept hkept=>?_;rw[hkept] at h6 Y hfll;refine Zh (q.a.ed[k]'H) λe he=>?_;rw[he] at m8 h6;have m9:e.1=(e.1.toNat:Int):=by omega
 have gc:e.2.2=(e.2.2.toNat:Int):=by omega
 have gn:=qb (l:=lf) (s:=e.2.2) (by omega);have hw:e.1.toNat<q.n:=by omega
 refine Qg<|Qh<|Qc<|xie kq.a.ed Z Z H λa52 hS=>?_;rw[he] at hS;refine x (QJ hS Z Z)<|xl Z<|Qu (us:=[.int .i64 0,.int .i64 0,.int .i64 0]) Z λb7 w8 gu hb7 h7=>xl Z<|Qn (us:=QB e) h7 Z Z Z Z ⟨Z,Z,Z,La⟩ λE gv h7=>xe ?_;have I:Step [] w7 E:=gu.then1 gv hb7;have p6:=I.size;have hA9:=kq.ext I;have hB9:=hB.ext (gs.trans I);have ke:=Y.ext I;have hK:=gr.ext I
 refine Qg<|QU (Step [] E) [(0,true),(1,true),(2,true),(3,true),(4,true),(5,true),(6,true),(7,true)] mixed (by rfl) (by kernel_rfl) (Step.drew _ _) ?_;refine p (λ_=>Qm)<|p (λ_=>QE Z)<|p (λ_=>Qa Z)<|pq (λ_ hc=>Qd (hA9.B.ext hc) Z Z)<|p (λ_=>Qa Z)<|pq (λ_ hc=>Qd (h7.ext hc) Z Z) <|
  p (λ_=>QS (i:=e.2.2.toNat) Z (congrArg (Value.int .i64) gc) (by omega))<|pq (v:=.bool (lft lf e.2.2)) (λ_ hc=>(JK (i:=e.2.2.toNat) (hB9.ext hc) Z (by omega)).trans (by rw[gn]))<|pe ?_
 have h8:Step [] E { E with drawn:=E.drawn+1 }:=Step.drew _ _
 refine QW rfl (λkf=>?_) (λkf=>?_)
 ·rw[if_pos kf] at h6;have hrow:=ke.own _ hw;have kg:∀b∈ob (rv e.1.toNat),w6.heap.size≤b∧b<w7.heap.size:=λb hb=>⟨(Qq (Y.own _ hw) b hb).1,Q2 (Y.own _ hw) b hb⟩;have pa:bE∉ob (rv e.1.toNat):=λhb=>by have:=kg _ hb;omega
  have kh:b7∉ob (rv e.1.toNat):=λhb=>by have:=kg _ hb;omega
  have kr:=Qb9 kept e.1.toNat;refine QU (Step (ob (rv e.1.toNat)) E) [(0,true),(1,true),(2,true),(3,true),(4,true),(5,true),(6,true),(7,true),(8,true),(9,false),(10,false),(11,true),(12,false)] mixed (by rfl) (by kernel_rfl) (h8.any.trans' (Step.drew _ _)) ?_;refine p (λ_=>Qm)<|p (λ_=>Qa Z)<|pq (λ_ hc=>Qd (h7.step hc kh) Z Z)<|p (λ_=>Qm)<|p (λ_=>Qa Z) <|
   pq (λ_ hc=>Qd (h7.step hc kh) Z Z)<|p (λ_=>QS (i:=e.1.toNat) Z (congrArg (Value.int .i64) m9) hw)<|pq (λ_ hc=>Qd (u:=rv e.1.toNat) (hK.step hc pa) Z (Ue hw)) <|
   pq (λ_ hc=>Qp (h7.step hc kh) Z Z)<|pk<|QH (us:=[QB e]) Z Z (by decide) (by exact (by decide:1*3≤1000000)) ⟨Z,Z,La⟩ λb71 gx h3 hb71 hB71=>⟨(h8.any.trans' (Step.drew _ _)).trans' h3.any,?_⟩
  have h9:Step [] E gx:=(h8.trans (Step.drew _ _)).trans h3;have hz10:=h9.size;refine pk<|Q6 (m:=1) (news:=QB e) (L:=[]) (Qt hrow h9) Z Z Z (hB71.at (by simp)) (λu hu=>by simp only[QB,List.mem_cons,List.not_mem_nil,or_false] at hu;rcases hu with rfl | rfl | rfl <;> rfl) (by omega) (by omega) λvr j2 pc gj hn11=>⟨h9.any.trans' gj,?_⟩
  have hBE11:=(hK.ext h9).step gj pa;have hlen:((List.range q.n).map rv).length=q.n:=by simp
  refine p (λ_=>QS (i:=e.1.toNat) Z (congrArg (Value.int .i64) m9) hw)<|pkl (hl:=by kernel_rfl)<|QF (j:=0+e.1.toNat*1) (u:=vr) hBE11 Z Z (by rw[hlen];omega) (QO pc) λhp hf hBE12=>pe ?_;have g8:QT hp.heap bE 48 ((List.range q.n).map (KB rv e.1.toNat vr)):=by
   have e1:=QbP id q.n rv e.1.toNat vr;simp only[id] at e1;rw[←e1];simpa using hBE12
  have hvn:∀b∈ob vr,b∈ob (rv e.1.toNat)∨E.heap.size≤b:=λb hb=>(hn11 b hb).imp id (λh=>by omega);have pd:=ke.app hw (Ye.snoc pc) (h9.any.trans' gj) hvn;have pf:=pd.step hf (λi hi b hb=>by have:=(Qq (pd.own i hi) b hb).1;simp only[List.mem_singleton];omega);rw[Qgz kept e m8.1,←h6] at pf;refine Qx<|QQ Z Z<|Qb<|xe ?_
  exact ⟨(k+1,KB rv e.1.toNat vr),by simp only[];omega,Lb,H,(((hQ.trans I).trans h9).then gj (λb hb=>.inr (kg b hb).1)).trans' hf,g8,pf⟩
 rw[if_neg (by rw[kf];decide),LS] at h6;refine Qi<|Qx<|QQ Z Z<|Qb<|xe ?_;exact ⟨(k+1,rv),by simp only[];omega,Lb,H,(hQ.trans I).trans h8,(hK.ext h8),by simp only[];rw[h6];exact ke.ext h8⟩
open Go.Sort
abbrev Rz:={ x:Int×Int×Int×Int // 0≤x.1∧x.1<4096 }
instance:Inhabited Rz:=⟨⟨(0,0,0,0),by decide⟩⟩
abbrev zt (x:Rz):LV:=[.int .i64 x.1.1,.int .i64 x.1.2.1,.int .i64 x.1.2.2.1,.int .i64 x.1.2.2.2]
abbrev RzO (base:Nat) (w:World) (v:Value) (l:List Rz):Prop:=w.ownsRow base 269 4 v l.length (l.flatMap zt)
set_option maxHeartbeats 1000000 in
theorem QpM (x y:Rz) (W:World):Calls prog 149 #[.agg (zt x).toArray,.agg (zt y).toArray] W λe w'=>e=.returned (.int .i64 (x.1.1 - y.1.1))∧∃q os',w'=grow (W.drewN q) os':=by
 have E:IntKind.i64.wrap (x.1.1 - y.1.1)=x.1.1 - y.1.1:=XC ⟨by have:=x.2;have:=y.2;omega,by have:=x.2;have:=y.2;omega⟩
 go_enter func149,ntmps149
 go_wp2
 go_ret;exact ⟨by rw[←E];rfl,0,_,by rw[alloc_eq_grow,alloc_eq_grow,grow_grow];rfl⟩
theorem QaB (x:Rz):(zt x).length=4:=rfl
theorem QaA:∀l:List Rz,(l.flatMap zt).length=l.length*4
 | []=>rfl
 | x::l=>by rw[LY,Ll,QaA l,QaB,LF];omega
theorem Qe3 {l:List Rz}{j:Nat}(hj:j<l.length*4):(l.flatMap zt)[j]?=some ((flatK zt 4 l.toArray)[j]!):=by
 have h1:j / 4<l.length:=Nat.div_lt_of_lt_mul (by omega);have h2:j % 4<4:=Nat.mod_lt _ (by decide);rw[get_flatK _ _ _ _ (by simpa using hj)];have h3:=Ko zt 4 QaB l (j / 4) h1;have h4:(l.flatMap zt)[j]?=(zt (l[j / 4]'h1))[j % 4]?:=by
  rw[←h3,Mo,if_pos h2,M2];congr 1;omega
 rw[h4];have h5:(l.toArray)[j / 4]! = l[j / 4]'h1:=by simp[h1]
 rw[h5];have h6:j % 4<(zt (l[j / 4]'h1)).length:=h2;exact (LE h6).trans (congrArg some (getElem!_pos (zt (l[j / 4]'h1)) (j % 4) h6).symm)
theorem QnB:SWO (ltOf λx y:Rz=>x.1.1 - y.1.1) where
 irrefl x:=by unfold ltOf;simp
 trans x y z h1 h2:=by unfold ltOf at *;simp at *;omega
 ntrans x y z h1 h2:=by unfold ltOf at *;simp at *;omega
set_option maxHeartbeats 1000000 in
theorem Qgw {w:World}{base:Nat}{v:Value}{l:List Rz}(h:RzO base w v l) (hl:l.length≤1099511627776) :
  QG prog 148 [v,.func (.func 149) #[] #[]] w λ_ w'=>Step (ob v) w w'∧∃l',l'.length=l.length∧RzO base w' v l':=by
 unfold QG;rcases h.2 with ⟨rfl,Y⟩ | ⟨g,cap,cur,rfl,ha,H,hb,hf,hh,hm⟩
 ·have ho:l=[]:=Lt Y;subst ho;have hc:=AnyF.slices_SortFunc_none Tryz.sortRm none 0 (.func (.func 149) #[] #[]) w;change Calls prog 148 _ _ _ at hc;refine Calls.mono hc λe w' he=>?_;obtain ⟨rfl,rfl⟩:=he;exact ⟨Step.refl _ _,[],Z,h⟩
 have U:g<w.heap.size:=(LK.1 H).1;have hH:HoldsK zt 4 w g 0 l.toArray:=by
  intro j hj;rw[size_flatK,MM] at hj;have h1:=Qe3 hj;rw[←hm,Mo,if_pos hj] at h1;constructor
  ·show (match w.heap[g]? with | some (.cells c _ _)=>if (none:Option _).isSome then none else c[0+j]? | _=>none)=_
   rw[H];simp only[Nat.zero_add,Option.isSome_none,Bool.false_eq_true,if_false];rw[←Array.getElem?_toList,h1];rfl
  show (match w.heap[g]? with | some (.cells _ _ (lo,hi))=>decide (lo≤0+j) && decide (0+j<hi) | _=>false)=false
  rw[H];simp
 have eg:∀args w,(callFunc 149 args).run prog w=.ok (.enter 149 args) w:=enters_of func149 (by kernel_rfl) Z;have hc:=AnyQ.slices_SortFunc Tryz.sortRm 4 Tryz.isAgg269 Tryz.sizeOf269 zt QaB (λx v V=>by simp at V;rcases V with rfl | rfl | rfl | rfl <;> rfl) (λx y=>x.1.1 - y.1.1) QnB 149 #[] g 0 cap l.toArray w eg (λm os dk _ x y=>QpM x y _) hH U (by simp;omega)
 change Calls prog 148 _ _ _ at hc;rw[MM] at hc;refine Calls.mono hc λe w' he=>?_;obtain ⟨rfl,E,n,os,hp,_,rfl⟩:=he;have I:E.size=l.length:=by have:=hp.1;simpa using this
 have J:(sortWorldK zt 4 w g 0 n E os).heap=w.heap.modify g (onCells (putCells id 0 (flatK zt 4 E)))++os:=rfl;refine ⟨⟨rfl,Z,Z,?_,λk hk hn=>?_⟩,E.toList,by simpa using I,?_⟩
 ·rw[J,Array.size_append,Array.size_modify];omega
 ·rw[J,Array.getElem?_append,Array.size_modify,if_pos hk,Array.getElem?_modify,if_neg (λe=>hn (by simp[ob,e]))]
 refine ⟨QaA _,.inr ⟨g,cap,putCells id 0 (flatK zt 4 E) cur,by simp[I],ha,?_,by simp[I];exact hb,hf,by simp[putCells,hh],?_⟩⟩
 ·rw[J,Array.getElem?_append,Array.size_modify,if_pos U,Array.getElem?_modify,if_pos rfl,H];rfl
 apply List.ext_getElem?;intro j;rw[Mo];by_cases hj:j<E.toList.length*4
 ·rw[if_pos hj,Qe3 hj,Array.getElem?_toList];have hq:j<cur.size:=by simp[I] at hj;omega
  have hr:j<(flatK zt 4 E).size:=by simpa using hj
  simp only[putCells,Array.getElem?_mapIdx,Array.getElem?_eq_getElem hq,Option.map_some,Nat.zero_le,Nat.zero_add,true_and,if_pos hr,Nat.sub_zero,id]
 rw[if_neg hj,M1];rw[QaA];omega
theorem QnP {a:QD}{ul:LI}{lf:Lf}{n:Nat}(E:QM a) (H:a.st=(n:Int)) (hl:lf.length=n):∀x∈nxs a ul lf,0≤x∧x<(n:Int):=λx hx=>by
 have h1:=Qix x hx;have h2:x.toNat<n:=by
  refine Decidable.byContradiction λh=>?_;unfold lft at h1;simp[List.getD,List.getElem?_eq_none (show lf.length≤x.toNat by omega)] at h1
 unfold nxs at hx;split at hx
 ·obtain ⟨p,hp,rfl⟩:=Lq.1 hx;obtain ⟨_,e,he,h3,_⟩:=(Qa4 a ul lf).1 p hp;have:=E.ed e he;omega
 have:=((UP lf (dsts a lf) 0).1 x hx).2;omega
theorem Qm1 {rk rs:Int}:∀(l:List (Int×Int)),(∀x∈l.map (·.1),0≤x∧x<4096)→∃lz:List Rz,lz.flatMap zt=l.flatMap (rmC rk rs)∧lz.length=l.length
 | [],_=>⟨[],Z,Z⟩
 | x::l,h=>by
  obtain ⟨lz,h1,h2⟩:=Qm1 l (λy hy=>h y (Lk _ hy));exact ⟨⟨(x.1,rk,rs,x.2),h x.1 Lm⟩::lz,by rw[LY,LY,h1],by simp[h2]⟩
theorem Qfi:∀l:List Rz,∀u∈l.flatMap zt,u.oneCell'=true
 | [],u,h=>by cases h
 | x::l,u,h=>by
  rw[LY,Lp] at h;rcases h with h | h
  ·simp only[zt,List.mem_cons,List.not_mem_nil,or_false] at h;rcases h with rfl | rfl | rfl | rfl <;> rfl
  exact Qfi l u h
theorem RzO.snoc {base:Nat}{w:World}{v:Value}{l m:List Rz}(h:w.ownsRow base 269 4 v (l.length+m.length) (l.flatMap zt++m.flatMap zt)):RzO base w v (l++m):=by
 unfold RzO;rw[Ll,LH];exact h
abbrev X3 (k d r:Value) (n:Int):LV:=[k,d,r,.int .i64 n,nS,.int .i64 0,nS,nS,nS]
structure ReI (b10:Nat) (q:Pz) (wB:World) (lf:Lf) (rn:Int) (vr:Value) (lz:List Rz) (w:World):Prop where
 st:Step [b10,q.bl] wB w
 B10:QT w.heap b10 120 (X3 (nS) (nS) vr rn)
 R:RzO wB.heap.size w vr lz
 F:QT w.heap q.bl 4 (lf.map Value.bool)
 n:lf.length=q.n
section
variable {b10:Nat} {q:Pz} {wB w w' w'':World} {lf:Lf} {rn:Int} {vr:Value} {lz:List Rz}
theorem ReI.ext (h:ReI b10 q wB lf rn vr lz w) (hs:Step [] w w'):ReI b10 q wB lf rn vr lz w':=⟨h.st.trans hs,h.B10.ext hs,Qt h.R hs,h.F.ext hs,h.n⟩
theorem ReI.cut (h:ReI b10 q wB lf rn vr lz w) (l:q.bl<wB.heap.size) (ne:b10≠q.bl) (hs:Step [q.bl] w w') {E:Lf}(H:QT w'.heap q.bl 4 (E.map Value.bool)) (I:E.length=q.n):ReI b10 q wB E rn vr lz w' :=
 ⟨h.st.then hs (λb hb=>.inl (by simp only[List.mem_singleton] at hb;simp[hb])),h.B10.step hs (by simpa using ne),Qk h.R hs (λb hb=>by have:=(Qq h.R b hb).1;simp only[List.mem_singleton];omega),H,I⟩
theorem ReI.app (h:ReI b10 q wB lf rn vr lz w) (l:q.bl<wB.heap.size) (V:b10<wB.heap.size) (ne:b10≠q.bl) {E:Value}{I:List Rz}{J:Int}(hs:Step (ob vr) w w') (hR:RzO wB.heap.size w' E I) (H:Step [b10] w' w'')
  (U:QT w''.heap b10 120 (X3 (nS) (nS) E J)):ReI b10 q wB lf J E I w'':=by
 have hge:=Qq h.R;exact ⟨(h.st.then hs (λb hb=>.inr (hge b hb).1)).then H (λb hb=>.inl (by simp only[List.mem_singleton] at hb;simp[hb])),U,Qk hR H (λb hb=>by have:=(Qq hR b hb).1;simp only[List.mem_singleton];omega),
  (h.F.step hs (λhb=>by have:=(hge _ hb).1;omega)).step H (by simpa using ne.symm),h.n⟩
theorem ReI.rounds (h:ReI b10 q wB lf rn vr lz w) (J:b10<wB.heap.size) (ne:b10≠q.bl) {H:Int}(E:Step [b10] w w') (I:QT w'.heap b10 120 (X3 (nS) (nS) vr H)):ReI b10 q wB lf H vr lz w' :=
 ⟨h.st.then E (λb hb=>.inl (by simp only[List.mem_singleton] at hb;simp[hb])),I,Qk h.R E (λb hb=>by have:=(Qq h.R b hb).1;simp only[List.mem_singleton];omega),h.F.step E (by simpa using ne.symm),h.n⟩
end
set_option maxHeartbeats 8000000 in
theorem jz {w:World}{va vm ve vf vu:Value}{a:QD}{forb unc:LI}(h:Zq [] w.heap va vm ve a) (hz:QM a) (hf:QL [] w.heap vf forb) (gy:∀x∈forb,0≤x∧x<a.st) (zb:forb.length≤4096) (hu:QL [] w.heap vu unc) :
  QG prog 91 [.agg #[va,.int .i64 a.st,vm,ve],vf,vu,.bool true] w λr w'=>Step [] w w'∧∃c0 c1 c2 c3 sa sm se o,r=.agg #[c0,c1,c2,c3,sa,.int .i64 (X8 a forb unc).st,sm,se,o] ∧
   ZP [c0,c1,c2,c3,o]∧∀L:LN,(∀b∈L,b<w.heap.size)→Zq L w'.heap sa sm se (X8 a forb unc):=by
 have zv:=hz.st0;have z0:=hz.st1;obtain ⟨n,hn⟩:∃n:Nat,a.st=n:=⟨a.st.toNat,by omega⟩;have k4:a.st.toNat=n:=by omega
 have hE:X8 a forb unc=Ja a (KD a unc (n+1) (lf0 n forb)):=by unfold X8 YG;rw[k4]
 refine Zh (X8 a forb unc) λSA k5=>?_;rw[k5] at hE ⊢;refine QG.of_W func91 Z ntmps91 results91 (by simp) ?_;refine Qc<|xl Z<|QR (us:=[va,.int .i64 a.st,vm,ve]) Z λb4 w1 gz z1 k6=>xl Z<|Qu (us:=X3 (nS) (nS) (nS) 0) Z λb8 w2 g0 z2 g1=>xe ?_;have hG:=gz.trans g0;have z3:=g1.lt;have z4:=gz.size
 refine Qc<|x (Qp (k6.ext g0) Z Z)<|Qb<|Qb<|xl Z<|xf<|(QhK (h.ext hG) hz hn (hf.ext hG) gy (hu.ext hG)).mono ?_;rintro r3 w3 ⟨g2,bp,q,rfl,k7,k8,k9,z5,hP,hF⟩;refine Qf ?_;subst k7 k8 k9;have hq:PzQ q:=⟨hz,hn⟩;have ma:=hG.trans g2;have z9:=hF.lt;refine Qc<|xl Z<|Qu (us:=X3 (nS) (nS) (nS) 0) Z λb10 J h3 mc g3=>xe ?_;have hW:=ma.trans h3;have hz4:=h3.size
 have hH:=g3.lt;have hh:b10≠q.bl:=by omega
 have hX:q.bl<J.heap.size:=by omega
 have mf:PzA [b10,q.bl] J.heap bp q:=(hP.up (λb hb=>by
  simp only[List.mem_cons,List.not_mem_nil,or_false] at hb;rcases hb with rfl | rfl
  ·exact .inr mc
  exact .inl (by simp))).ext h3
 have mg:=QlJ q.n forb;have h4:∀{w'},Step [b10,q.bl] J w'→PzA [] w'.heap bp q:=λhs=>(mf.st hs).up (by simp);refine Qg<|Qc<|Qb<|x (Qr (hf.ext hW) Z)<|Qb<|xe ?_
 refine Qh<|Qz (α:=Nat×Int×Value×List Rz) [(12,12),(25,39)] (λz=>[(25,.int .i64 z.1)]) (λz w'=>z.1≤forb.length∧ReI b10 q J (lf0 q.n forb) z.2.1 z.2.2.1 z.2.2.2 w'∧z.2.2.2.length=z.1∧(z.2.1=0∨z.2.1=1)) (λz=>forb.length - z.1) (by rfl) (0,0,nS,[]) Lb
  ⟨Ln _,⟨Step.refl _ _,g3,QP _ _ _ _,hF.ext h3,mg⟩,Z,.inl Z⟩ ?_
 rintro ⟨k,rn,vr,lz⟩ g w5 ⟨hk,H,hY,hJ⟩;simp only[] at hk H hY hJ;have mh:QL [] w5.heap vf forb:=((hf.up (L':=[b10,q.bl]) (λb hb=>by
  simp only[List.mem_cons,List.not_mem_nil,or_false] at hb;exact .inr (by omega))).ext hW |>.st H.st).up (by simp)
 refine Qc<|x (QA Z Z)<|xe<|Qg<|QC Z (λg4=>?_) (λg4=>?_)
 ·refine Qy ?_;have hcl:=Qbp (lf0 q.n forb);refine Qg<|Qc<|Qf<|Qh<|Qz (α:=Nat×Nat×Int×Value×List Rz×Lf) [(13,14),(16,16),(40,71)] (λz=>[(13,.int .i64 z.2.1)])
   (λz w'=>ReI b10 q J z.2.2.2.2.2 z.2.2.1 z.2.2.2.1 z.2.2.2.2.1 w'∧z.2.1+z.1=q.n+3∧z.2.2.2.2.1.length≤4096+z.2.1*1000000∧KD q.a q.unc z.1 z.2.2.2.2.2=KD q.a q.unc (q.n+1) (lf0 q.n forb)∧Vc z.2.2.2.2.2+1≤z.1) (λz=>z.1) (by rfl)
   (q.n+1,2,rn,vr,lz,lf0 q.n forb) Lb ⟨H,by simp only[];omega,by simp only[];omega,Z,by simp only[];omega⟩ ?_
  rintro ⟨f,rank,rn,vr,lz,lf⟩ g w6 ⟨H,mj,hY,h5,mo⟩;simp only[] at H mj hY h5 mo;refine Qg<|Qh<|Qc<|Qb<|Qb<|Qb<|xl Z<|xf<|(Qin (h4 H.st) hq H.F H.n rank).mono ?_;rintro r7 w7 ⟨hM,rs,l,hZ,hN,hll7⟩;refine Qf ?_;have U:=H.ext hM;have g5:ZA [] w7.heap r7 l.length 4 (l.flatMap (rmC rank rs)):=QX hZ (by omega) (by simp)
  have g6:(nxs q.a q.unc lf).length=l.length:=by rw[←hN,Li]
  have ga:=QnP (ul:=q.unc) hz hn H.n;rw[←hN] at ga;refine Qg<|Qc<|Qb<|x (Qr g5 Z)<|x (Zr Z Z)<|xe<|Q3 Z (λgb=>?_) (λgb=>?_)
  ·refine Qy ?_;have hO:l.length=0:=by have h49:(l.length:Int)=0:=gb;omega
   rw[QgB (by rw[g6];exact hO)] at h5;rw[←h5] at hE;refine Qc<|x (Qa Z)<|x (Qa Z)<|x (Qd U.B10 Z Z)<|xl Z<|xf<|(Qgw U.R (by omega)).mono ?_;rintro r8 V ⟨Y,lz8,_,mq⟩;refine xe ?_;have hge:=Qq U.R;have gc:Step [b10,q.bl] J V:=U.st.then Y (λb hb=>.inr (hge b hb).1);have ge:QT V.heap b10 120 (X3 (nS) (nS) vr rn):=U.B10.step Y (λhb=>by have:=(hge _ hb).1;omega)
   have g7:QT V.heap q.bl 4 (lf.map Value.bool):=U.F.step Y (λhb=>by have:=(hge _ hb).1;omega);have g8:=QO mq;have hz8:=gc.size;refine Qg<|Qc<|Qb<|xl Z<|xf<|(UH (h4 gc) hq g7 U.n).mono ?_;rintro r9 E ⟨ha,bD,rfl,hbD,g9,hQ⟩;refine Zh (dsts q.a lf) λD hD=>?_;rw[hD] at g9 hQ;have ka:QL [b10] E.heap (.slice (some ⟨bD,0,none⟩) q.n q.n) D:=by
    have h1:=g9.arr (L:=[b10]) (by simp only[List.mem_singleton];omega) (n:=q.n) (cap:=q.n) (sz:=1) (by simp[hQ]) (by omega) (Lv _);unfold QL;rw[hQ];exact h1
   have ms:=gc.trans ha;have hz9:=ha.size;have mt:=g7.ext ha;refine x (Qr ka Z)<|Qb<|xe<|Qh<|Qz (α:=Nat×Value×Value×LI×LI) [(17,18),(79,107)] (λz=>[(79,.int .i64 z.1)])
    (λz w'=>z.1≤D.length∧Step [b10] E w'∧QT w'.heap b10 120 (X3 z.2.1 z.2.2.1 vr rn)∧Qs 3 E.heap.size w' z.2.1 z.2.2.2.1∧Qs 3 E.heap.size w' z.2.2.1 z.2.2.2.2∧Dj z.2.1 z.2.2.1∧z.2.2.2.1.length≤z.1∧z.2.2.2.2.length≤z.1) (λz=>D.length - z.1) (by rfl) (0,nS,nS,[],[]) Lb
    ⟨Ln _,Step.refl _ _,ge.ext ha,QP _ _ _ _,QP _ _ _ _,Dj.nil' _,Lv _,Lv _⟩ ?_
   rintro ⟨i,vk,vd,lk,ld⟩ g h6 ⟨hi,he,h7,hK,hp,hR,mu,mv⟩;simp only[] at hi h7 hK hp hR mu mv;have hz10:=he.size;have hS:Step [b10,q.bl] J h6:=ms.then he (λb hb=>.inl (by simp only[List.mem_singleton] at hb;simp[hb]));have kb:QT h6.heap q.bl 4 (lf.map Value.bool):=mt.step he (by simpa using hh.symm);refine Qc<|x (QA Z Z)<|xe ?_
   refine Qg<|QC Z (λkc=>?_) (λkc=>?_)
   ·refine Qy<|Qc<|Qb<|xl Z<|xf<|(zF (h4 hS) hq kb U.n).mono ?_;rintro r11 mw ⟨hr,_,o,rfl,⟨sa,sm,se,rfl,gg⟩,gh⟩;rw[←hE] at gg;have ht:=gg [] (by simp);refine Qb<|x (Qj Z Z)<|x (Qj Z Z)<|x (Qa Z)<|xl Z<|Vu (us:=[sa,.int .i64 SA.st,sm,se]) (h7.ext hr) Z (by rw[←hE];rfl) Z (by simp) ⟨ht.al.one,rfl,ht.mr.one,ht.ed.one,La⟩ rfl λw12 gi mx =>
     x (Qa rfl)<|xl Z<|QF (j:=8) (u:=o) mx Z Z (by simp) gh λw13 gj my=>xe ?_
    have mz:b8∉[b10,q.bl]:=by simp only[List.mem_cons,List.not_mem_nil,or_false];omega
    have ke:b8∉[b10]:=by simp only[List.mem_singleton];omega
    have m0:=(((((g1.ext (g2.trans h3)).step hS mz).ext hr).step gi ke).step gj ke);refine Qc<|x (Qp my Z Z)<|xl Z<|Qn (us:=[vk,vd,vr,.int .i64 rn,sa,.int .i64 SA.st,sm,se,o]) m0 Z Z Z Z ⟨QO hK,QO hp,g8,Z,ht.al.one,Z,ht.mr.one,ht.ed.one,gh,La⟩ λm1 kf m2=>xe ?_
    have m3:∀b∈[b10,q.bl],w.heap.size≤b:=λb hb=>by simp only[List.mem_cons,List.not_mem_nil,or_false] at hb;omega
    have m4:Step [] w m1:=((((hW.then hS (λb hb=>.inr (m3 b hb))).trans hr).then1 gi (by omega)).then1 gj (by omega)).then1 kf (by omega);refine Ql ⟨[.agg [vk,vd,vr,.int .i64 rn,sa,.int .i64 SA.st,sm,se,o].toArray],⟨⟨_,Z,Qw Z (m2.at (L:=[]) (by simp)).cells⟩,La⟩,m4,vk,vd,vr,.int .i64 rn,sa,sm,se,o,rfl,⟨QO hK,QO hp,g8,rfl,gh,La⟩,λL hL=>?_⟩
    have h1:=gg (b10::b8::L) (λb hb=>by
     simp only[List.mem_cons] at hb;rcases hb with rfl | rfl | hb
     ·omega
     ·omega
     have:=hL b hb;omega)
    have h2:=((h1.st (gi.mono (by simp))).st (gj.mono (by simp))).st (kf.mono (by simp));exact h2.up (λb hb=>.inl (by simp[hb]))
   refine Qi ?_;have h8:i<D.length:=by have h81:(i:Int)<(D.length:Int):=kc;omega
   have gk:i<lf.length:=by rw[U.n,←hQ];exact h8
   have m5:lf[i]'gk=lf.getD i false:=by simp[List.getD,gk]
   refine Qg<|Qh<|Qc<|Qb<|xii (i:=i) (ka.st he) Z Z h8 λa82 kg=>?_;refine Zh (D[i]'h8) λd hd=>?_;rw[hd] at kg;refine x (Qv kg Z)<|x Qe<|Qf<|Qc<|Qb<|x (QE Z)<|x (Qa Z)<|x (Qd (h4 hS).B Z Z)<|Qb<|x (QS (i:=i) Z Z (by omega))<|x (v:=.bool (lf.getD i false)) ((JK (i:=i) kb Z gk).trans (by rw[m5]))<|xe<|QW Z (λm6=>?_) (λm6=>?_)
   ·have h9:∀{v:Value} {l:LI} {w':World},Qs 3 E.heap.size w' v l→b10∉ob v:=λho hm=>by have:=(Qq ho b10 hm).1;omega
    refine Qc<|x (Qa Z)<|x (Qa Z)<|x (Qd h7 Z Z)<|Qb<|xl Z<|QH (us:=[[.int .i64 i]]) Z Z (by decide) (by simp) ⟨rfl,rfl,La⟩ λb95 y1 hv hb95 m7=>xl rfl<|Q6 (m:=1) (news:=[.int .i64 i]) (L:=[]) (Qt hK hv) rfl rfl rfl (m7.at (by simp)) (by simp[Value.oneCell']) (by omega) (by have:=hv.size;omega) λhA y2 kh hT m8 =>
     x (Qa rfl)<|x (Qa Z)<|xl Z<|QF (j:=0) (u:=hA) ((h7.ext hv).step hT (h9 hK)) Z Z (by simp) (QO kh) λy3 gl ki=>xe ?_
    have m9:Qs 3 E.heap.size y2 hA (lk++[(i:Int)]):=Qs.snoc kh;have hzy1:=hv.size;have hzy2:=hT.size;have hzy3:=gl.size;have pa:Qs 3 E.heap.size y2 vd ld:=Qk (Qt hp hv) hT (λb hb hm=>hR b hm hb);have kj:Dj hA vd:=λb hb hm=>by
     rcases m8 b hb with h1 | h1
     ·exact hR b h1 hm
     have:=Q2 hp b hm;omega
    have kk:∀{v:Value} {l:LI},Qs 3 E.heap.size y2 v l→Qs 3 E.heap.size y3 v l:=λho=>Qk ho gl (λb hb hm=>by simp only[List.mem_singleton] at hm;subst hm;exact h9 ho hb);have kn:=kk m9;have gm:=kk pa;have pc:Step [b10] E y3:=(((he.trans hv).then hT (λb hb=>.inr (Qq hK b hb).1))).trans' gl
    refine Qx<|x (Qa Z)<|x (Qa Z)<|x (Qd ki Z Z)<|Qb<|xl Z<|QH (us:=[[.int .i64 d]]) Z Z (by decide) (by simp) ⟨rfl,rfl,La⟩ λb103 y4 hw hb103 pd=>xl rfl<|Q6 (m:=1) (news:=[.int .i64 d]) (L:=[]) (Qt gm hw) rfl rfl rfl (pd.at (by simp)) (by simp[Value.oneCell']) (by omega) (by have:=hw.size;omega) λgn y5 ko gq pf =>
     x (Qa rfl)<|x (Qa Z)<|xl Z<|QF (j:=1) (u:=gn) ((ki.ext hw).step gq (h9 gm)) Z Z (by simp) (QO ko) λy6 gr pg=>xe ?_
    have kp:Qs 3 E.heap.size y5 gn (ld++[d]):=Qs.snoc ko;have kq:Qs 3 E.heap.size y5 hA (lk++[(i:Int)]):=Qk (Qt kn hw) gq (λb hb hm=>kj b hb hm);have hzy4:=hw.size;refine Qx<|QQ Z Z<|Qb<|xe ?_
    refine ⟨(i+1,hA,gn,_,_),by simp only[];omega,Lb,h8,(((pc.trans hw).then gq (λb hb=>.inr (Qq gm b hb).1))).trans' gr,pg,Qk kq gr (λb hb hm=>by simp only[List.mem_singleton] at hm;subst hm;exact h9 kq hb),Qk kp gr (λb hb hm=>by simp only[List.mem_singleton] at hm;subst hm;exact h9 kp hb),λb hb hm=>?_,by simp only[List.length_append,List.length_singleton];omega,by simp only[List.length_append,List.length_singleton];omega⟩
    rcases pf b hm with h1 | h1
    ·exact kj b hb h1
    have:=Q2 kn b hb;omega
   refine Qi<|Qx<|QQ Z Z<|Qb<|xe ?_;exact ⟨(i+1,vk,vd,lk,ld),by simp only[];omega,Lb,h8,he,h7,hK,hp,hR,by simp only[];omega,by simp only[];omega⟩
  refine Qi ?_;have hO:¬l.length=0:=λe=>gb (by show (l.length:Int)=0;omega);have kr:(nxs q.a q.unc lf).length≠0:=by rw[g6];exact hO
  have ph:=zJ kr;refine Exists.elim (MR (show f≠0 by omega)) λf' pj=>?_;subst pj;rw[U2 kr,←hN] at h5;rw[←hN] at ph;refine Exists.elim (Qm1 (rk:=(rank:Int)) (rs:=rs) l (λx hx=>by have:=ga x hx;omega)) λln hB=>?_;refine Qg<|Qc<|Qb<|x (Qr g5 Z)<|Qb<|xe ?_
  refine Qh<|Qz (α:=Nat) [(16,16),(51,62)] (λz=>[(51,.int .i64 z)]) (λz w'=>z≤l.length∧Step [q.bl] w7 w'∧ReI b10 q J (((l.take z).map (·.1)).foldl cut lf) rn vr lz w') (λz=>l.length - z) (by rfl) 0 Lb ⟨Ln _,Step.refl _ _,U⟩ ?_;rintro j g V ⟨hj,Y,I⟩;have hJ:∀b∈ob r7,b≠q.bl:=λb hb e=>by have:=(Qq hZ b hb).1;have:=H.st.size;omega
  have pn:RmO w6.heap.size V r7 rank rs l:=Qk hZ Y (λb hb hm=>hJ b hb (by simpa using hm));have kt:ZA [q.bl] V.heap r7 l.length 4 (l.flatMap (rmC rank rs)):=QX pn (by omega) (λb hb hm=>hJ b hb (by simpa using hm));refine Qc<|x (QA Z Z)<|xe<|Qg<|QC Z (λgs=>?_) (λgs=>?_)
  ·refine Qy ?_;have po:l.length≤j:=by have hU:¬(j:Int)<(l.length:Int):=gs;omega
   rw[Ls po] at I;obtain ⟨ad,cap7,pp,_,pt⟩:∃ad cap,r7=.slice (some ad) l.length cap∧l.length≤cap∧At [q.bl] V.heap ad (l.flatMap (rmC rank rs)):=by
    rcases kt.2.2 with ⟨_,h0⟩ | h1
    ·exact absurd h0 hO
    exact h1
   refine Qc<|x (Qa Z)<|x (Qa Z)<|x (Qd I.B10 Z Z)<|Qb<|xl Z<|Q6 (m:=l.length) (news:=l.flatMap (rmC rank rs)) (L:=[q.bl]) I.R Z pp (by rw[←hB.1,QaA,hB.2]) pt (by rw[←hB.1];exact Qfi ln) (by omega) I.st.size λgt pu ku kv hn22 =>
    x (Qa Z)<|x (Qa Z)<|xl Z<|QF (j:=2) (u:=gt) (I.B10.step kv (λhb=>by have:=(Qq I.R _ hb).1;omega)) Z Z (by simp) (QO ku) λw23 pw pz=>xe ?_
   have p0:RzO J.heap.size pu gt (lz++ln):=RzO.snoc (by rw[hB.1,hB.2];exact ku);have kw:=I.app hX hH hh kv p0 pw pz;refine Qx<|Qb<|x (Qa Z)<|xl Z<|QF (j:=3) (u:=.int .i64 rank) kw.B10 Z Z (by simp) rfl λw24 p4 p5=>xe ?_;have p6:=kw.rounds hH hh p4 p5;have p7:(-9223372036854775808:Int)≤(rank:Int)+1:=by omega
   have p8:(rank:Int)+1≤9223372036854775807:=by omega
   refine Qx<|Qb<|x (JL Z Z ⟨p7,p8⟩)<|Qf ?_;exact ⟨(f',rank+1,(rank:Int),gt,lz++ln,(l.map (·.1)).foldl cut lf),by simp only[];omega,Lb,p6,by simp only[];omega,by simp only[List.length_append];omega,h5,by simp only[];omega⟩
  refine Qi ?_;have hg:j<l.length:=by have hU:(j:Int)<(l.length:Int):=gs;omega
  have p9:l.take (j+1)=l.take j++[l[j]'hg]:=Lj hg;have kx:((l.take (j+1)).map (·.1)).foldl cut lf=cut (((l.take j).map (·.1)).foldl cut lf) (l[j]'hg).1:=by rw[p9,Ly,Mv];rfl
  have qc:=ga (l[j]'hg).1 (LW (Le hg));refine Zh (l[j]'hg) λy hy=>?_;rw[hy] at kx qc;have qo:y.1=(y.1.toNat:Int):=by omega
  refine Qg<|Qh<|Qc<|xig (g:=rmC rank rs) (i:=j) (Qe6 rank rs) kt Z Z hg λa53 hU=>?_;rw[hy] at hU;refine x (QJ hU Z Z)<|xl Z<|Qu (us:=[.int .i64 0,.int .i64 0,.int .i64 0,.int .i64 0]) Z λb16 E ha qr gu=>xl Z<|Qn (us:=rmC rank rs y) gu Z Z Z Z ⟨Z,Z,Z,Z,La⟩ λh6 he gu=>xe ?_;have kz:Step [] V h6:=ha.then1 he qr;have gv:=I.ext kz;have q0:=I.n
  refine QU (Step [] h6) [(0,true),(1,true),(2,true),(3,true),(4,true),(5,true),(6,true),(7,false)] mixed (by rfl) (by kernel_rfl) (Step.drew _ _) ?_;refine p (λ_=>Qm)<|p (λ_=>QE Z)<|p (λ_=>Qa Z)<|pq (λ_ hc=>Qd ((h4 gv.st).B.ext hc) Z Z)<|p (λ_=>Qa Z)<|pq (λ_ hc=>Qd (gu.ext hc) Z Z) <|
   p (λ_=>QS (i:=y.1.toNat) Z (congrArg (Value.int .i64) qo) (by omega))<|pkl (hl:=by kernel_rfl)<|zH (i:=y.1.toNat) (gv.F.ext (Step.drew _ _)) Z Z (by omega) λmw hr q4=>pe ?_
  refine Qx<|QQ Z Z<|Qb<|xe<|⟨j+1,by omega,Lb,hg,((Y.trans kz).trans (Step.drew _ _)).trans' hr,?_⟩;rw[kx];exact (gv.ext (Step.drew _ _)).cut hX hh hr q4 (by rw[Qf1];exact q0)
 refine Qi ?_;have hV:k<forb.length:=by have gx:(k:Int)<(forb.length:Int):=g4;omega
 have q9:=gy _ (Le hV);refine Zh (forb[k]'hV) λy hy=>?_;rw[hy] at q9;refine Qg<|Qh<|Qc<|xii (i:=k) mh Z Z hV λa27 gx=>?_;rw[hy] at gx;refine x (Qv gx Z)<|Qf<|Qc<|x (Qa Z)<|x (Qa Z)<|x (Qd H.B10 Z Z)<|Qb<|x (QN ⟨Z,Z,Z,Z,La⟩)<|xl Z<|QH (us:=[[.int .i64 y,.int .i64 1,.int .i64 1,.int .i64 (-1)]]) Z Z (by decide) (by simp) ⟨rfl,rfl,La⟩ λb34 w6 j1 hb34 j2=>?_
 have hC:=H.ext j1;refine xl rfl<|Q6 (m:=1) (news:=[.int .i64 y,.int .i64 1,.int .i64 1,.int .i64 (-1)]) (L:=[]) hC.R Z Z Z (j2.at (by simp)) (by simp[Value.oneCell']) (by omega) hC.st.size λv7 w7 k0 hM hn7 =>
  x (Qa rfl)<|x (Qa Z)<|xl Z<|QF (j:=2) (u:=v7) (hC.B10.step hM (λhb=>by have:=(Qq hC.R _ hb).1;omega)) Z Z (by simp) (QO k0) λV Y ge=>xe ?_
 have j3:RzO J.heap.size w7 v7 (lz++[⟨(y,1,1,-1),by simp only[];omega⟩]):=RzO.snoc k0;have I:=hC.app hX hH hh hM j3 Y ge;refine Qx<|x (Qa Z)<|xl Z<|QF (j:=3) (u:=.int .i64 1) I.B10 Z Z (by simp) rfl λE ha j4=>xe ?_;have za:=I.rounds hH hh ha j4;refine Qx<|QQ Z Z<|Qb<|xe ?_
 exact ⟨(k+1,1,v7,_),by simp only[];omega,Lb,hV,za,by simp only[List.length_append,List.length_singleton];omega,.inr Z⟩
instance:Bw prog 120 (X3 (nS) (nS) (nS) 0) [(0,3),(3,1),(4,4),(8,1)]:=⟨by kernel_rfl,by decide⟩
theorem Qnx {c:Q4}{pl:QD}{ps:List (LI)}{l:List (LI)}:∀r∈spF c pl ps l,0≤r.st∧r.st<(l.length:Int):=λr E=>by
 unfold spF at E;obtain ⟨⟨t,i⟩,hp,h1⟩:=MD.1 E;have hi:=List.snd_lt_add_of_mem_zipIdx hp;simp only[Nat.zero_add] at hi;have h2:r.st=(i:Int):=by
  simp only[] at h1;unfold rsn at h1;split at h1
  ·cases h1;rfl
  split at h1
  ·cases h1;rfl
  cases h1
 omega
theorem QhU {c:Q4}(h:Xh c=0):QM (spc c).a∧(∀x∈fbs (spc c),0≤x∧x<(spc c).a.st)∧(fbs (spc c)).length≤4096∧(spc c).fb.length≤4096∧JD c.ev=0:=by
 unfold Xh at h;by_cases h1:Zf c≠0
 ·rw[if_pos h1] at h;exact absurd h h1
 rw[if_neg h1] at h;have hck:Zf c=0:=Lo.1 h1;have E:=Yd hck;by_cases h2:JP (auts c.co)≠0
 ·rw[if_pos h2] at h;exact absurd h h2
 rw[if_neg h2] at h;cases hs:sync (auts c.co) with
 | none=>rw[hs] at h;cases h
 | some z =>
  rw[hs] at h;simp only[] at h;by_cases h3:JP (auts c.co++auts c.rq)≠0
  ·rw[if_pos h3] at h;exact absurd h h3
  rw[if_neg h3] at h;cases H:sync (auts c.co++auts c.rq) with
  | none=>rw[H] at h;cases h
  | some y =>
   have I:∀a∈auts c.co++auts c.rq,QM a:=λa ha=>by
    rcases Lp.1 ha with ha | ha
    ·exact XN E.co a ha
    exact XN E.rq a ha
   have hsp:=(Yj I (A:=y.1) (Q:=y.2) H).1;have he:=QdG (c:=c) (pl:=z.1) (ps:=z.2) (sa:=y.1) (ts:=y.2) hs H;have hl:=Qe1 c z.1 z.2 y.2;have U:=hsp.le;rw[he];unfold fbs;refine ⟨hsp.okay I,λx hx=>?_,by rw[Li];simp only[];omega,by simp only[];omega,E.e0⟩;obtain ⟨r,J,rfl⟩:=Lq.1 hx;have:=Qnx r J;rw[hsp.st];exact this
theorem st4 (r:Rsn):(YO r).length=4:=rfl
set_option maxHeartbeats 4000000 in
theorem Qdy {L:LN}{w:World}{c:CL}(h0:ZS L w.heap c) (hQ:Kb w 4096) :
  QG prog 43 [c.val] w λr w'=>Step [] w w'∧∃us c0 V Y c3 sa sm se o,r=.tuple #[.agg us.toArray,.agg #[c0,V,Y,c3,sa,.int .i64 (if Xh c.cel=0 then (Jp c.cel).st else 0),sm,se,o],.int .i64 (Xh c.cel)]∧us.length=8∧ZP us∧ZP [c0,V,Y,c3,sa,sm,se,o] ∧
   (Xh c.cel≠0→sa=nS∧sm=nS∧se=nS)∧(Xh c.cel=0→∀L:LN,(∀b∈L,b<w.heap.size)→Zq L w'.heap sa sm se (Jp c.cel)):=by
 have h:=h0.up (L':=[]) (by simp);have hn:Jp c.cel=X8 (spc c.cel).a (fbs (spc c.cel)) (unc c.cel.ev):=rfl;have hR:c.cel.ev=c.ev:=rfl;have ho:=QhU (c:=c.cel);refine Zh (Jp c.cel) λSA hT=>?_;rw[hT] at hn ⊢;refine Zh (Xh c.cel) λE hE=>?_;rw[hE] at ho ⊢;refine Zh (spc c.cel) λS hS=>?_;rw[hS] at ho hn;rw[hR] at ho hn;refine QG.of_W func43 Z ntmps43 results43 (by simp) ?_
 refine Qc<|xl Z<|QR (us:=c.cells) Z λb1 w1 hC gz hD=>xl Z<|Qu (us:=[nS,.int .i64 0,nS,nS,nS,nS,nS,nS]) Z λb2 w2 h2 g0 hp=>xl Z<|Qu (us:=X3 (nS) (nS) (nS) 0) Z λb3 w3 hq g1 hs=>Qf ?_;have h3:=(hC.trans h2).trans hq;have g2:=hC.size;have g3:=hp.lt;have g4:=hs.lt;have hsp:=QeB (h.ext h3) (hQ.ext h3);rw[hE,hS] at hsp
 refine Qc<|x (Qp ((hD.ext h2).ext hq) Z Z)<|xl Z<|xf<|hsp.mono ?_;rintro r4 w4 ⟨hh,v,rfl,⟨us,rfl,h4,h5⟩,hF⟩;have g5:=hh.size;refine Qb<|x (Qj Z Z)<|x (Qj Z Z)<|xl Z<|Qu (us:=[nS,.int .i64 0,nS,nS,nS,nS,nS,nS]) Z λb5 w5 hV hW hi=>xl Z<|Qn (us:=us) hi Z Z h4 Z h5 λw6 hX hi=>Qf ?_;have ha:Step [] w4 w6:=hV.then1 hX hW;have h6:=(h3.trans hh).trans ha
 have hG:=(hp.ext (hq.trans hh)).ext ha;have hH:=(hs.ext hh).ext ha;have g6:=hi.lt;refine Qg<|Qc<|Qb<|x (Q8 Z Z)<|xe<|Q3 rfl (λht=>?_) (λht=>?_)
 ·refine Qc<|x (ZF [] La)<|x (ZF [] La)<|Qb<|xl Z<|Qn (us:=[nS,.int .i64 0,nS,nS,nS,nS,nS,nS]) hG Z Z Z Z ⟨Z,Z,Z,Z,Z,Z,Z,Z,La⟩ λw7 H hY =>
   xl rfl<|Qn (us:=X3 (nS) (nS) (nS) 0) (hH.step H (by simp only[List.mem_singleton];omega)) Z Z Z Z ⟨Z,Z,Z,Z,Z,Z,Z,Z,Z,La⟩ λw8 hu hZ=>Qf<|Ql ⟨[.agg [nS,.int .i64 0,nS,nS,nS,nS,nS,nS].toArray,.agg (X3 (nS) (nS) (nS) 0).toArray,.int .i64 E],⟨⟨_,Z,Qw Z ((hY.step hu (by simp only[List.mem_singleton];omega)).at (L:=[]) (by simp)).cells⟩,⟨_,rfl,Qw rfl (hZ.at (L:=[]) (by simp)).cells⟩,rfl,La⟩,(h6.then1 H (by omega)).then1 hu (by omega),[nS,.int .i64 0,nS,nS,nS,nS,nS,nS],nS,nS,nS,.int .i64 0,nS,nS,nS,nS,by rw[if_neg ht];rfl,Z,⟨Z,Z,Z,Z,Z,Z,Z,Z,La⟩,⟨Z,Z,Z,Z,Z,Z,Z,Z,La⟩,λ_=>⟨Z,Z,Z⟩,λe=>absurd e ht⟩
 have hv:E=0:=Lo.1 ht;obtain ⟨ga,gb,gc,g7,hI⟩:=ho hv;obtain ⟨va,vm,ve,v1,v2,v3,v4,cos,rqs,ge,_,_,gg⟩:=hF hv;have gh:us=[va,.int .i64 S.a.st,vm,ve,v1,v2,v3,v4]:=by
  have h1:=congrArg (λv=>match v with | Value.agg a=>a.toList | _=>[]) ge
  simpa using h1
 subst gh;have hJ:=(gg [] (by simp));have gi:=hJ.1.ext ha;have hK:=hJ.2.2.2.2.ext ha;refine Qi<|Qc<|Qf<|Qg<|Qc<|x (Qa Z)<|x (Qd hi Z Z)<|x (Qr hK Z)<|Qb<|xe ?_
 refine Qh<|Qz (α:=Nat×Value) [(7,7),(9,9),(24,33)] (λz=>[(7,z.2),(24,.int .i64 z.1)]) (λz w'=>z.1≤S.fb.length∧Step [] w6 w'∧Qs 3 w6.heap.size w' z.2 ((S.fb.take z.1).map (·.st))) (λz=>S.fb.length - z.1) (by rfl) (0,nS) ⟨Z,Z,La⟩ ⟨Ln _,Step.refl _ _,QP _ _ _ _⟩ ?_;rintro ⟨k,vf⟩ g w7 ⟨hk,H,U⟩;simp only[] at hk U;refine Qc<|x (QA Z Z)<|xe<|Qg<|QC Z (λh7=>?_) (λh7=>?_)
 ·refine Qy ?_;have gj:S.fb.length≤k:=by have hw:¬(k:Int)<(S.fb.length:Int):=h7;omega
  rw[Ls gj] at U;have U:Qs 3 w6.heap.size w7 vf (fbs S):=U;have gk:=h6.trans H;have gl:=H.size;refine Qc<|x (Qa Z)<|x (Qd ((hD.ext (h2.trans hq)).ext ((hh.trans ha).trans H)) Z Z)<|xl Z<|xf<|(Qaj (h.ev.ext gk)).mono ?_;rintro g8 J ⟨he,vu,rfl,hU⟩;rw[if_pos hI] at hU;refine Qb<|x (Qj Z Z)<|x (Qj Z Z)<|x Qe<|Qf<|Qg<|Qc<|Qb<|x (Q8 Z Z)<|xe ?_
  refine Q3 Z (λgm=>absurd hI gm) (λ_=>?_);refine Qi ?_;have h4:(unc c.ev).length≤1099511627776:=LT (Ut _ c.ev 0) h.ev.arr.le;have hf:=H.trans he;have gn:=gi.ext hf;have hy:Step [] J { J with drawn:=J.drawn+1 }:=Step.drew _ _
  have hM:=hi.ext hf;have hN:b5∉[b2]:=by simp only[List.mem_singleton];omega
  have g9:=hf.size;refine Qg<|QU (Step [b2] J) [(0,true),(1,true),(2,true),(3,true),(4,true),(5,false),(6,false),(7,false),(8,true)] mixed (by rfl) (by kernel_rfl) (Step.drew _ _) ?_;refine pq (λ_ hc=>Qp (hM.step hc hN) Z Z)<|p (λ_=>Qa Z)<|pq (λ_ hc=>ZI (us:=[va,.int .i64 S.a.st,vm,ve]) (hM.step hc hN) Z Z Z) <|
   p (λ_=>Qm)<|p (λ_=>Qm)<|pk<|xf<|(jz (gn.ext hy) ga (((Qs.ints (L:=[]) U (by omega) (by simp)).ext he).ext hy) gb gc ((Qs.ints (L:=[]) hU h4 (by simp)).ext hy)).mono ?_
  rintro ka kb ⟨gq,c0,V,Y,c3,sa,sm,se,o,rfl,I,h8⟩;have hj:=hy.trans gq;refine ⟨hj.any,?_⟩;have hO:X8 S.a (fbs S) (unc c.ev)=SA:=hn.symm;rw[hO] at h8;have hg:=h8 [] (by simp);refine pk<|Qn (us:=[va,.int .i64 S.a.st,vm,ve,v1,v2,v3,v4]) ((hG.ext hf).ext hj) Z Z Z Z h5 λkc hz hp=>⟨hj.any.trans' hz,?_⟩
  refine pkl (hl:=by kernel_rfl)<|Qn (us:=[c0,V,Y,c3,sa,.int .i64 SA.st,sm,se,o]) (((hH.ext hf).ext hj).step hz (by simp only[List.mem_singleton];omega)) Z (by rw[←hO];rfl) Z Z ⟨I.1,I.2.1,I.2.2.1,I.2.2.2.1,hg.al.one,Z,hg.mr.one,hg.ed.one,I.2.2.2.2.1,La⟩ λke h9 hs=>p (λ_=>Qe)<|pe ?_;have gr:b2∉[b3]:=by simp only[List.mem_singleton];omega
  refine Ql ⟨[.agg [va,.int .i64 S.a.st,vm,ve,v1,v2,v3,v4].toArray,.agg [c0,V,Y,c3,sa,.int .i64 SA.st,sm,se,o].toArray,.int .i64 0],⟨⟨_,Z,Qw Z ((hp.step h9 gr).at (L:=[]) (by simp)).cells⟩,⟨_,rfl,Qw rfl (hs.at (L:=[]) (by simp)).cells⟩,rfl,La⟩,
   (((h6.trans hf).trans hj).then1 hz (by omega)).then1 h9 (by omega),_,c0,V,Y,c3,sa,sm,se,o,by rw[hv,if_pos rfl];rfl,Z,h5,⟨I.1,I.2.1,I.2.2.1,I.2.2.2.1,hg.al.one,hg.mr.one,hg.ed.one,I.2.2.2.2.1,La⟩,λe=>absurd hv e,λ_ L hL=>?_⟩
  have h1:=h8 (b2::b3::L) (λb hb=>by
   have kf:({ J with drawn:=J.drawn+1 }:World).heap.size=J.heap.size:=rfl
   simp only[List.mem_cons] at hb;rcases hb with rfl | rfl | hb
   ·omega
   ·omega
   have:=hL b hb;omega)
  exact ((h1.st (hz.mono (by simp))).st (h9.mono (by simp))).up (λb hb=>.inl (by simp[hb]))
 refine Qi ?_;have hm:k<S.fb.length:=by have hw:(k:Int)<(S.fb.length:Int):=h7;omega
 have hP:S.fb.take (k+1)=S.fb.take k++[S.fb[k]'hm]:=Lj hm;have kg:((S.fb.take k).map (·.st)).length=k:=by rw[Li,LD];omega
 refine Zh (S.fb[k]'hm) λr hr=>?_;rw[hr] at hP;refine Qg<|Qh<|Qc<|xig (g:=YO) (i:=k) st4 (hK.ext H) Z Z hm λkh hw=>?_;rw[hr] at hw;refine x (QJ hw Z Z)<|xl Z<|Qu (us:=[.int .i64 0,.int .i64 0,.int .i64 0,.int .i64 0]) Z λb9 w8 hu gs hA=>xl Z<|Qn (us:=YO r) hA Z Z Z Z ⟨Z,Z,Z,Z,La⟩ λw9 gt hA=>xe ?_;have hB:Step [] w7 w9:=hu.then1 gt gs;have ki:=hB.size;have gl:=H.size
 refine Qx<|Qb<|x (Qa Z)<|x (Qd hA Z Z)<|xl Z<|QH (us:=[[.int .i64 r.st]]) Z Z (by decide) (by simp) ⟨rfl,rfl,La⟩ λkj J he kk gu =>
  xl rfl<|Q6 (m:=1) (news:=[.int .i64 r.st]) (L:=[]) (Qt U (hB.trans he)) Z Z Z (gu.at (by simp)) (by simp[Value.oneCell']) (by omega) (by have:=he.size;omega) λgv kn gx gy ko=>Qf<|Qx<|QQ Z Z<|Qb<|xe ?_
 refine ⟨(k+1,gv),by simp only[];omega,⟨Z,Z,La⟩,hm,((H.trans hB).trans he).then gy (λb hb=>.inr (Qq U b hb).1),?_⟩;simp only[];rw[hP,Ly];exact Qs.snoc gx
theorem VM {L:LN}{w:World}{c:CL}(h0:ZS L w.heap c) (hg:Kb w 4096) :
  QG prog 12 [c.val] w λr w'=>Step [] w w'∧∃sa sm se,r=.tuple #[.agg #[sa,.int .i64 (if Xh c.cel=0 then (Jp c.cel).st else 0),sm,se],.int .i64 (suE c.cel)]∧ZP [sa,sm,se] ∧
   (suE c.cel≠0→sa=nS∧sm=nS∧se=nS)∧(suE c.cel=0→∀L:LN,(∀b∈L,b<w.heap.size)→Zq L w'.heap sa sm se (Jp c.cel)):=by
 have h:=h0.up (L':=[]) (by simp);have hh:suE c.cel=Xh c.cel:=rfl;rw[hh];refine QG.of_W func12 Z ntmps12 results12 (by simp) ?_;refine Qc<|xl Z<|QR (us:=c.cells) Z λb1 w1 V hr hi=>xl Z<|Qu (us:=[nS,.int .i64 0,nS,nS]) Z λb2 w2 Y hs H=>Qf ?_;have I:=V.trans Y;have ht:=V.size;have hu:=H.lt
 refine Qc<|x (Qp (hi.ext Y) Z Z)<|xl Z<|xf<|(Qdy (h.ext I) (hg.ext I)).mono ?_;rintro r3 w3 ⟨ha,us,c0,c1,c2,c3,sa,sm,se,o,rfl,hj,hk,E,hl,hm⟩;refine Zh (if Xh c.cel=0 then (Jp c.cel).st else 0) λN hN=>?_
 rw[hN];refine Qb<|x (Qj Z Z)<|x (Qj Z Z)<|x (Qj Z Z)<|xl Z<|Qu (us:=[nS,.int .i64 0,nS,nS,nS,nS,nS,nS]) Z λb4 w4 hn hv J=>xl Z<|Qu (us:=X3 (nS) (nS) (nS) 0) Z λb5 w5 hc hw ho =>
  xl rfl<|Qn (us:=us) (J.ext hc) Z Z hj Z hk λw6 he hy=>xl Z<|Qn (us:=[c0,c1,c2,c3,sa,.int .i64 N,sm,se,o]) (ho.step he (by have:=J.lt;simp only[List.mem_singleton];omega)) Z Z Z Z ⟨E.1,E.2.1,E.2.2.1,E.2.2.2.1,E.2.2.2.2.1,Z,E.2.2.2.2.2.1,E.2.2.2.2.2.2.1,E.2.2.2.2.2.2.2.1,La⟩ λw7 hp hq=>Qf ?_
 have hz:=J.lt;have U:Step [] w3 w7:=((hn.trans hc).then1 he (by omega)).then1 hp (by omega)
 refine Qc<|x (Qa Z)<|x (ZI (us:=[sa,.int .i64 N,sm,se]) hq Z Z Z)<|Qb<|xl Z<|Qn (us:=[sa,.int .i64 N,sm,se]) ((H.ext ha).ext U) Z Z Z Z ⟨E.2.2.2.2.1,Z,E.2.2.2.2.2.1,E.2.2.2.2.2.2.1,La⟩ λw8 hf H=>Qf<|Ql ⟨[.agg [sa,.int .i64 N,sm,se].toArray,.int .i64 (Xh c.cel)],⟨⟨_,Z,Qw Z (H.at (L:=[]) (by simp)).cells⟩,rfl,La⟩,((I.trans ha).trans U).then1 hf (by omega),sa,sm,se,rfl,⟨E.2.2.2.2.1,E.2.2.2.2.2.1,E.2.2.2.2.2.2.1,La⟩,hl,λe L hL=>?_⟩
 have h1:=hm e (b2::L) (λb hb=>by
  simp only[List.mem_cons] at hb;rcases hb with rfl | hb
  ·omega
  have:=hL b hb;omega)
 exact ((h1.ext U).st (hf.mono (by simp))).up (λb hb=>.inl (by simp[hb]))
theorem QbS {L:LN}{w:World}{va vm ve vf vu:Value}{a:QD}{fb ul:LI}(h:Zq L w.heap va vm ve a) (hf:QL L w.heap vf fb) (hu:QL L w.heap vu ul) :
  QG prog 121 [.agg #[va,.int .i64 a.st,vm,ve],vf,vu] w λr w'=>r=.int .i64 (Ub a fb ul)∧Step [] w w':=by
 have H:Ub a fb ul=if XM a≠0 then XM a else if YV a.st none fb≠0 then YV a.st none fb else YV 32 none ul:=rfl
 refine Zh (Ub a fb ul) λE hE=>?_;rw[hE] at H ⊢;refine QG.of_W func121 Z ntmps121 results121 (by simp) ?_;refine Qc<|xl Z<|QR (us:=[va,.int .i64 a.st,vm,ve]) Z λb3 w1 V hb Y=>Qf<|Qg<|Qc<|x (Qp Y Z Z)<|xl Z<|xf<|(Xn (h.ext V)).mono ?_;rintro r2 w2 ⟨rfl,ha⟩;have I:=V.trans ha;refine Qf<|Qc<|Qb<|x (Q8 Z Z)<|xe<|Q3 rfl (λJ=>?_) (λJ=>?_)
 ·rw[if_pos J] at H;subst H;refine Qc<|Qb<|Qf ?_;exact Ql ⟨[_],Lb,Z,I⟩
 rw[if_neg J] at H;refine Qi<|Qg<|Qc<|Qb<|x (Qa Z)<|x (Qd (Y.ext ha) Z Z)<|xl Z<|xf<|(Vo (hf.ext I) _).mono ?_;rintro r3 w3 ⟨rfl,rfl⟩;refine Qf<|Qc<|Qb<|x (Q8 Z Z)<|xe<|Q3 rfl (λU=>?_) (λU=>?_)
 ·rw[if_pos U] at H;subst H;refine Qc<|Qb<|Qf ?_;exact Ql ⟨[_],Lb,Z,I⟩
 rw[if_neg U] at H;subst H;refine Qi<|Qc<|Qb<|xl Z<|xf<|(Vo (hu.ext I) _).mono ?_;rintro r4 w4 ⟨rfl,rfl⟩;refine Qf ?_;exact Ql ⟨[_],Lb,Z,I⟩
theorem jk {L:LN}{w:World}{va vm ve vf vu:Value}{a:QD}{fb ul:LI}(h0:Zq L w.heap va vm ve a) (ho:QL L w.heap vf fb) (hp:QL L w.heap vu ul) :
  QG prog 66 [.agg #[va,.int .i64 a.st,vm,ve],vf,vu] w λr w'=>Step [] w w'∧∃c0 J U c3 sa sm se o,r=.tuple #[.agg #[c0,J,U,c3,sa,.int .i64 (if Ub a fb ul=0 then (X8 a fb ul).st else 0),sm,se,o],.int .i64 (Ub a fb ul)]∧ZP [c0,J,U,c3,sa,sm,se,o] ∧
   (Ub a fb ul≠0→sa=nS∧sm=nS∧se=nS)∧(Ub a fb ul=0→∀L:LN,(∀b∈L,b<w.heap.size)→Zq L w'.heap sa sm se (X8 a fb ul)):=by
 have h:=h0.up (L':=[]) (by simp);have hf:=ho.up (L':=[]) (by simp);have hu:=hp.up (L':=[]) (by simp);refine QG.of_W func66 Z ntmps66 results66 (by simp) ?_;refine Qc<|xl Z<|QR (us:=[va,.int .i64 a.st,vm,ve]) Z λb3 w1 hj hs hk=>xl Z<|Qu (us:=X3 (nS) (nS) (nS) 0) Z λb6 w2 hg ht I=>Qf ?_;have hc:=hj.trans hg;have hv:=hj.size;have hw:=I.lt
 refine Qg<|Qc<|x (Qp (hk.ext hg) Z Z)<|Qb<|Qb<|xl Z<|xf<|(QbS (h.ext hc) (hf.ext hc) (hu.ext hc)).mono ?_;rintro r3 w3 ⟨rfl,ha⟩;have V:=hc.trans ha;have hy:=ha.size;refine Qf<|Qc<|Qb<|x (Q8 Z Z)<|xe<|Q3 rfl (λhe=>?_) (λhe=>?_)
 ·refine Qc<|x (ZF [] La)<|Qb<|xl Z<|Qn (us:=X3 (nS) (nS) (nS) 0) (I.ext ha) Z Z Z Z ⟨Z,Z,Z,Z,Z,Z,Z,Z,Z,La⟩ λw4 hq I=>Qf<|Ql ⟨[.agg (X3 (nS) (nS) (nS) 0).toArray,.int .i64 (Ub a fb ul)],⟨⟨_,Z,Qw Z (I.at (L:=[]) (by simp)).cells⟩,rfl,La⟩,V.then1 hq (by omega),nS,nS,nS,.int .i64 0,nS,nS,nS,nS,by rw[if_neg he];rfl,⟨Z,Z,Z,Z,Z,Z,Z,Z,La⟩,λ_=>⟨Z,Z,Z⟩,λe=>absurd e he⟩
 have H:Ub a fb ul=0:=Lo.1 he;have hck:XM a=0∧YV a.st none fb=0:=by
  unfold Ub at H;by_cases h1:XM a≠0
  ·rw[if_pos h1] at H;exact absurd H h1
  rw[if_neg h1] at H;by_cases h2:YV a.st none fb≠0
  ·rw[if_pos h2] at H;exact absurd H h2
  exact ⟨Lo.1 h1,Lo.1 h2⟩
 have hl:=(Zv a).1 hck.1;have hh:=(Z6 a.st fb none).1 hck.2;have hr:fb.length≤4096:=by have:=Jt fb 0 a.st hh.2.1 hh.1;have:=hl.st1;omega
 refine Qi<|Qc<|x (Qp (hk.ext (hg.trans ha)) Z Z)<|Qb<|Qb<|xl Z<|xf<|(jz (h.ext V) hl (hf.ext V) hh.1 hr (hu.ext V)).mono ?_;rintro r5 w5 ⟨hi,c0,J,U,c3,sa,sm,se,o,rfl,E,hm⟩;have Y:=hm [] (by simp);have hz:=hi.size
 refine xl rfl<|Qn (us:=[c0,J,U,c3,sa,.int .i64 (X8 a fb ul).st,sm,se,o]) ((I.ext ha).ext hi) Z Z Z Z ⟨E.1,E.2.1,E.2.2.1,E.2.2.2.1,Y.al.one,Z,Y.mr.one,Y.ed.one,E.2.2.2.2.1,La⟩ λw6 hn I=>Qf<|Ql ⟨[.agg [c0,J,U,c3,sa,.int .i64 (X8 a fb ul).st,sm,se,o].toArray,.int .i64 0],⟨⟨_,Z,Qw Z (I.at (L:=[]) (by simp)).cells⟩,rfl,La⟩,(V.trans hi).then1 hn (by omega),c0,J,U,c3,sa,sm,se,o,by rw[if_pos H,H];rfl,⟨E.1,E.2.1,E.2.2.1,E.2.2.2.1,Y.al.one,Y.mr.one,Y.ed.one,E.2.2.2.2.1,La⟩,λe=>absurd H e,λ_ L hL=>?_⟩
 have h3:=V.size;have h1:=hm (b6::L) (λb hb=>by
  simp only[List.mem_cons] at hb;rcases hb with rfl | hb
  ·omega
  have:=hL b hb;omega)
 exact (h1.st (hn.mono (by simp))).up (λb hb=>.inl (by simp[hb]))
theorem Qa6 {L:LN}{H:Array Obj}{b T:Nat}{n:Int}(h:QT H b T [.int .i64 n]) (hb:b∉L):QL L H (.slice (some ⟨b,0,none⟩) 1 1) [n] :=
 h.arr hb (n:=1) (cap:=1) (sz:=1) Z (by omega) (Lv _)
set_option maxHeartbeats 4000000 in
theorem QiN {L:LN}{w:World}{c:CL}{q:MV}(h0:ZS L w.heap c) (hA:QL L w.heap q.v q.co) :
  QG prog 100 [c.val,.agg #[.int .i64 q.kd,.int .i64 q.ix,q.v]] w λr w'=>Step [] w w'∧∃us,r=.tuple #[.agg us.toArray,.int .i64 (mcE c.cel q.m)]∧us.length=5∧ZP us∧(mcE c.cel q.m≠0→us=Xj)∧(mcE c.cel q.m=0→QmV w.heap.size w'.heap (.agg us.toArray) (Yb c.cel q.m)):=by
 have h:=h0.up (L':=[]) (by simp);have hm:=hA.up (L':=[]) (by simp);have V:mcE c.cel q.m=if mdE c.cel q.m≠0 then mdE c.cel q.m else zr c.cel (prt q.m):=rfl
 have hB:Yb c.cel q.m=Qgx c.cel (prt q.m):=rfl;rw[hB];refine Zh (mcE c.cel q.m) λE hE=>?_;rw[hE] at V ⊢;refine QG.of_W func100 Z ntmps100 results100 (by simp) ?_;refine Qc<|xl Z<|QR (us:=c.cells) Z λb2 w1 hu hT hi=>xl Z<|QR (us:=YQ q) Z λb3 w2 hc hU hv=>xl Z<|Qu (us:=Xj) Z λb4 w3 Y hV hw=>Qf ?_;have hj:=(hu.trans hc).trans Y;have hW:=hu.size;have hX:=hc.size
 have hY:=hw.lt;refine Qg<|Qc<|x (Qp ((hi.ext hc).ext Y) Z Z)<|x (Qp (hv.ext Y) Z Z)<|xl Z<|xf<|(QgL (h.ext hj) (hm.ext hj)).mono ?_;rintro r4 w4 ⟨rfl,ha⟩;refine Qf ?_;have hy:=hj.trans ha;have hZ:=ha.size;have hC:=((hi.ext hc).ext Y).ext ha;have hk:=(hv.ext Y).ext ha;have hz:=hw.ext ha;refine Qc<|Qb<|x (Q8 Z Z)<|xe<|Q3 rfl (λhe=>?_) (λhe=>?_)
 ·rw[if_pos he] at V;subst V;refine Qc<|x (QN La)<|Qb<|xl Z<|Qn (us:=Xj) hz Z Z Z Z ⟨Z,Z,Z,Z,Z,La⟩ λw5 hD hF=>Qf ?_;exact Ql ⟨[.agg Xj.toArray,.int .i64 (mdE c.cel q.m)],⟨⟨_,Z,Qw Z (hF.at (L:=[]) (by simp)).cells⟩,rfl,La⟩,hy.then1 hD (by omega),Xj,rfl,rfl,⟨rfl,rfl,rfl,rfl,rfl,La⟩,λ_=>rfl,λh0=>absurd h0 he⟩
 rw[if_neg he] at V;subst V;refine Qi<|Qc<|x (Qa Z)<|x (Qd hk Z Z)<|x (QN ⟨hm.cells,La⟩)<|xl Z<|Qu (us:=[nS,nS,nS,nS]) Z λb7 w6 hG hH hI=>xl Z<|Qn (us:=[q.v,nS,nS,nS]) hI Z Z Z Z ⟨hm.one,Z,Z,Z,La⟩ λw7 hJ h2 =>
  xe ?_
 have h3:Step [] w4 w7:=hG.then1 hJ hH;have ga:=h2.lt;refine Qc<|x (Qa Z)<|x (Qd (hk.ext h3) Z Z)<|xl Z<|QH (us:=[[.int .i64 q.ix]]) Z Z (by decide) (by simp) ⟨rfl,rfl,La⟩ λJ w8 hl gb hK =>
  Qf ?_
 have hf:=h3.trans hl;have hM:=hy.trans hf;have gc:=hl.size;have hn:=h2.ext hl;have hN:w.heap.size≤b7:=by omega
 refine QZ (α:=Value×Value×Value) [(22,33)] (λ_=>[]) (λz w'=>Step [b7] w8 w'∧QT w'.heap b7 281 [q.v,z.1,z.2.1,z.2.2]∧QL [] w'.heap z.1 (prt q.m).rq∧QL [] w'.heap z.2.1 (prt q.m).ex∧QL [] w'.heap z.2.2 (prt q.m).cs) (by rfl) ?_ ?_
 ·have ho:∀{w':World},Step [b7] w8 w'→QL [] w'.heap (.slice (some ⟨J,0,none⟩) 1 1) [q.ix]:=λhs=>Qa6 (hK.step hs (by simp only[List.mem_singleton];omega)) (by simp);refine Qc<|x (Qa Z)<|x (Qd (hk.ext hf) Z Z)<|xe<|Qh<|Qc<|x (Zr Z Z)<|Qf<|Q3 Z (λhp=>?_) (λhp=>?_)
  ·have hk1:q.kd=1:=hp;refine Qx<|Qb<|x (Qa Z)<|xl Z<|QF (j:=1) (u:=.slice (some ⟨J,0,none⟩) 1 1) hn Z Z (by simp) rfl λU H I=>xe ?_;refine ⟨(.slice (some ⟨J,0,none⟩) 1 1,nS,nS),La,H,I,?_,?_,?_⟩
   ·show QL _ _ _ (if q.kd=1 then [q.ix] else []);rw[if_pos hk1];exact ho H
   ·show QL _ _ _ (if q.kd=2 then [q.ix] else []);rw[if_neg (by omega)];exact Kj _ _
   show QL _ _ _ (if q.kd≠1∧q.kd≠2 then [q.ix] else []);rw[if_neg (by omega)];exact Kj _ _
  have hk1:¬q.kd=1:=hp;refine Qc<|x (Zr Z Z)<|Qf<|Q3 Z (λhq=>?_) (λhq=>?_)
  ·have hg:q.kd=2:=hq;refine Qx<|Qb<|x (Qa Z)<|xl Z<|QF (j:=2) (u:=.slice (some ⟨J,0,none⟩) 1 1) hn Z Z (by simp) rfl λU H I=>xe ?_;refine ⟨(nS,.slice (some ⟨J,0,none⟩) 1 1,nS),La,H,I,?_,?_,?_⟩
   ·show QL _ _ _ (if q.kd=1 then [q.ix] else []);rw[if_neg hk1];exact Kj _ _
   ·show QL _ _ _ (if q.kd=2 then [q.ix] else []);rw[if_pos hg];exact ho H
   show QL _ _ _ (if q.kd≠1∧q.kd≠2 then [q.ix] else []);rw[if_neg (by omega)];exact Kj _ _
  have hg:¬q.kd=2:=hq;refine Qx<|Qb<|x (Qa Z)<|xl Z<|QF (j:=3) (u:=.slice (some ⟨J,0,none⟩) 1 1) hn Z Z (by simp) rfl λU H I=>xe ?_;refine ⟨(nS,nS,.slice (some ⟨J,0,none⟩) 1 1),La,H,I,?_,?_,?_⟩
  ·show QL _ _ _ (if q.kd=1 then [q.ix] else []);rw[if_neg hk1];exact Kj _ _
  ·show QL _ _ _ (if q.kd=2 then [q.ix] else []);rw[if_neg hg];exact Kj _ _
  show QL _ _ _ (if q.kd≠1∧q.kd≠2 then [q.ix] else []);rw[if_pos ⟨hk1,hg⟩];exact ho H
 rintro ⟨v1,v2,v3⟩ g U ⟨H,I,h4,h5,h6⟩;simp only[] at I h4 h5 h6;have hh:Step [] w U:=hM.then1 H hN;have ge:=H.size;have hO:QT U.heap b2 37 c.cells:=(hC.ext hf).step H (by have:=hi.lt;simp only[List.mem_singleton];omega);have hP:QT U.heap b4 37 Xj:=(hz.ext hf).step H (by simp only[List.mem_singleton];omega)
 refine Qc<|x (Qp hO Z Z)<|x (Qp I Z Z)<|xl Z<|xf<|(Qer (p:=prt q.m) (h.ext hh) (hm.ext hh) h4 h5 h6).mono ?_;rintro gg gh ⟨h7,us,rfl,ht,h8,hQ,hR⟩
 refine x (Qj Z Z)<|x (Qj Z Z)<|xl Z<|Qn (us:=us) (hP.ext h7) Z Z ht Z h8 λgi h9 hS=>Qf<|Ql ⟨[.agg us.toArray,.int .i64 (zr c.cel (prt q.m))],⟨⟨_,Z,Qw ht (hS.at (L:=[]) (by simp)).cells⟩,rfl,La⟩,(hh.trans h7).then1 h9 (by omega),us,rfl,ht,h8,hQ,λe=>?_⟩;obtain ⟨cl,e1,e2,e3⟩:=hR e;refine ⟨cl,e1,e2,λL hL=>?_⟩;have h1:=e3 (b4::L) (λb hb=>by
  rcases Lh.1 hb with rfl | hb
  ·omega
  have:=hL b hb;have:=hh.size;omega)
 exact (h1.st (h9.mono (by simp))).up (λb hb=>.inl (by simp[hb]))
set_option maxHeartbeats 4000000 in
theorem Qlz {L:LN}{w:World}{c:CL}{q:MV}(h0:ZS L w.heap c) (hp:QL L w.heap q.v q.co) (hq:Kb w 4096) :
  QG prog 49 [c.val,.agg #[.int .i64 q.kd,.int .i64 q.ix,q.v]] w λr w'=>Step [] w w'∧∃sa st sm se,r=.tuple #[.agg #[sa,.int .i64 st,sm,se],.int .i64 (yX c.cel q.m)]∧ZP [sa,sm,se] ∧
   (yX c.cel q.m=0→st=(U8 c.cel q.m).st∧∀L:LN,(∀b∈L,b<w.heap.size)→Zq L w'.heap sa sm se (U8 c.cel q.m))∧(yX c.cel q.m≠0→st=0∧sa=nS∧sm=nS∧se=nS):=by
 have h:=h0.up (L':=[]) (by simp);have hm:=hp.up (L':=[]) (by simp);have H:yX c.cel q.m=if mcE c.cel q.m≠0 then mcE c.cel q.m else suE (Yb c.cel q.m):=rfl
 have hs:U8 c.cel q.m=Jp (Yb c.cel q.m):=rfl;rw[hs];refine Zh (yX c.cel q.m) λE hE=>?_;rw[hE] at H ⊢;refine QG.of_W func49 Z ntmps49 results49 (by simp) ?_;refine Qc<|xl Z<|QR (us:=c.cells) Z λb2 w1 hh hH ht=>xl Z<|QR (us:=YQ q) Z λb3 w2 hc hI hu=>xl Z<|Qu (us:=[nS,.int .i64 0,nS,nS]) Z λb4 w3 he hJ hi=>Qf ?_;have hf:=(hh.trans hc).trans he;have hK:=hh.size;have hM:=hc.size
 have hO:=hi.lt;refine Qc<|x (Qp ((ht.ext hc).ext he) Z Z)<|x (Qp (hu.ext he) Z Z)<|xl Z<|xf<|(QiN (h.ext hf) (hm.ext hf)).mono ?_;rintro r4 w4 ⟨hg,us,rfl,hj,hw,hP,hy⟩;have hQ:=hg.size;have hz:=hf.trans hg;refine Qb<|x (Qj Z Z)<|x (Qj Z Z)<|xl Z<|Qu (us:=Xj) Z λb6 w5 h2 h3 h4=>xl Z<|Qn (us:=us) h4 Z Z hj Z hw λU h5 h6 =>
  Qf ?_
 have V:Step [] w4 U:=h2.then1 h5 h3;have Y:=hz.trans V;have hS:=V.size;have hk:=(hi.ext hg).ext V;refine Qg<|Qc<|Qb<|x (Q8 Z Z)<|xe<|Q3 rfl (λI=>?_) (λI=>?_)
 ·rw[if_pos I] at H;subst H;refine Qc<|x (QN La)<|Qb<|xl Z<|Qn (us:=[nS,.int .i64 0,nS,nS]) hk Z Z Z Z ⟨Z,Z,Z,Z,La⟩ λw7 h7 h8=>Qf ?_;exact Ql ⟨[.agg [nS,.int .i64 0,nS,nS].toArray,.int .i64 (mcE c.cel q.m)],⟨⟨_,Z,Qw Z (h8.at (L:=[]) (by simp)).cells⟩,rfl,La⟩,Y.then1 h7 (by omega),nS,0,nS,nS,rfl,⟨rfl,rfl,rfl,La⟩,λh0=>absurd h0 I,λ_=>⟨rfl,rfl,rfl,rfl⟩⟩
 rw[if_neg I] at H;subst H;obtain ⟨cl,hv,h9,hA⟩:=hy (Lo.1 I);have hB:ZS [] U.heap cl:=(hA [] (by simp)).ext V;have hl:=VM hB (hq.ext Y);rw[h9] at hl;have hC:∀R,QG prog 12 [cl.val] U R→QG prog 12 [.agg us.toArray] U R:=λR hR=>by rw[hv];exact hR
 have hsup':=hC _ hl;refine Qi<|Qc<|x (Qp h6 Z hj)<|xl Z<|xf<|hsup'.mono ?_;rintro r8 w8 ⟨hn,sa,sm,se,rfl,ha,hD,hF⟩;refine Zh (if Xh (Yb c.cel q.m)=0 then (Jp (Yb c.cel q.m)).st else 0) λN J=>?_
 rw[J];refine x (Qj Z Z)<|x (Qj Z Z)<|xl Z<|Qn (us:=[sa,.int .i64 N,sm,se]) (hk.ext hn) Z Z Z Z ⟨ha.1,Z,ha.2.1,ha.2.2.1,La⟩ λw9 ho hG=>Qf<|Ql ⟨[.agg [sa,.int .i64 N,sm,se].toArray,.int .i64 (suE (Yb c.cel q.m))],⟨⟨_,Z,Qw Z (hG.at (L:=[]) (by simp)).cells⟩,rfl,La⟩,(Y.trans hn).then1 ho (by omega),sa,N,sm,se,rfl,ha,λe=>⟨?_,λL hL=>?_⟩,λe=>?_⟩
 ·have e':Xh (Yb c.cel q.m)=0:=e;rw[if_pos e'] at J;exact J.symm
 ·have h1:=hF e (b4::L) (λb hb=>by
   rcases Lh.1 hb with rfl | hb
   ·omega
   have:=hL b hb;have:=Y.size;omega)
  exact (h1.st (ho.mono (by simp))).up (λb hb=>.inl (by simp[hb]))
 have e':¬Xh (Yb c.cel q.m)=0:=e;rw[if_neg e'] at J;exact ⟨J.symm,hD e⟩
theorem Jh.app3 {α:Type}{g:α→LV}{sz T:Nat}{ps:α→List (Value×Nat×Nat×LV)}{base:Nat}{E H:World}{v I:Value}{l:List α}{q:α}(h:Jh g sz T ps base E v l)
  (hq:∀t∈ps q,Z7 base (ob v) E.heap t.1 t.2.1 t.2.2.1 t.2.2.2)
  (V:H.ownsRow base T sz I (l.length+1) (l.flatMap g++g q)) (J:Step (ob v) E H) (U:∀b∈ob I,b∈ob v∨E.heap.size≤b):Jh g sz T ps base H I (l++[q]):=by
 refine ⟨?_,λd hd t ht=>?_⟩
 ·rw[Ll,LH];simpa using V
 rcases Lp.1 hd with hd | hd
 ·exact (h.each d hd t ht).app J U
 simp only[List.mem_singleton] at hd;subst hd;exact (hq t ht).app J U
abbrev QpU (p:AV):List (Value×Nat×Nat×LV):=[(p.va,p.a.al.length,1,p.a.al.map (.int .i64)),(p.vm,p.a.mr.length,1,p.a.mr.map (.int .i64)),(p.ve,p.a.ed.length,3,p.a.ed.flatMap QB)]
abbrev AvP (base:Nat) (w:World) (v:Value) (l:List AV):Prop:=Jh Zc 4 50 QpU base w v l
theorem AvP.auts {base:Nat}{w:World}{v:Value}{l:List AV}{L:LN}(h:AvP base w v l) (H:l.length≤1099511627776) (E:∀b∈L,b<base):Xf L w.heap v l :=
 ⟨QX h.own H (λb hb I=>by have:=(Qq h.own b hb).1;have:=E b I;omega),λp hp=>⟨h.each p hp (p.va,p.a.al.length,1,p.a.al.map (.int .i64)) (by simp) L (λb hb=>.inl (E b hb)),h.each p hp (p.vm,p.a.mr.length,1,p.a.mr.map (.int .i64)) (by simp) L (λb hb=>.inl (E b hb)),h.each p hp (p.ve,p.a.ed.length,3,p.a.ed.flatMap QB) (by simp) L (λb hb=>.inl (E b hb))⟩⟩
def Qp2 (N:Nat) (H:Array Obj) (v:Value) (l:List QD):Prop:=∃ps:List AV,ps.map (·.a)=l∧∀L:LN,(∀b∈L,b<N)→Xf L H v ps
theorem Qkg {p:AV}(h1:p.va.oneCell'=true) (h2:p.vm.oneCell'=true) (h3:p.ve.oneCell'=true):∀u∈Zc p,u.oneCell'=true:=by
 intro u hu;simp only[Zc,List.mem_cons,List.not_mem_nil,or_false] at hu;rcases hu with rfl | rfl | rfl | rfl
 ·exact h1
 ·rfl
 ·exact h2
 exact h3
theorem Zq.parts {base N:Nat}{av:LN}{H:Array Obj}{p:AV}(h:∀L:LN,(∀b∈L,b<N)→Zq L H p.va p.vm p.ve p.a) (hb:base≤N) (I:∀b∈av,b<N):∀t∈QpU p,Z7 base av H t.1 t.2.1 t.2.2.1 t.2.2.2:=by
 intro t ht;simp only[List.mem_cons,List.not_mem_nil,or_false] at ht;rcases ht with rfl | rfl | rfl
 ·exact Z7.of_lt (λL E=>(h L E).al) hb I
 ·exact Z7.of_lt (λL E=>(h L E).mr) hb I
 exact Z7.of_lt (λL E=>(h L E).ed) hb I
theorem QiF {c:Q4}(h:qK c):(mods c).length≤96:=by have:=Qa2 h 3 (by omega);rw[Qcp] at this;omega
theorem Qe8:∀(l:LN) (b:Nat),l.foldl (λl b=>l &&& (65535 ^^^ b)) b≤b
 | [],_=>Lv _
 | _::l,_=>LT (Qe8 l _) Nat.and_le_left
theorem Kf {c:Q4}:∀i∈rem c,0≤i∧i<(c.co.length:Int):=by
 intro i hi;unfold rem setK at hi;obtain ⟨j,hj,rfl⟩:=Lq.1 hi;have h1:=(LL.1 hj).2;have h2:=of_decide_eq_true h1;refine ⟨by omega,?_⟩;refine Decidable.byContradiction λI=>?_;have E:c.co.length≤j:=by omega
 have J:QaL c≤2 ^ c.co.length - 1:=Qe8 _ _;have hp:0<2 ^ c.co.length:=Nat.pow_pos (by decide);have U:2 ^ c.co.length≤2 ^ j:=Nat.pow_le_pow_right (by decide) E;have H:QaL c / 2 ^ j=0:=Nat.div_eq_of_lt (by omega);rw[H] at h2;cases h2
theorem UY (c:Q4):KC c=if Zf c≠0 then Zf c else msL c (mods c):=rfl
theorem Ul (c:Q4) (m:YZ) (l:List YZ):msL c (m::l)=if yX c m≠0 then yX c m else msL c l:=rfl
abbrev coA (c:Q4) (i:Int):QD:=(c.co.getD i.toNat ⟨.empty,⟨[],0,[],[]⟩⟩).a
set_option maxRecDepth 4096 in
set_option maxHeartbeats 8000000 in
theorem yO {L:LN}{w:World}{c:CL}(J:ZS L w.heap c) (g8:Kb w 4096) :
  QG prog 14 [c.val] w λr w'=>Step [] w w'∧∃v,r=.tuple #[v,.int .i64 (KC c.cel)]∧(KC c.cel≠0→v=nS)∧(KC c.cel=0→v.oneCell'=true∧Qp2 w.heap.size w'.heap v (ZD c.cel)):=by
 have h:=J.up (L':=[]) (by simp);have hr:=UY c.cel;have g9:ZD c.cel=(mods c.cel).map (U8 c.cel)++(rem c.cel).map (coA c.cel):=rfl;refine Zh (KC c.cel) λE hE=>?_;rw[hE] at hr ⊢;refine QG.of_W func14 Z ntmps14 results14 (by simp) ?_;refine Qc<|xl Z<|QR (us:=c.cells) Z λb1 w1 hH ms gc=>x Qe<|Qf<|Qc<|x (Qp gc Z Z)<|xl Z<|xf<|(QeG (h.ext hH)).mono ?_
 rintro r2 Y ⟨hI,vM,lM,rfl,hM,mt,ka⟩;have ge:=hH.trans hI;have mu:=hH.size;have mv:=hI.size;refine Qb<|x (Qj Z Z)<|x (Qj Z Z)<|x Qe<|Qf<|Qg<|Qc<|Qb<|x (Q8 Z Z)<|xe<|Q3 rfl (λhs=>?_) (λhs=>?_)
 ·rw[if_pos hs] at hr;subst hr;refine Qc<|Qb<|x Qe<|Qf ?_;exact Ql ⟨[nS,.int .i64 (Zf c.cel)],⟨Z,Z,La⟩,ge,nS,Z,λ_=>Z,λJ=>absurd J hs⟩
 rw[if_neg hs] at hr;have hck:=Lo.1 hs;have kb:qK c.cel:=(Yd hck).sr;have h7:=ka hck;have mw:lM.length≤96:=by have:=QiF kb;rw[←h7,Li] at this;exact this
 have gg:ZA [] Y.heap vM lM.length 3 (lM.flatMap YQ):=hM.arr (by omega) (by simp);have mx:(rem c.cel).length≤8:=Jq _ _;have gh:=gc.ext hI;refine Qi<|Qc<|Qf<|Qg<|Qc<|Qb<|x (Qr gg Z)<|Qb<|xe ?_
 refine Qh<|Qz (α:=Nat×Value×List AV) [(2,3),(6,6),(8,10),(25,42)] (λz=>[(6,z.2.1),(25,.int .i64 z.1)]) (λz w'=>z.1≤lM.length∧Step [] Y w'∧AvP Y.heap.size w' z.2.1 z.2.2∧z.2.2.map (·.a)=(lM.take z.1).map (λq=>U8 c.cel q.m)∧msL c.cel ((lM.drop z.1).map MV.m)=E) (λz=>lM.length - z.1) (by rfl) (0,nS,[]) ⟨Z,Z,La⟩
  ⟨Ln _,Step.refl _ _,Jh.nil,Z,by rw[List.drop_zero,h7];exact hr.symm⟩ ?_
 rintro ⟨k,v,l⟩ g w3 ⟨hk,ha,he,hu,H⟩;simp only[] at hk he hu H;have h8:=ge.trans ha;have my:=ha.size;have mz:l.length=k:=by have:=congrArg List.length hu;rw[Li,Li,LD] at this;omega
 have hJ:=gh.ext ha;have h3:=h.ext h8;refine Qc<|x (QA Z Z)<|xe<|Qg<|QC Z (λhK=>?_) (λhK=>?_)
 ·refine Qy ?_;have gi:lM.length≤k:=by have hN:¬(k:Int)<(lM.length:Int):=hK;omega
  rw[Ls gi] at hu;rw[Lx gi] at H;have gj:E=0:=H.symm;have kc:l.map (·.a)=(mods c.cel).map (U8 c.cel):=by rw[hu,←h7,Mf];rfl
  refine Qc<|x (Qp hJ Z Z)<|xl Z<|xf<|(Qbz h3).mono ?_;rintro r4 w4 ⟨hB,vR,rfl,_,ke⟩;have hR:=ke hck;have kf:=h8.trans hB;have m0:=hB.size;refine Qb<|x (Qj Z Z)<|x (Qj Z Z)<|x Qe<|Qf<|Qg<|Qc<|Qb<|x (Q8 Z Z)<|xe<|Q3 Z (λgk=>?_) (λgk=>?_)
  ·exact absurd hck gk
  refine Qi ?_;have kg:QL [] w4.heap vR (rem c.cel):=Qs.ints hR (by omega) (by simp);refine Qg<|Qc<|Qb<|x (Qr kg Z)<|Qb<|xe ?_
  refine Qh<|Qz (α:=Nat×Value×List AV) [(6,6),(13,14),(53,78)] (λz=>[(6,z.2.1),(53,.int .i64 z.1)]) (λz w'=>z.1≤(rem c.cel).length∧Step (ob v) w4 w'∧AvP Y.heap.size w' z.2.1 z.2.2∧z.2.2.map (·.a)=(mods c.cel).map (U8 c.cel)++((rem c.cel).take z.1).map (coA c.cel)∧∀b∈ob z.2.1,b∈ob v∨w4.heap.size≤b) (λz=>(rem c.cel).length - z.1) (by rfl) (0,v,l) ⟨Z,Z,La⟩
   ⟨Ln _,Step.refl _ _,Jh.ext he hB,by simp only[List.take_zero,List.map_nil,List.append_nil];exact kc,λb hb=>.inl hb⟩ ?_
  rintro ⟨j,vj,lj⟩ g w5 ⟨hj,hv,hf,hw,hO⟩;simp only[] at hj hf hw hO;have hP:=Qq he.own;have gl:=Qq hf.own;have gm:Step [] w w5:=kf.then hv (λb hb=>.inr (by have:=(hP b hb).1;omega));have h5:=h.ext gm;have m1:=hv.size;have m2:lj.length≤200:=by
   have e1:=congrArg List.length hw;rw[Li,Ll,Li,Li,LD,←h7,Li] at e1;omega
  have kh:QT w5.heap b1 37 c.cells:=(hJ.ext hB).step hv (λhb=>by have:=(hP b1 hb).1;have:=gh.lt;omega);have ki:QL [] w5.heap vR (rem c.cel):=(((Qs.ints hR (by omega) (L:=ob v) (λb hb=>(hP b hb).2)).st hv)).up (by simp);refine Qc<|x (QA Z Z)<|xe<|Qg<|QC Z (λhQ=>?_) (λhQ=>?_)
  ·refine Qy ?_;have kj:(rem c.cel).length≤j:=by have hN:¬(j:Int)<((rem c.cel).length:Int):=hQ;omega
   rw[Ls kj,←g9] at hw;refine Qc<|Qb<|x Qe<|Qf ?_;exact Ql ⟨[vj,.int .i64 0],⟨Z,Z,La⟩,gm,vj,by rw[gj];rfl,λJ=>absurd gj J,λ_=>⟨QO hf.own,lj,hw,λL hL=>AvP.auts hf (by omega) (λb hb=>by have:=hL b hb;omega)⟩⟩
  have hg:j<(rem c.cel).length:=by have hN:(j:Int)<((rem c.cel).length:Int):=hQ;omega
  have gn:(rem c.cel).take (j+1)=(rem c.cel).take j++[(rem c.cel)[j]'hg]:=Lj hg;have gq:=Kf _ (Le hg);refine Qi<|Qg<|Qh<|Qc<|xii (i:=j) ki Z Z hg λm3 gr=>?_;refine Zh ((rem c.cel)[j]'hg) λi hi=>?_;rw[hi] at gr gn gq;have kk:c.cel.co.length=c.co.length:=Li ..;rw[kk] at gq;have kn:i=(i.toNat:Int):=by omega
  have hy:i.toNat<c.co.length:=by omega
  have hz:=Le hy;have gs:coA c.cel i=(c.co[i.toNat]'hy).p.a:=by
   show ((c.co.map IV.it).getD i.toNat _).a=_;simp[List.getD,hy,IV.it]
  refine x (Qv gr Z)<|Qf<|Qc<|x (Qa Z)<|x (Qd kh Z Z)<|Qb<|xig (g:=Zm) (i:=i.toNat) X0 h5.co.arr Z (congrArg (Value.int .i64) kn) hy λm4 gt=>?_;refine Zh (c.co[i.toNat]'hy) λq hq=>?_;rw[hq] at gt hz gs;have U:=h5.co.each q hz;refine x (Zj Z)<|x (QJ (us:=[q.p.va,.int .i64 q.p.a.st,q.p.vm,q.p.ve]) (gt.from 1) Z Z)<|xl Z<|Qu (us:=[nS,.int .i64 0,nS,nS]) Z λgu w6 ko kp hh =>
   xl rfl<|Qn (us:=[q.p.va,.int .i64 q.p.a.st,q.p.vm,q.p.ve]) hh Z Z Z Z ⟨U.al.one,Z,U.mr.one,U.ed.one,La⟩ λI kq hh=>xe ?_
  have hS:Step [] w5 I:=ko.then1 kq kp;have hl:Step [] I { I with drawn:=I.drawn+1 }:=Step.drew _ _
  have m5:=hS.size;have hC:gu∉ob vj:=λhm=>by have:=(gl gu hm).2;omega
  have hT:=U.ext hS;refine QU (Step (ob vj) I) [(0,true),(1,true),(2,true),(4,true),(5,true),(6,true),(7,true),(9,true),(10,true),(3,false),(8,false),(11,false),(12,true),(13,false),(14,false),(15,true)] mixed (by rfl) (by kernel_rfl) (Step.drew _ _) ?_;refine p (λ_=>Qm)<|p (λ_=>Qa Z)<|pq (λ_ hc=>Qd (hh.step hc hC) Z Z)<|p (λ_=>Qa Z)<|pq (λ_ hc=>Qd (hh.step hc hC) Z Z) <|
   p (λ_=>Qa Z)<|pq (λ_ hc=>Qd (hh.step hc hC) Z Z)<|p (λ_=>Qa Z)<|pq (λ_ hc=>Qd (hh.step hc hC) Z Z) <|
   pk<|xf<|(Y2 (hT.al.ext hl)).mono ?_
  rintro r8 w8 ⟨hn,hU⟩;refine ⟨(hl.trans hn).any,?_⟩;refine pk<|xf<|(Y2 ((hT.mr.ext hl).ext hn)).mono ?_;rintro r9 w9 ⟨h1,hV⟩;refine ⟨((hl.trans hn).trans h1).any,?_⟩;refine pk<|xf<|(yt (((hT.ed.ext hl).ext hn).ext h1)).mono ?_;rintro h2 m6 ⟨hW,hX⟩;have hD:=((hl.trans hn).trans h1).trans hW;refine ⟨hD.any,?_⟩
  refine p (λ_=>QN ⟨Zp hU,Z,Zp hV,Zp hX,La⟩)<|pk<|QH (us:=[Zc ⟨r8,r9,h2,q.p.a⟩]) Z Z (by decide) (by simp) ⟨rfl,rfl,La⟩ λm7 m8 ho m9 kr=>⟨(hD.trans ho).any,?_⟩;have hF:=(hS.trans hD).trans ho;have pa:=hF.size;have pc:=hn.size;have pd:=h1.size;have pf:({ I with drawn:=I.drawn+1 }:World).heap.size=I.heap.size:=rfl
  refine pk<|Q6 (news:=Zc ⟨r8,r9,h2,q.p.a⟩) (L:=[]) (Qt hf.own hF) Z Z Z (kr.at (by simp)) (Qkg (p:=⟨r8,r9,h2,q.p.a⟩) (QO hU) (QO hV) (QO hX)) (by omega) (by omega) λgv kt ku hY gx=>⟨(hD.trans ho).any.trans' hY,?_⟩;refine p (λ_=>Qe)<|pe ?_;have hZ:∀b∈ob vj,b<I.heap.size:=λb hb=>by have:=(gl b hb).2;omega
  have kv:AvP Y.heap.size kt gv (lj++[⟨r8,r9,h2,q.p.a⟩]):=Jh.app3 (Jh.ext hf hF) (λt ht=>by
   simp only[List.mem_cons,List.not_mem_nil,or_false] at ht;rcases ht with rfl | rfl | rfl
   ·exact Z7.of_own (Qt (Qt (Qt hU h1) hW) ho) U.al.le (by omega) (λb hb=>by have:=hZ b hb;omega)
   ·exact Z7.of_own (Qt (Qt hV hW) ho) U.mr.le (by omega) (λb hb=>by have:=hZ b hb;omega)
   exact Z7.of_own (Qt hX ho) U.ed.le (by omega) (λb hb=>by have:=hZ b hb;omega)) ku hY gx
  refine Qx<|QQ Z Z<|Qb<|xe<|⟨(j+1,gv,lj++[⟨r8,r9,h2,q.p.a⟩]),by simp only[];omega,⟨Z,Z,La⟩,hg,(hv.trans hF).then hY hO,kv,?_,λb hb=>?_⟩
  ·simp only[];rw[gn,Ly,hw,Ly,LC,Mx,Mx,gs]
  rcases gx b hb with h9 | h9
  ·exact hO b h9
  exact .inr (by omega)
 have V:k<lM.length:=by have hN:(k:Int)<(lM.length:Int):=hK;omega
 have gy:lM.take (k+1)=lM.take k++[lM[k]'V]:=Lj V;have hz:=Le V;rw[LQ V,L1,Ul] at H;have kw:=Yh.ext hM ha;have kx:=gg.ext ha;refine Qi<|Qg<|Qh<|Qc<|xig (g:=YQ) (i:=k) QnS kx Z Z V λpg gz=>?_;refine Zh (lM[k]'V) λq hq=>?_;rw[hq] at gz gy hz H
 have g0:QL [] w3.heap q.v q.co:=kw.each q hz [] (by simp);refine x (QJ gz Z Z)<|xl Z<|Qu (us:=[.int .i64 0,.int .i64 0,nS]) Z λb8 ph kz k0 ga=>xl Z<|Qn (us:=YQ q) ga Z Z Z Z ⟨Z,Z,g0.one,La⟩ λg1 k4 ga =>
  xe ?_
 have h4:Step [] w3 g1:=kz.then1 k4 k0;have g2:=h8.trans h4;have pj:=h4.size;refine Qc<|x (Qp (hJ.ext h4) Z Z)<|x (Qp ga Z Z)<|xl Z<|xf<|(Qlz (q:=q) (h.ext g2) (g0.ext h4) (g8.ext g2)).mono ?_;rintro pn k5 ⟨k6,sa,st,sm,se,rfl,hp,k7,_⟩
 refine Qb<|x (Qj Z Z)<|x (Qj Z Z)<|xl Z<|Qu (us:=[nS,.int .i64 0,nS,nS]) Z λb9 po k8 k9 gb=>xl Z<|Qn (us:=[sa,.int .i64 st,sm,se]) gb Z Z Z Z ⟨hp.1,Z,hp.2.1,hp.2.2.1,La⟩ λma mc gb =>
  Qf ?_
 have g3:Step [] k5 ma:=k8.then1 mc k9;have g4:=(h4.trans k6).trans g3;refine Qg<|Qc<|Qb<|x (Q8 Z Z)<|xe<|Q3 rfl (λh6=>?_) (λh6=>?_)
 ·rw[if_pos h6] at H;subst H;refine Qc<|Qb<|x Qe<|Qf ?_;exact Ql ⟨[nS,.int .i64 (yX c.cel q.m)],⟨Z,Z,La⟩,h8.trans g4,nS,Z,λ_=>Z,λJ=>absurd J h6⟩
 rw[if_neg h6] at H;obtain ⟨mf,hA⟩:=k7 (Lo.1 h6);subst mf;have hge:=Qq he.own;refine Qi<|Qx<|Qb<|x (Qp gb Z Z)<|xl Z<|QH (us:=[Zc ⟨sa,sm,se,U8 c.cel q.m⟩]) Z Z (by decide) (by simp) ⟨rfl,rfl,La⟩ λpp pt g5 pu mg=>?_;have hG:=g4.trans g5;have pw:=hG.size
 refine xl rfl<|Q6 (news:=Zc ⟨sa,sm,se,U8 c.cel q.m⟩) (L:=[]) (Qt he.own hG) Z Z Z (mg.at (by simp)) (Qkg (p:=⟨sa,sm,se,U8 c.cel q.m⟩) hp.1 hp.2.1 hp.2.2.1) (by omega) (by omega) λg6 mh mj g7 mo =>
  Qf ?_
 have mq:AvP Y.heap.size mh g6 (l++[⟨sa,sm,se,U8 c.cel q.m⟩]):=Jh.app3 (Jh.ext he hG) (Zq.parts (N:=g1.heap.size) (p:=⟨sa,sm,se,U8 c.cel q.m⟩) (λL hL=>((hA L hL).ext g3).ext g5) (by omega) (λb hb=>by have:=(hge b hb).2;omega)) mj g7 mo;refine Qx<|QQ Z Z<|Qb<|xe ?_
 refine ⟨(k+1,g6,l++[⟨sa,sm,se,U8 c.cel q.m⟩]),by simp only[];omega,⟨Z,Z,La⟩,V,(ha.trans hG).then g7 (λb hb=>.inr (hge b hb).1),mq,?_,H⟩;simp only[];rw[gy,Ly,hu,Ly];rfl
abbrev gtA (aa:List QD) (i:Nat):QD:=aa.getD i ⟨[],0,[],[]⟩
def rfP (aa:List QD) (t:LI) (v:Int) (i:Nat):Bool:=!(eget (gtA aa i).ed (cget t i) v).isSome && decide (v∈(gtA aa i).al)
def rfN (aa:List QD) (t:LI) (v:Int) (n:Nat):LI:=((List.range n).filter (rfP aa t v)).map λi:Nat=>(i:Int)
def rfL (aa:List QD) (t:LI) (v:Int):LI:=rfN aa t v aa.length
theorem Qh7 (aa:List QD) (t:LI) (v:Int) (n:Nat):rfN aa t v (n+1)=rfN aa t v n++if rfP aa t v n=true then [(n:Int)] else []:=by
 unfold rfN;rw[List.range_succ,Mb,Ly];congr 1;by_cases h:rfP aa t v n=true
 ·rw[if_pos h];simp[h]
 rw[if_neg h];simp[h]
theorem Qld (aa:List QD) (t:LI) (v:Int) (n:Nat):(rfN aa t v n).length≤n:=by
 unfold rfN;rw[Li];have:=My (rfP aa t v) (List.range n);rw[M7] at this;exact this
set_option maxHeartbeats 4000000 in
theorem QaX {w:World}{v vt:Value}{ps:List AV}{ts:LI}(h:Xf [] w.heap v ps) (ht:QL [] w.heap vt ts) (e:Int) :
  QG prog 56 [v,vt,.int .i64 e] w λr w'=>Step [] w w'∧∃vr,r=.tuple #[vr,.int .i64 (ckV (ps.map (·.a)) ts e)]∧(ckV (ps.map (·.a)) ts e≠0→vr=Zg)∧(ckV (ps.map (·.a)) ts e=0→Qs 3 w.heap.size w' vr (rfL (ps.map (·.a)) ts e)):=by
 refine Zh (ckV (ps.map (·.a)) ts e) λE hE=>?_;rw[hE];refine QG.of_W func56 Z ntmps56 results56 (by simp) ?_;refine Qc<|x Qe<|Qf<|Qg<|Qc<|Qb<|Qb<|Qb<|xl Z<|xf<|(jg h ht e).mono ?_;rintro r1 w1 ⟨h4,hf⟩;rw[hE] at h4;subst h4;refine Qf<|Qc<|Qb<|x (Q8 Z Z)<|xe<|Q3 rfl (λhg=>?_) (λhg=>?_)
 ·refine Qc<|Qb<|x Qe<|Qf ?_;exact Ql ⟨[Zg,.int .i64 E],⟨Z,Z,La⟩,hf,Zg,Z,λ_=>Z,λe=>absurd e hg⟩
 have hh:E=0:=Lo.1 hg;have hc:ckV (ps.map (·.a)) ts e=0:=hE.trans hh;have hF:ckT (ps.map (·.a)) ts=0:=by
  unfold ckV at hc;split at hc
  ·rename_i h1;exact absurd hc h1
  rename_i h1;exact Lo.1 h1
 obtain ⟨h1,h2,h3⟩:=Qc1 hF;rw[Li] at h1;have hl:ts.length=ps.length:=by have:=h3.1;rw[Li] at this;exact this
 refine Qi<|Qc<|Qb<|xl Z<|xf<|(Qfh (h.ext hf) h1 (λp hp=>(h2 p.a (LW hp)).al_le) (by simp)).mono ?_;rintro r2 w2 ⟨hG,ve,vs,ms,rfl,hM,hH⟩;have hI:=hf.trans hG;have hJ:=hM.sl.one;refine xl rfl<|Qu (us:=[nS,nS,nS]) Z λb9 w3 hK hL hN=>xl Z<|Qn (us:=[v,ve,vs]) hN Z Z Z Z ⟨h.arr.one,QO hH,hJ,La⟩ λw4 hO hQ=>xe ?_;have hi:Step [] w2 w4:=hK.then1 hO hL
 have hj:=hI.trans hi;have hR:=hj.size;have gn:=hi.size;refine Qc<|Qf<|Qg<|Qc<|Qb<|x (Qr (h.ext hj).arr Z)<|Qb<|xe<|Qh<|Qz (α:=Nat×Value) [(10,14),(26,58)] (λz=>[(10,z.2),(26,.int .i64 z.1)]) (λz w'=>z.1≤ps.length∧Step [] w4 w'∧Qs 3 w4.heap.size w' z.2 (rfN (ps.map (·.a)) ts e z.1)) (λz=>ps.length - z.1) (by rfl) (0,nS) ⟨Z,Z,La⟩
  ⟨Ln _,Step.refl _ _,QP _ _ _ _⟩ ?_
 rintro ⟨k,vo⟩ g w5 ⟨hk,J,U⟩;simp only[] at hk U;have hm:=hj.trans J;have gq:=Qld (ps.map (·.a)) ts e k;have gr:=J.size;refine Qc<|x (QA Z Z)<|xe<|Qg<|QC Z (λhn=>?_) (λhn=>?_)
 ·refine Qy ?_;have hS:k=ps.length:=by have hT:¬(k:Int)<(ps.length:Int):=hn;omega
  have hU:rfN (ps.map (·.a)) ts e k=rfL (ps.map (·.a)) ts e:=by unfold rfL;rw[Li,hS]
  rw[hU] at U;refine Qc<|Qb<|x Qe<|Qf ?_;exact Ql ⟨[vo,.int .i64 0],⟨Z,Z,La⟩,hm,vo,by rw[hh];rfl,λe=>absurd hh e,λ_=>Zi U hR⟩
 have H:k<ps.length:=by have hT:(k:Int)<(ps.length:Int):=hn;omega
 have V:k<ts.length:=by omega
 have h6:k<ms.length:=by rw[hM.ml];exact H
 have h7:=(hM.ext hi).ext J;obtain ⟨h8,_⟩:=h7.mp k h6 H;have ho:=Le H;have hV:gtA (ps.map (·.a)) k=(ps[k]'H).a:=by unfold gtA;simp[List.getD,H]
 have hW:cget ts k=ts[k]'V:=by unfold cget;simp[List.getD,V]
 have I:=Qh7 (ps.map (·.a)) ts e k;have hP:rfP (ps.map (·.a)) ts e k=(!(eget (ps[k]'H).a.ed (ts[k]'V) e).isSome && decide (e∈(ps[k]'H).a.al)):=by unfold rfP;rw[hV,hW]
 rw[hP] at I;have h5:=h.ext hm;refine Qi<|Qg<|Qh<|Qc<|Qb<|xig (g:=Zc) (i:=k) JX h5.arr Z Z H λgs h9=>?_;refine Zh (ps[k]'H) λq hq=>?_;refine Zh (ts[k]'V) λtk hA=>?_;rw[hq] at h9 ho h8 I;rw[hA] at I;have he:=h5.each q ho;have hB:=h2 q.a (LW ho);refine x (QJ h9 Z Z)<|xl Z<|Qu (us:=[nS,.int .i64 0,nS,nS]) Z λgt w6 hX hY hZ=>x Qe <|
  xl rfl<|Qn (us:=Zc q) hZ Z Z Z Z ⟨he.al.one,Z,he.mr.one,he.ed.one,La⟩ λY ga gb=>xe ?_
 have ha:Step [] w5 Y:=hX.then1 ga hY;have gc:=(hQ.ext J).ext ha;have ge:=h7.ext ha;have gg:=h8.ext ha;refine Qg<|QU (Step [] Y) [(0,true),(1,true),(2,true),(3,true),(4,true),(5,true),(6,true),(7,true),(8,true),(9,true),(10,true),(11,true),(12,true),(13,true),(14,true),(15,true),(16,true)] mixed (by rfl) (by kernel_rfl) (Step.drew _ _) ?_
 refine p (λ_=>Qa Z)<|pq (λ_ hc=>Qd (gc.ext hc) Z Z)<|p (λ_=>Qm)<|Go.Lg.pig Z (g:=Qcq) (λ_=>Z) ge.sl Z Z h6 λgu gh =>
  pq (λ_ hc=>Qv (gh.ext hc) Z)<|p (λ_=>Qm)<|p (λ_=>Qm)<|pii Z ((ht.ext hm).ext ha) Z Z V λgv hC=>?_
 rw[hA] at hC;refine pq (λ_ hc=>Qv (hC.ext hc) Z) <|
  p (λ_=>Qm)<|p (λ_=>QN ⟨Z,Z,La⟩)<|pq (λ_ hc=>Qfb (s:=q.a) (q:=tk) (v:=e) (gg.ext hc) hB.edi Z Z)<|p (λ_=>Qm)<|p (λ_=>Qj Z Z) <|
  p (λ_=>Qj Z Z)<|p (λ_=>Qe)<|p (λ_=>Qe)<|pe ?_
 have hD:Step [] Y { Y with drawn:=Y.drawn+1 }:=Step.drew _ _
 have hr:=ha.trans hD;refine QZ (α:=Bool) [(46,53)] (λz=>[(53,.bool z)]) (λz w'=>Step [] w5 w'∧z=(!(eget q.a.ed tk e).isSome && decide (e∈q.a.al))) (by rfl) ?_ ?_
 ·refine Qx<|Qb<|xB (Zs Z) (λhs=>?_) (λhs=>?_)
  ·refine Qb<|x (Qa Z)<|x (Qd (gb.ext hD) Z Z)<|Qb<|xl Z<|xf<|(Y3 ((he.al.ext hr)) hB.ali e).mono ?_;rintro r8 w8 ⟨rfl,rfl⟩;refine x (Qo Z)<|xe<|⟨decide (e∈q.a.al),Lb,hr,?_⟩;have hu:(!decide ((eget q.a.ed tk e).isSome=true))=true:=hs;have hv:(eget q.a.ed tk e).isSome=false:=by simpa using hu
   rw[hv];rfl
  refine Qb<|xs Z<|xs Z<|xs Z<|xs Z<|x (Qo Z)<|xe<|⟨false,Lb,hr,?_⟩;have hu:(!decide ((eget q.a.ed tk e).isSome=true))=false:=hs;have hv:(eget q.a.ed tk e).isSome=true:=by simpa using hu
  rw[hv];rfl
 rintro z g w9 ⟨hw,hz⟩;rw[←hz] at I;refine QW rfl (λhy=>?_) (λhy=>?_)
 ·rw[if_pos hy] at I;refine Qx<|Qb<|Qb<|xl Z<|QH (us:=[[.int .i64 k]]) Z Z (by decide) (by simp) ⟨rfl,rfl,La⟩ λgx gy gi gz gj=>?_;have h0:=hw.trans gi;have g0:=h0.size;refine xl Z<|Q6 (news:=[.int .i64 k]) (L:=[]) (Qt U h0) Z Z Z (gj.at (by simp)) (by simp[Value.oneCell']) (by omega) (by omega) λgk g1 gl gm g2 =>
   Qf<|Qx<|QQ Z Z<|Qb<|xe ?_
  have hge:=Qq U;refine ⟨(k+1,gk),by simp only[];omega,⟨Z,Z,La⟩,H,(J.trans h0).then gm (λb hb=>.inr (hge b hb).1),?_⟩;simp only[];rw[I];exact Qs.snoc gl
 rw[if_neg (by rw[hy];simp),LS] at I;refine Qi<|Qx<|QQ Z Z<|Qb<|xe ?_;exact ⟨(k+1,vo),by simp only[];omega,⟨Z,Z,La⟩,H,J.trans hw,by simp only[];rw[I];exact Qt U hw⟩
section
variable {s:QD} {l:List V8} {n:Nat}
end
section
variable {s:QD} {l:List V8} {n:Nat}
end
section
variable {s:QD} {l:List V8} {n:Nat}
end
section
variable {p s:QD} {pairs:List (LI)}
end
section
variable {s:QD} {l:List V8} {n:Nat}
end
section
variable {s:QD} {l:List V8} {n:Nat} {nm:LI}
end
end Go.Proofs.YtjcgijbhaemldaaGreatDoor
