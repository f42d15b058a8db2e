/- Merged out of 22 texts. -/
import Derived.Test.YtjcgijbhaemldaaGreatDoorKae
import Derived.Test.YtjcgijbhaemldaaGreatDoorRows
import Derived.JoinedOf
import Derived.Test.YtjcgijbhaemldaaGreatDoorCards
import Derived.SevenTiedAt
namespace Go.Proofs.YtjcgijbhaemldaaGreatDoor
open Go.Lg
def cA (c:Q4) (i:Nat):QD:=(auts c.co++auts c.rq).getD i ⟨[],0,[],[]⟩
def Z5 (c:Q4):Nat:=c.co.length+c.rq.length
def mI (c:Q4) (m:YZ):LN:=m.co.map Int.toNat++(prt m).rq.map λi=>c.co.length+i.toNat
def tpl (n:Nat) (x:Nat→Int):LI:=(List.range n).map x
theorem yC {c:Q4}{i:Nat}(h:i<c.co.length):cA c i=(c.co.getD i dI).a:=by
 have h1:i<(auts c.co).length:=by rw[Zx];exact h
 unfold cA;rw[LA,L9 h1,ZG h];unfold auts;simp[h]
theorem Qdd {c:Q4}{k:Nat}(h:k<c.rq.length):cA c (c.co.length+k)=(c.rq.getD k dI).a:=by
 have h1:(auts c.co).length≤c.co.length+k:=by rw[Zx];omega
 unfold cA;rw[LA,Mw h1,Zx,Ns,ZG h];unfold auts;simp[h]
theorem yD (c:Q4):auts c.co++auts c.rq=(List.range (Z5 c)).map (cA c):=by
 refine LX (by rw[Ll,Zx,Zx,Li,M7];rfl) λi h1 h2=>?_;rw[LJ,Mn];unfold cA;rw[ZG h1]
theorem V0 (c:Q4):auts c.co=(List.range c.co.length).map (cA c):=by
 refine LX (by rw[Zx,Li,M7]) λi h1 h2=>?_;have h3:i<c.co.length:=by rw[Zx] at h1;exact h1
 rw[LJ,Mn,yC h3,ZG h3];show (c.co.map (·.a))[i]'(by rw[Li];exact h3)=_;rw[LJ]
theorem Qge {c:Q4}(h:Xv c) {i:Nat}(hi:i<Z5 c):jl (cA c i):=by
 have h1:i<(auts c.co++auts c.rq).length:=by rw[Ll,Zx,Zx];exact hi
 unfold cA;rw[ZG h1];exact Zw h _ (Le h1)
theorem qw {c:Q4}(h:Xv c) {m:YZ}(hm:m∈mods c):∀i∈mI c m,i<Z5 c:=λi hi=>by
 unfold Z5;rcases Lp.1 hi with hi | hi
 ·obtain ⟨j,hj,rfl⟩:=Lq.1 hi;have:=(XJ h hm).2 j hj;omega
 rcases Je h hm with ⟨k,hk,e⟩ | ⟨k,hk,e⟩ | ⟨k,hk,e⟩
 ·subst e;rw[U4] at hi;have:i=c.co.length+k:=by simpa using hi
  omega
 ·subst e;rw[QdT] at hi;cases hi
 subst e;rw[QdU] at hi;cases hi
theorem Qfp {c:Q4}(h:Xv c) {m:YZ}(hm:m∈mods c):auts (Yb c m).co=(m.co.map Int.toNat).map (cA c):=by
 show auts (chs c.co m.co)=_;unfold auts chs;rw[Mf,Mf];refine MK λi hi=>?_;have h1:=(XJ h hm).2 i hi;show (c.co.getD i.toNat dI).a=cA c i.toNat;rw[yC (by omega)]
theorem Yu {c:Q4}(h:Xv c) {m:YZ}(hm:m∈mods c):auts (Yb c m).co++auts (Yb c m).rq=(mI c m).map (cA c):=by
 unfold mI;rw[Ly,Qfp h hm];congr 1;rcases Je h hm with ⟨k,hk,e⟩ | ⟨k,hk,e⟩ | ⟨k,hk,e⟩
 ·subst e;rw[U4,zN];show [(c.rq.getD k dI).a]=[cA c (c.co.length+k)];rw[Qdd hk]
 ·subst e;rfl
 subst e;rfl
theorem Qd5 {c:Q4}(h:Xv c) {i:Nat}(hi:i<Z5 c):(∃m∈mods c,i∈mI c m)∨i<c.co.length∧(i:Int)∈rem c:=by
 by_cases hc:i<c.co.length
 ·by_cases E:(i:Int)∈rem c
  ·exact .inr ⟨hc,E⟩
  left;rw[QaJ (by have:=h.c3;omega),qR] at E;by_cases I:∃m∈mods c,(i:Int)∈m.co
  ·obtain ⟨m,hm,H⟩:=I;exact ⟨m,hm,Lz _ (Lq.2 ⟨(i:Int),H,Z⟩)⟩
  exact absurd ⟨⟨by omega,by omega⟩,λm hm H=>I ⟨m,hm,H⟩⟩ E
 left;have hk:i - c.co.length<c.rq.length:=by unfold Z5 at hi;omega
 refine ⟨jb c (i - c.co.length),QnD h hk,L4 _ ?_⟩;rw[U4];refine Lq.2 ⟨_,Lc.2 Z,?_⟩;rw[LO];omega
abbrev mB (c:Q4) (m:YZ):QD:=(spc (Yb c m)).a
abbrev mQ (c:Q4) (m:YZ):List (LI):=XG (auts (Yb c m).co++auts (Yb c m).rq)
abbrev mL (c:Q4) (m:YZ):Lf:=YG (mB c m) (fbs (spc (Yb c m))) (unc c.ev)
theorem Z3 {c:Q4}(h:Xv c):ze (auts c.co++auts c.rq) (spc c).a (XG (auts c.co++auts c.rq))∧ze (auts c.co) (UX (auts c.co)) (XG (auts c.co))∧0<(spc c).a.st∧0<(UX (auts c.co)).st ∧
  spc c=⟨(spc c).a,(XG (auts c.co++auts c.rq)).map (·.take c.co.length),(XG (auts c.co++auts c.rq)).map (·.drop c.co.length),(XG (auts c.co++auts c.rq)).map (λt=>plx (XG (auts c.co)) (t.take c.co.length)),spF c (UX (auts c.co)) (XG (auts c.co)) (XG (auts c.co++auts c.rq))⟩:=by
 obtain ⟨pl,ps,sa,ts,e1,e2,_⟩:=UI h;have he:=QdG e1 e2;have E:=Zw h;have a1:UX (auts c.co)=pl:=by unfold UX;rw[e1]
 have a2:XG (auts c.co)=ps:=by unfold XG;rw[e1]
 have a4:XG (auts c.co++auts c.rq)=ts:=by unfold XG;rw[e2]
 have H:(spc c).a=sa:=by rw[he]
 have I:=Yj (λa ha=>(E a ha).ok) e2;have J:=Yj (λa ha=>(E a (Lz _ ha)).ok) e1;have p1:ts.length≠0:=λe=>by
  obtain ⟨a,ha,e0⟩:=I.2.1 e;have:=(E a ha).p;omega
 have p2:ps.length≠0:=λe=>by
  obtain ⟨a,ha,e0⟩:=J.2.1 e;have:=(E a (Lz _ ha)).p;omega
 have q1:=I.1.st;have q2:=J.1.st;refine ⟨by rw[H,a4];exact I.1,by rw[a1,a2];exact J.1,by rw[H];omega,by rw[a1];omega,?_⟩;rw[a1,a2,a4,H];exact he
theorem QnT (c:Q4) (m:YZ):U8 c m=X8 (mB c m) (fbs (spc (Yb c m))) (unc c.ev):=rfl
structure X6 (c:Q4) (x:Nat→Int) (t:LI):Prop where
 l:t.length=(mods c).length+(rem c).length
 m:∀k (h:k<(mods c).length),X1 (mB c ((mods c)[k]'h)) (mQ c ((mods c)[k]'h)) (mL c ((mods c)[k]'h)) ((mI c ((mods c)[k]'h)).map x) (cget t k)
 r:∀k (h:k<(rem c).length),cget t ((mods c).length+k)=x ((rem c)[k]'h).toNat
theorem Z2 (c:Q4):(ZD c).length=(mods c).length+(rem c).length:=by
 show ((mods c).map (U8 c)++(rem c).map (coA c)).length=_;rw[Ll,Li,Li]
theorem zk (c:Q4) {k:Nat}(h:k<(mods c).length) (h':k<(ZD c).length):(ZD c)[k]'(h')=U8 c ((mods c)[k]'h):=by
 have e:ZD c=(mods c).map (U8 c)++(rem c).map (coA c):=rfl;simp only[e];rw[L7 (by simpa using h),LJ]
theorem zj (c:Q4) {k:Nat}(h:k<(rem c).length) (h':(mods c).length+k<(ZD c).length):(ZD c)[(mods c).length+k]'(h')=coA c ((rem c)[k]'h):=by
 have e:ZD c=(mods c).map (U8 c)++(rem c).map (coA c):=rfl;simp only[e];rw[MH (by simp)];simp
theorem Vb {c:Q4}{i:Int}(h:i∈rem c):coA c i=cA c i.toNat:=by
 have h1:=Kf i h;rw[yC (by omega)]
 first | done | rfl
structure jj (c:Q4):Prop where
 d:Xv c
 n:∀m∈mods c,m.co≠[]
 s:∀a∈ZD c,a.st≠0
theorem jj.sup {c:Q4}(h:jj c) {m:YZ}(hm:m∈mods c):U8 c m=ZJ (rstr (mB c m) (mL c m))∧lft (mL c m) 0=true∧QM (mB c m)∧0<(mB c m).st∧ze (auts (Yb c m).co++auts (Yb c m).rq) (mB c m) (mQ c m)∧(∀a∈auts (Yb c m).co++auts (Yb c m).rq,QM a):=by
 have hd:=KZ h.d hm (h.n m hm);have hs:=Z3 hd;have E:=Zw hd;have h1:(U8 c m).st≠0:=h.s _ (Lz _ (Lq.2 ⟨m,hm,Z⟩));obtain ⟨_,h2,h3⟩:=KN h1;exact ⟨h3,h2,hs.1.okay (λa ha=>(E a ha).ok),hs.2.2.1,hs.1,λa ha=>(E a ha).ok⟩
theorem X6.step {c:Q4}(h:jj c) {x:Nat→Int}{t u:LI}{v:Int}(ht:X6 c x t) (hu:Q5 v (ZD c) t=some u):X6 c (nx v (cA c) x) u∧∀i,i<Z5 c→(pst v (cA c i) (x i)).isSome=true:=by
 obtain ⟨h1,h2⟩:=(YC v _ _ u (by rw[ht.l,Z2])).1 hu;rw[Z2] at h1;have hm:∀k (hk:k<(mods c).length),X1 (mB c ((mods c)[k]'hk)) (mQ c ((mods c)[k]'hk)) (mL c ((mods c)[k]'hk)) ((mI c ((mods c)[k]'hk)).map (nx v (cA c) x)) (cget u k)∧∀i∈mI c ((mods c)[k]'hk),(pst v (cA c i) (x i)).isSome=true:=λk hk=>by
  have E:=Le hk;have hS:=h.sup E;have h3:=h2 k (by rw[Z2];omega);rw[zk c hk,hS.1] at h3;obtain ⟨Y,h4,h5⟩:=X1.step hS.2.2.2.2.2 hS.2.2.2.2.1 hS.2.2.1 hS.2.2.2.1 (ht.m k hk) h3;rw[Yu h.d E] at h4;obtain ⟨h6,I⟩:=J0 h4;rw[h6] at h5;exact ⟨h5,I⟩
 have H:∀k (hk:k<(rem c).length),pst v (cA c ((rem c)[k]'hk).toNat) (x ((rem c)[k]'hk).toNat)=some (cget u ((mods c).length+k)):=λk hk=>by
  have h3:=h2 ((mods c).length+k) (by rw[Z2];omega);rw[zj c hk,ht.r k hk,Vb (Le hk)] at h3;exact h3
 refine ⟨⟨h1,λk hk=>(hm k hk).1,λk hk=>?_⟩,λi hi=>?_⟩
 ·have h3:=H k hk;unfold nx;rw[h3];rfl
 rcases Qd5 h.d hi with ⟨m,J,U⟩ | ⟨_,V⟩
 ·obtain ⟨k,hk,e⟩:=LB J;exact (hm k hk).2 i (by rw[e];exact U)
 obtain ⟨k,hk,e⟩:=LB V;have h3:=H k hk;rw[e] at h3;rw[LO] at h3;rw[h3];rfl
theorem X6.init {c:Q4}(h:jj c):X6 c (λ_=>0) (List.replicate (ZD c).length 0):=by
 have E:∀k,cget (List.replicate (ZD c).length (0:Int)) k=0:=λk=>by
  unfold cget;rw[LA,List.getElem?_replicate];split <;> rfl
 refine ⟨by rw[Ng,Z2],λk hk=>?_,λk hk=>E _⟩;have H:=Le hk;have hS:=h.sup H;have h1:=X1.init hS.2.2.2.2.1 hS.2.2.1 hS.2.2.2.1 hS.2.1;have e:(mI c ((mods c)[k]'hk)).map (λ_=>(0:Int))=List.replicate (auts (Yb c ((mods c)[k]'hk)).co++auts (Yb c ((mods c)[k]'hk)).rq).length 0:=by
  rw[Yu h.d H,Li];exact List.map_const' ..
 rw[E,e];exact h1
theorem Qno {n:Nat}{x y:Nat→Int}(h:tpl n x=tpl n y):∀i,i<n→x i=y i:=λi hi=>by
 have h1:cget (tpl n x) i=cget (tpl n y) i:=by rw[h]
 unfold tpl at h1;rw[UM (by simpa using hi),UM (by simpa using hi),Mn] at h1;exact h1
theorem X6.uniq {c:Q4}(h:jj c) {x y:Nat→Int}{t u:LI}(ht:X6 c x t) (hu:X6 c y u) (e:tpl (Z5 c) x=tpl (Z5 c) y):t=u:=by
 have H:=Qno e;refine LX (by rw[ht.l,hu.l]) λk h1 h2=>?_;rw[Q9 h1,Q9 h2];have hl:=ht.l;by_cases hk:k<(mods c).length
 ·have I:=Le hk;have hS:=h.sup I;have a1:=ht.m k hk;have a2:=hu.m k hk;have e2:(mI c ((mods c)[k]'hk)).map x=(mI c ((mods c)[k]'hk)).map y:=MK λi hi=>H i (qw h.d I i hi);rw[e2] at a1;exact X1.uniq hS.2.2.2.2.1 hS.2.2.1 hS.2.2.2.1 a1 a2
 have E:k - (mods c).length<(rem c).length:=by omega
 have a1:=ht.r _ E;have a2:=hu.r _ E;rw[show (mods c).length+(k - (mods c).length)=k by omega] at a1 a2;rw[a1,a2];refine H _ ?_;have:=Kf _ (Le E);unfold Z5;omega
theorem QbQ {c:Q4}(h:Xv c) (V:∀m∈mods c,m.co≠[]):∃z,sync (ZD c)=some z:=by
 by_cases J:∃a∈ZD c,a.st=0
 ·unfold sync;rw[if_pos J];exact ⟨_,rfl⟩
 have H:jj c:=⟨h,V,λa ha e=>J ⟨a,ha,e⟩⟩;have Y:Z5 c≤5:=by have:=h.c3;have:=h.r2;unfold Z5;omega
 have hB:3 ^ Z5 c≤4096:=LT (Nat.pow_le_pow_right (by omega) Y) (by decide);let Q:(Nat→Int)→LI→Prop:=λx t=>(∀i,i<Z5 c→0≤x i∧x i<(cA c i).st)∧X6 c x t;refine Qav (P:=λt=>∃x,Q x t) hB (λl hc hp=>?_) (λ_=>⟨λ_=>0,λi hi=>⟨MQ _,(Qge h hi).p⟩,X6.init H⟩) (λt ht v _ u hu=>?_)
 ·have he:∀t:LI,∃u:LI,t∈l→∃x,Q x t∧u=tpl (Z5 c) x:=λt=>by
   by_cases ht:t∈l
   ·obtain ⟨x,hx⟩:=hp t ht;exact ⟨_,λ_=>⟨x,hx,Z⟩⟩
   exact ⟨[],λe=>absurd e ht⟩
  obtain ⟨g,I⟩:=Classical.skolem.1 he;have E:∀t∈l,(g t).length=Z5 c∧∀y∈g t,0≤y∧y<((3:Nat):Int):=λt ht=>by
   obtain ⟨x,hx,e⟩:=I t ht;rw[e];unfold tpl;refine ⟨by simp,λy hy=>?_⟩;obtain ⟨i,hi,rfl⟩:=Lq.1 hy;have U:i<Z5 c:=L8.1 hi;have h1:=hx.1 i U;have h2:=(Qge h U).s;omega
  have h1:(l.map λt=>K8 3 (g t)).Nodup:=by
   unfold List.Nodup;rw[ME];refine List.Pairwise.imp_of_mem (λ{a b} ha hb hf e=>hf ?_) hc;have e2:g a=g b:=yo (by rw[(E a ha).1,(E b hb).1]) (E a ha).2 (E b hb).2 e;obtain ⟨x,hx,ex⟩:=I a ha;obtain ⟨y,hy,ey⟩:=I b hb;exact X6.uniq H hx.2 hy.2 (by rw[←ex,←ey,e2])
  have h2:=pig (3 ^ Z5 c) _ h1 (λu hu=>by
   obtain ⟨t,ht,rfl⟩:=Lq.1 hu;have h3:=Qbl (E t ht).2;rw[(E t ht).1] at h3;exact h3)
  rw[Li] at h2;exact h2
 obtain ⟨x,hh,hj⟩:=ht;obtain ⟨h1,h2⟩:=X6.step H hj hu;exact ⟨_,λi hi=>QnG (Qge h hi).ok (hh i hi) (Qa0 (h2 i hi)),h1⟩
theorem zK {c:Q4}(h:Xv c) {m:YZ}(hm:m∈mods c):(m.co=[]→yX c m=12)∧(m.co≠[]→yX c m=0):=by
 have I:mdE c m=0:=QlE h (by rw[←h.lmd];exact hm);have H:mcE c m=Zf (Yb c m):=by unfold mcE;rw[if_neg (not_not_intro I),QnX h hm]
 constructor
 ·intro E;unfold yX;rw[H,QnY h E];rfl
 intro E;have hd:=KZ h hm E;obtain ⟨_,_,_,_,_,_,e⟩:=UI hd;unfold yX;rw[H,hd.ck,if_neg (by decide)];exact e
theorem QiD {c:Q4}:∀(l:List YZ),(∀m∈l,yX c m=0∨yX c m=12)→msL c l=0∨msL c l=12
 | [],_=>.inl Z
 | m::l,h=>by
  rw[Ul];split
  ·exact h m Lm
  exact QiD l λq hq=>h q (Lk _ hq)
theorem QiG {c:Q4}(h:Xv c):(mods c).length≤5:=by
 have h2:=h.r2;have h3:=h.x2;have h4:=h.k1;rw[h.lmd];unfold lmd;rw[Ll,Ll,Qft,Qa5,Qa5,Li,Li];omega
theorem Qnq {c:Q4}(h:Xv c):X2 c=0∨X2 c=12:=by
 have H:KC c=msL c (mods c):=by rw[UY,if_neg (not_not_intro h.ck)]
 have I:=QiD (c:=c) (mods c) λm hm=>by
  by_cases E:m.co=[]
  ·exact .inr ((zK h hm).1 E)
  exact .inl ((zK h hm).2 E)
 rw[QeQ];by_cases h1:KC c≠0
 ·rw[if_pos h1,H];exact I
 rw[if_neg h1];left;have h2:KC c=0:=Lo.1 h1;have J:=Uk (c:=c) (l:=mods c) (by rw[←H];exact h2);obtain ⟨z,e⟩:=QbQ h (λm hm E=>by
  have:=J m hm;rw[(zK h hm).1 E] at this;cases this)
 have hck:JP (ZD c)=0:=by
  have h3:=QiG h;have h4:=QaE (mods c) c.co.length;have h5:=h.c3;unfold JP;rw[if_neg (by rw[Z2,QaJ (by omega)];omega)];exact (Jw _).2 (YI h2)
 unfold X9;rw[if_neg (not_not_intro hck),e]
theorem Qpf {c:Q4}(h:Xv c) (H:X2 c=0) (h1:(ZT c).st≠0):jj c:=by
 have E:=XD H;have I:KC c=msL c (mods c):=by rw[UY,if_neg (not_not_intro h.ck)]
 refine ⟨h,λm hm e=>?_,λa ha e=>?_⟩
 ·have:=Uk (c:=c) (l:=mods c) (by rw[←I];exact E.1) m hm;rw[(zK h hm).1 e] at this;cases this
 have h2:=Yj (YI E.1) (Qaw E.2).1;have h3:=h2.2.2 ⟨a,ha,e⟩;have h4:(ZT c).st=((XG (ZD c)).length:Int):=h2.1.st;omega
theorem QfX {c:Q4}(h:Xv c) {v:Int}(J:v∈evs (auts c.co++auts c.rq)):v∈evs (auts c.co):=by
 have E:=Zw h;have H:∀a∈auts c.co,QM a:=λa ha=>(E a (Lz _ ha)).ok;obtain ⟨a,ha,I⟩:=(ZC (λa ha=>(E a ha).ok) v).1 J;rcases Lp.1 ha with ha | ha
 ·exact (ZC H v).2 ⟨a,ha,I⟩
 obtain ⟨x,hx,rfl⟩:=Lq.1 ha;obtain ⟨y,hy,U⟩:=(h.rq x hx).2.2 v I;exact (ZC H v).2 ⟨y.a,Lq.2 ⟨y,hy,Z⟩,U⟩
theorem QdC {v:Int}{aa bb:List QD}{t u:LI}(hl:t.length=(aa++bb).length) (h:Q5 v (aa++bb) t=some u):Q5 v aa (t.take aa.length)=some (u.take aa.length):=by
 obtain ⟨h1,h2⟩:=(YC v _ _ u hl).1 h;rw[Ll] at h1 hl;have E:∀(l:LI) k,k<aa.length→cget (l.take aa.length) k=cget l k:=λl k hk=>by
  unfold cget;rw[LA,List.getElem?_take_of_lt hk,←LA]
 refine (YC v _ _ _ (by rw[LD];omega)).2 ⟨by rw[LD];omega,λk hk=>?_⟩;have h3:=h2 k (by rw[Ll];omega);rw[L7 hk] at h3;rw[E t k hk,E u k hk];exact h3
theorem Qff {c:Q4}(h:Xv c):∀t∈XG (auts c.co++auts c.rq),t.length=Z5 c∧t.take c.co.length∈XG (auts c.co):=by
 obtain ⟨pl,ps,sa,ts,e1,e2,_⟩:=UI h;have U:=Zw h;have hs:=Z3 h;have a4:XG (auts c.co++auts c.rq)=ts:=by unfold XG;rw[e2]
 have E:(auts c.co++auts c.rq).length=Z5 c:=by rw[Ll,Zx,Zx];rfl
 have H:(auts c.co).length=c.co.length:=Zx _;have hp:=hs.2.2.2.1;have V:=hs.2.1.st;have I:0<(XG (auts c.co)).length:=by omega
 have key:=QbR (P:=λt=>t.length=Z5 c∧t.take c.co.length∈XG (auts c.co)) e2 (by
  refine ⟨by rw[Ng,E],?_⟩;rw[List.take_replicate,E,show min c.co.length (Z5 c)=c.co.length by unfold Z5;omega];have h1:=hs.2.1.hd I;rw[H] at h1;rw[←h1];exact (ZM I).2) (λt ht v J u hu=>by
  have h1:t.length=(auts c.co++auts c.rq).length:=by rw[ht.1,E]
  refine ⟨by rw[((YC v _ _ u h1).1 hu).1,E],?_⟩;have h2:=QdC h1 hu;rw[H] at h2;have hj:=LU ht.2;have h3:(XG (auts c.co)).getD ((XG (auts c.co)).idxOf (t.take c.co.length)) []=t.take c.co.length:=by
   rw[(ZM hj).1,M4]
  exact hs.2.1.cl _ hj v (QfX h J) _ (by rw[h3];exact h2))
 intro t ht;rw[a4] at ht;exact key t ht
theorem QaU {c:Q4}(_h:Xv c) {t:LI}(ht:t∈XG (auts c.co)):plx (XG (auts c.co)) t=((XG (auts c.co)).idxOf t:Int)∧(XG (auts c.co)).idxOf t<(XG (auts c.co)).length∧(XG (auts c.co)).getD ((XG (auts c.co)).idxOf t) []=t:=by
 have hj:=LU ht;refine ⟨by unfold plx;rw[if_pos ht],hj,by rw[(ZM hj).1,M4]⟩
theorem Qbm {a:QD}(E:QM a) (x v:Int):v∈enb a x↔(eget a.ed x v).isSome=true:=by rw[Qmm E,zI E]
theorem Qjt {c:Q4}(h:Xv c) {s:Nat}(hs:s<(XG (auts c.co++auts c.rq)).length) (H:(rsn c (UX (auts c.co)) (plx (XG (auts c.co)) (((XG (auts c.co++auts c.rq)).getD s []).take c.co.length)) s ((XG (auts c.co++auts c.rq)).getD s [])).isSome=true):(s:Int)∈fbs (spc c):=by
 have he:=(Z3 h).2.2.2.2;obtain ⟨r,E⟩:=Mh.1 H;unfold fbs;rw[he];refine Lq.2 ⟨r,?_,?_⟩
 ·unfold spF;refine MD.2 ⟨((XG (auts c.co++auts c.rq)).getD s [],s),?_,E⟩;rw[List.mem_zipIdx_iff_getElem?,(ZM hs).1];exact LE hs
 unfold rsn at E;split at E
 ·cases E;rfl
 split at E
 ·cases E;rfl
 cases E
theorem QfP {α:Type}{q:α→Bool}{l:List α}{i:Nat}(h:∃x∈l,q x=true):0≤fix q i l:=by
 have h1:=UC q l i;rw[Mk.2 h] at h1;exact of_decide_eq_true h1
theorem QfQ {α:Type}{q:α→Bool}{l:List α}{i:Nat}(h:0≤fix q i l):∃k,∃hk:k<l.length,q (l[k]'hk)=true:=by
 have h1:=UC q l i;rw[decide_eq_true h] at h1;obtain ⟨x,hx,hq⟩:=Mk.1 h1.symm;obtain ⟨k,hk,e⟩:=LB hx;exact ⟨k,hk,by rw[e];exact hq⟩
theorem Qhj {c:Q4}{t:LI}(h:∃x∈c.ex,JZ t x=true):(vio c t).isSome=true:=by
 unfold vio;rw[if_pos (QfP h)];rfl
theorem Qhk {c:Q4}{t:LI}(h:∃x∈c.cs,KA t x=true):(vio c t).isSome=true:=by
 unfold vio;split
 ·rfl
 rw[if_pos (QfP h)];rfl
theorem Qaq {c:Q4}{t:LI}{p:Int×Int}(h:vio c t=some p):(∃k,∃hk:k<c.ex.length,JZ t (c.ex[k]'hk)=true)∨∃k,∃hk:k<c.cs.length,KA t (c.cs[k]'hk)=true:=by
 unfold vio at h;split at h
 ·rename_i h1;exact .inl (QfQ h1)
 split at h
 ·rename_i h1;exact .inr (QfQ h1)
 cases h
theorem Qe4 {c:Q4}{pl:QD}{k:Int}{i:Nat}{t:LI}(h:(vio c (t.take c.co.length)).isSome=true):(rsn c pl k i t).isSome=true:=by
 obtain ⟨p,hp⟩:=Mh.1 h;obtain ⟨a,b⟩:=p;unfold rsn;rw[hp];rfl
theorem Qe5 {c:Q4}{pl:QD}{k:Int}{i:Nat}{t:LI}(h:(rfd c (t.drop c.co.length) (VW pl k)).isSome=true):(rsn c pl k i t).isSome=true:=by
 obtain ⟨p,hp⟩:=Mh.1 h;obtain ⟨a,b⟩:=p;unfold rsn;split
 ·rfl
 rw[hp];rfl
theorem QnC {c:Q4}{pl:QD}{k:Int}{i:Nat}{t:LI}{r:Rsn}(h:rsn c pl k i t=some r):r.st=(i:Int)∧(r.kd≠3→(vio c (t.take c.co.length)).isSome=true):=by
 unfold rsn at h;split at h
 ·rename_i e;cases h;exact ⟨Z,λ_=>by rw[e];rfl⟩
 split at h
 ·cases h;exact ⟨Z,λe=>absurd Z e⟩
 cases h
theorem QaI {c:Q4}{rs:LI}{v:Int}(E:0≤rfr v 0 c.rq rs) (hc:(c.ev.getD v.toNat ⟨.empty,false,false,false,0⟩).co=false):∀l:LI,v∈l→(rfd c rs l).isSome=true
 | w::l,h=>by
  rw[rfd];split
  ·rfl
  rename_i h1;rcases Lh.1 h with e | h
  ·subst e;exact absurd ⟨E,hc⟩ h1
  exact QaI E hc l h
theorem X1.free {c:Q4}(h:jj c) {m:YZ}(hm:m∈mods c) {q:LI}{y:Int}(E:X1 (mB c m) (mQ c m) (mL c m) q y):vio (Yb c m) (q.take (Yb c m).co.length)=none ∧
  rfd (Yb c m) (q.drop (Yb c m).co.length) (VW (UX (auts (Yb c m).co)) (plx (XG (auts (Yb c m).co)) (q.take (Yb c m).co.length)))=none∧q∈mQ c m:=by
 obtain ⟨j,s,_,_,_,h3,h4,h5⟩:=E;have hd:=KZ h.d hm (h.n m hm);have H:(s:Int)∉fbs (spc (Yb c m)):=λI=>QiY h4 _ I Z;have h6:∀e:(rsn (Yb c m) (UX (auts (Yb c m).co)) (plx (XG (auts (Yb c m).co)) (((mQ c m).getD s []).take (Yb c m).co.length)) s ((mQ c m).getD s [])).isSome=true,False:=λe=>H (Qjt hd h3 e);rw[h5] at h6;refine ⟨?_,?_,by rw[←h5];exact (ZM h3).2⟩
 ·cases e:vio (Yb c m) (q.take (Yb c m).co.length) with
  | none=>rfl
  | some p=>exact absurd (Qe4 (by rw[e];rfl)) h6
 cases e:rfd (Yb c m) (q.drop (Yb c m).co.length) (VW (UX (auts (Yb c m).co)) (plx (XG (auts (Yb c m).co)) (q.take (Yb c m).co.length))) with
 | none=>rfl
 | some p=>exact absurd (Qe5 (by rw[e];rfl)) h6
theorem QfG {co:LI}{x:Nat→Int}{i:Int}(hi:i∈co):(co.map λi=>x i.toNat).getD ((co.idxOf i:Int)).toNat 0=x i.toNat:=by
 have hl:=LU hi;have e:(co.map λi=>x i.toNat).getD (co.idxOf i) 0=x ((co[co.idxOf i]'hl).toNat):=by
  rw[ZG (by simpa using hl),LJ]
 rw[M4] at e;rw[LO];exact e
theorem qN {n:Nat}{x:Nat→Int}{i:Nat}(h:i<n):(tpl n x).getD i 0=x i:=by
 unfold tpl;rw[ZG (by simpa using h),LJ,Mn]
theorem QeN {co:LI}{n:Nat}{x:Nat→Int}{nm:ByteArray}{q:Exc}(hc:∀l∈q.ls,l.1∈co∧0≤l.1∧l.1<(n:Int)):JZ (co.map λi=>x i.toNat) ⟨nm,ixP co q.ls⟩=JZ (tpl n x) q:=by
 have e:∀l∈q.ls,(co.map λi=>x i.toNat).getD ((co.idxOf l.1:Int)).toNat 0=(tpl n x).getD l.1.toNat 0:=λl hl=>by
  have:=hc l hl;rw[QfG this.1,qN (by omega)]
 unfold JZ;rw[Bool.eq_iff_iff,LZ,LZ];constructor
 ·intro h l hl;have h1:=of_decide_eq_true (h (((co.idxOf l.1:Nat):Int),l.2) (Lq.2 ⟨l,hl,Z⟩));refine decide_eq_true ?_;rw[←e l hl];exact h1
 intro h p hp;obtain ⟨l,hl,rfl⟩:=Lq.1 hp;have h1:=of_decide_eq_true (h l hl);refine decide_eq_true ?_;show (co.map λi=>x i.toNat).getD ((co.idxOf l.1:Int)).toNat 0=l.2;rw[e l hl];exact h1
theorem QeY {co T T':LI}:∀(ls:List (Int×Int)) (s:Int),(∀l∈ls,T.getD ((co.idxOf l.1:Int)).toNat 0=T'.getD l.1.toNat 0)→(ixP co ls).foldl (λs p=>s+p.2*T.getD p.1.toNat 0) s=ls.foldl (λs p=>s+p.2*T'.getD p.1.toNat 0) s
 | [],_,_=>rfl
 | l::ls,s,h=>by
  show (ixP co ls).foldl (λs p=>s+p.2*T.getD p.1.toNat 0) (s+l.2*T.getD ((co.idxOf l.1:Int)).toNat 0)=ls.foldl (λs p=>s+p.2*T'.getD p.1.toNat 0) (s+l.2*T'.getD l.1.toNat 0);rw[h l Lm];exact QeY ls _ λl hl=>h l (Lk _ hl)
theorem QeO {co:LI}{n:Nat}{x:Nat→Int}{nm:ByteArray}{q:JF}(hc:∀l∈q.ts,l.1∈co∧0≤l.1∧l.1<(n:Int)):KA (co.map λi=>x i.toNat) ⟨nm,ixP co q.ts,q.bd⟩=KA (tpl n x) q:=by
 have e:=QeY (co:=co) (T:=co.map λi=>x i.toNat) (T':=tpl n x) q.ts 0 (λl hl=>by
  have:=hc l hl;rw[QfG this.1,qN (by omega)])
 unfold KA Qnt;simp only[];rw[e]
theorem QiK (c:Q4) (m:YZ):(Yb c m).co.length=m.co.length:=Ks _ _
theorem zD (c:Q4) (m:YZ) (x:Nat→Int):((mI c m).map x).take (Yb c m).co.length=m.co.map λi=>x i.toNat:=by
 unfold mI;rw[QiK,Ly,Mf,List.take_append_of_le_length (by simp),Ls (by simp)];rfl
theorem Qij (c:Q4) (m:YZ) (x:Nat→Int):((mI c m).map x).drop (Yb c m).co.length=(prt m).rq.map λi=>x (c.co.length+i.toNat):=by
 unfold mI;rw[QiK,Ly,Mf,List.drop_append_of_le_length (by simp),List.drop_eq_nil_of_le (by simp),Mt,Mf];rfl
theorem X6.free {c:Q4}(h:jj c) {x:Nat→Int}{t:LI}(ht:X6 c x t):vio c (tpl c.co.length x)=none:=by
 cases e:vio c (tpl c.co.length x) with
 | none=>rfl
 | some p =>
  exfalso;have key:∀m∈mods c,vio (Yb c m) (m.co.map λi=>x i.toNat)=none:=λm hm=>by
   obtain ⟨k,hk,ek⟩:=LB hm;have h1:=ht.m k hk;rw[ek] at h1;have h2:=(X1.free h hm h1).1;rw[zD] at h2;exact h2
  rcases Qaq e with ⟨k,hk,h1⟩ | ⟨k,hk,h1⟩
  ·have h2:=key _ (Qjz h.d hk);have hb:=XJ h.d (Qjz h.d hk);have h3:(vio (Yb c (K7 c k)) ((K7 c k).co.map λi=>x i.toNat)).isSome=true:=by
    rw[jJ];refine Qhj ⟨_,Lc.2 Z,?_⟩;rw[QeN (n:=c.co.length) (λl hl=>?_),ZG hk]
    ·exact h1
    have h4:l.1∈(K7 c k).co:=Lq.2 ⟨l,hl,Z⟩;exact ⟨h4,hb.2 _ h4⟩
   rw[h2] at h3;cases h3
  have h2:=key _ (QjO h.d hk);have hb:=XJ h.d (QjO h.d hk);have h3:(vio (Yb c (VG c k)) ((VG c k).co.map λi=>x i.toNat)).isSome=true:=by
   rw[jK];refine Qhk ⟨_,Lc.2 Z,?_⟩;rw[QeO (n:=c.co.length) (λl hl=>?_),ZG hk]
   ·exact h1
   have h4:l.1∈(VG c k).co:=Lq.2 ⟨l,hl,Z⟩;exact ⟨h4,hb.2 _ h4⟩
  rw[h2] at h3;cases h3
theorem Qhs {c:Q4}{v:Int}(h:v∈unc c.ev):(c.ev.getD v.toNat ⟨.empty,false,false,false,0⟩).co=false:=by
 obtain ⟨k,hk,e,h1⟩:=(XK _ _ _ _).1 h;rw[LR] at e;rw[e,LO,ZG hk];simpa using h1
theorem X6.unc {c:Q4}(h:jj c) {x:Nat→Int}{t:LI}(ht:X6 c x t) {v:Int}(V:v∈unc c.ev) (Y:∀i,i<c.co.length→(pst v (cA c i) (x i)).isSome=true):∃u,Q5 v (ZD c) t=some u:=by
 refine VR (by rw[ht.l,Z2]) λk hk=>?_;by_cases J:k<(mods c).length
 ·have hc:=Le J;have hS:=h.sup hc;have U:=ht.m k J;rw[zk c J,hS.1];revert hc hS U;generalize (mods c)[k]'J=m;intro hm hS U;have hl:(ZJ (rstr (mB c m) (mL c m))).al=evs (auts (Yb c m).co++auts (Yb c m).rq):=(YJ hS.2.2.1 hS.2.2.2.1 (mL c m)).al.trans hS.2.2.2.2.1.al;unfold pst;by_cases I:v∈(ZJ (rstr (mB c m) (mL c m))).al
  ·rw[if_pos I];rw[hl] at I;have he:∀i∈m.co.map Int.toNat,(pst v (cA c i) (x i)).isSome=true:=λi hi=>by
    obtain ⟨j,hj,rfl⟩:=Lq.1 hi;have:=(XJ h.d hm).2 j hj;exact Y _ (by omega)
   have hn:∀i∈mI c m,(pst v (cA c i) (x i)).isSome=true:=λi hi=>by
    rcases Lp.1 hi with hi | hi
    ·exact he i hi
    cases hp:pst v (cA c i) (x i) with
    | some _=>rfl
    | none =>
     exfalso;have hd:=KZ h.d hm (h.n m hm);obtain ⟨_,h2,h3⟩:=X1.free h hm U;rw[Qij,zD] at h2;have hf:=Qff hd _ h3;rw[zD] at hf;obtain ⟨p1,p2,p3⟩:=QaU hd hf.2;have hg:=(Z3 hd).2.1;have ho:=Zw hd;have hq:QM (UX (auts (Yb c m).co)):=hg.okay λa ha=>(ho a (Lz _ ha)).ok;have hs:v∈VW (UX (auts (Yb c m).co)) (plx (XG (auts (Yb c m).co)) (m.co.map λi=>x i.toNat)):=by
      refine (Qbm hq _ v).2 ?_;have H:=Y8 (v:=v) (A:=cA c) (x:=x) he;rw[Mf (f:=Int.toNat) (g:=x)] at H;rw[←Qfp h.d hm] at H;rw[p1,hg.step p2 v,p3,if_pos (QfX hd I)];rw[show (m.co.map λi=>x i.toNat)=m.co.map (x ∘ Int.toNat) from rfl,H];rfl
     have hu:0≤rfr v 0 (Yb c m).rq ((prt m).rq.map λi=>x (c.co.length+i.toNat)):=by
      rcases Je h.d hm with ⟨k',E,e⟩ | ⟨k',E,e⟩ | ⟨k',E,e⟩
      ·subst e;have ei:i=c.co.length+k':=by rw[U4] at hi;simpa using hi
       rw[ei,Qdd E] at hp;unfold pst at hp;split at hp
       ·rename_i hw;rw[zN,U4];show 0≤rfr v 0 [c.rq.getD k' dI] [x (c.co.length+((k':Nat):Int).toNat)];rw[Uf,LO,if_pos ⟨hw,by rw[hp];rfl⟩];exact MQ _
       cases hp
      ·subst e;rw[QdT] at hi;cases hi
      subst e;rw[QdU] at hi;cases hi
     have h4:=QaI (c:=Yb c m) hu (Qhs V) _ hs;rw[h2] at h4;cases h4
   have H:=Y8 (v:=v) (A:=cA c) (x:=x) hn;rw[←Yu h.d hm] at H;exact X1.unc hS.2.2.2.2.1 hS.2.2.1 hS.2.2.2.1 U I V H
  rw[if_neg I];rfl
 have E:k - (mods c).length<(rem c).length:=by rw[Z2] at hk;omega
 have e:k=(mods c).length+(k - (mods c).length):=by omega
 have h1:=zj c E (by rw[←e];exact hk);have h2:=ht.r _ E;have hr:=Le E;have h3:=Kf _ hr;have h4:=Y ((rem c)[k - (mods c).length]'E).toNat (by omega);rw[←Vb hr,←h1,←h2] at h4;have key:∀(a b:Nat) (ha:a<(ZD c).length) (hb:b<(ZD c).length),a=b→(pst v ((ZD c)[a]'ha) (cget t a)).isSome=true→(pst v ((ZD c)[b]'hb) (cget t b)).isSome=true:=by
  intro a b ha hb eab hh;subst eab;exact hh
 exact key _ _ _ _ e.symm h4
theorem Qpe {c:Q4}(h:jj c) {v:Int}(J:v∈evs (auts c.co)) (E:∀a∈ZD c,QM a):v∈evs (ZD c):=by
 have U:=Zw h.d;have V:∀a∈auts c.co,QM a:=λa ha=>(U a (Lz _ ha)).ok;obtain ⟨a,ha,H⟩:=(ZC V v).1 J;rw[V0] at ha;obtain ⟨i,hi,rfl⟩:=Lq.1 ha;have hb:=L8.1 hi;rcases Qd5 h.d (i:=i) (by unfold Z5;omega) with ⟨m,hm,Y⟩ | ⟨_,I⟩
 ·have hS:=h.sup hm;refine (ZC E v).2 ⟨U8 c m,Lz _ (Lq.2 ⟨m,hm,Z⟩),?_⟩;rw[hS.1,(YJ hS.2.2.1 hS.2.2.2.1 (mL c m)).al.trans hS.2.2.2.2.1.al];exact (ZC hS.2.2.2.2.2 v).2 ⟨cA c i,by rw[Yu h.d hm];exact Lq.2 ⟨i,Y,Z⟩,H⟩
 refine (ZC E v).2 ⟨coA c i,L4 _ (Lq.2 ⟨(i:Int),I,Z⟩),?_⟩;rw[Vb I];exact H
theorem zh {n m:Nat}{x:Nat→Int}(h:m≤n):(tpl n x).take m=tpl m x:=by
 unfold tpl;rw[←List.map_take,List.take_range,Ni h]
theorem J7:∀{aa:List QD}{t:LI},t.length=aa.length→(Yp aa t=true↔∀i (h:i<aa.length),cget t i∈(aa[i]'h).mr)
 | [],[],_=>⟨λ_ i h=>absurd h (Me i),λ_=>Z⟩
 | a::aa,x::t,hl=>by
  have ih:=J7 (aa:=aa) (t:=t) (by simpa using hl);rw[Yp,Lu,decide_eq_true_iff,ih];constructor
  ·rintro ⟨h1,h2⟩ i hi;cases i with
   | zero=>exact h1
   | succ i=>exact h2 i (by simpa using hi)
  intro h;exact ⟨h 0 (by simp),λi hi=>h (i+1) (by simpa using hi)⟩
theorem Qbn {es:List Ed}{lf:Lf}:∀(f i:Nat) (z:LI×LI),(q7 es lf f i z).1.length=z.1.length
 | 0,_,_=>rfl
 | f+1,i,z=>by
  rw[q7];split
  ·rw[Qbn f];have k2:∀(x:Int) (E:LI) (z:LI×LI),(E.foldl (Va lf x) z).1.length=z.1.length:=by
    intro x E;induction E with
    | nil=>intro z;rfl
    | cons y E ih2 =>
     intro z;rw[LM,ih2];unfold Va;split
     ·simp
     rfl
   exact k2 _ _ _
  rfl
theorem zV {a:QD}(H:QM a) {fb ul:LI}{T:Nat→Prop}(hm:∀s:Nat,lft (YG a fb ul) s=true→(s:Int)∈a.mr→T s) (V:∀(s u:Nat) (v:Int),lft (YG a fb ul) s=true→lft (YG a fb ul) u=true→((s:Int),v,(u:Int))∈a.ed→T u→T s) :
  ∀s:Nat,(s:Int)<a.st→lft (YG a fb ul) s=true→T s:=by
 have E:=Qh2 a fb ul;have hb:(Jz (YG a fb ul) 0 (dsts a (YG a fb ul))).length=0:=by
  unfold nxs at E;by_cases h1:(lost a ul (YG a fb ul)).length≠0
  ·rw[if_pos h1,Li] at E;exact absurd E h1
  rw[if_neg h1] at E;exact E
 generalize YG a fb ul=lf at *;have hd:=QjM H lf;have hq:DsQ a lf (q7 a.ed lf a.st.toNat 0 (j6 a lf)):=QfY H _ _ _ hd.1 hd.2;have Y:(dsts a lf).length=a.st.toNat:=by
  unfold dsts;rw[Qbn,qg (λx hx=>(H.mr x hx).1)];exact Yx _ _
 have J:dsts a lf=(q7 a.ed lf a.st.toNat 0 (j6 a lf)).1:=rfl;generalize q7 a.ed lf a.st.toNat 0 (j6 a lf)=z at hq J;have ha:∀n k,k<n→(hk:k<z.2.length)→∀s:Nat,z.2[k]'hk=(s:Int)→T s:=by
  intro n;induction n with
  | zero=>intro k h;omega
  | succ n ih =>
   intro k hf hk s hs;obtain ⟨h1,h2⟩:=hq.q k hk;rw[hs] at h1 h2;rcases h2 with h2 | ⟨j,hj,hg,v,I⟩
   ·exact hm s h1 h2
   have hu:=(H.ed _ I).2.2.2;have hh:0≤z.2[j]'hj∧z.2[j]'hj<a.st:=hu;have eu:z.2[j]'hj=((z.2[j]'hj).toNat:Int):=by omega
   have hl:=(hq.q j hj).1;have hT:=ih j (by omega) hj _ eu;rw[eu] at I hl;exact V s _ v h1 hl I hT
 intro s hs hl;have U:0≤cget (dsts a lf) s:=by
  refine Decidable.byContradiction λhn=>?_;have:=Qbw (lf:=lf) (dsts a lf) 0 s (by omega) (by rw[LR];exact hl) (by omega);have:=List.length_pos_of_mem this;omega
 rw[J] at U Y;have hc:=hq.r s U (by omega);obtain ⟨k,hk,he⟩:=LB hc;exact ha (k+1) k (by omega) hk s he
theorem CnP.mem_mr {a:QD}{ord:LI}(h:CnP a ord) {j:Nat}(hj:j<ord.length):(j:Int)∈(ZJ a).mr↔Zn ord j∈a.mr:=by
 rw[h.mk2];simp only[List.mem_map,List.mem_filter,List.mem_range'_1,decide_eq_true_eq];constructor
 ·rintro ⟨i,⟨_,h2⟩,e⟩;have:i=j:=by omega
  rw[←this];exact h2
 intro h2;exact ⟨j,⟨by omega,h2⟩,Z⟩
section
variable {c:Q4} (h:Xv c)
abbrev plA (c:Q4):QD:=UX (auts c.co)
abbrev plQ (c:Q4):List (LI):=XG (auts c.co)
abbrev JS (c:Q4):List (LI):=XG (auts c.co++auts c.rq)
abbrev js (c:Q4):Lf:=YG (spc c).a (fbs (spc c)) (unc c.ev)
include h in
theorem QaW:QM (plA c):=(Z3 h).2.1.okay λa ha=>(Zw h a (Lz _ ha)).ok
include h in
theorem ZL:QM (spc c).a:=(Z3 h).1.okay λa ha=>(Zw h a ha).ok
theorem Qhu {v:Int}{p s:QD}{a b:Int}{u:LI}(hu:Q5 v [p,s] [a,b]=some u):∃E b',pst v p a=some E∧pst v s b=some b'∧u=[E,b']:=by
 rw[Xw] at hu;obtain ⟨E,h1,h2⟩:=L6.1 hu;obtain ⟨U,h3,h4⟩:=LP.1 h2;rw[Xw] at h3;obtain ⟨b',h5,h6⟩:=L6.1 h3;obtain ⟨H,I,J⟩:=LP.1 h6;have h9:([]:LI)=H:=Option.some.inj (show some []=some H from I);subst h9;exact ⟨E,b',h1,h5,by rw[←h4,←J]⟩
theorem Qnl {v:Int}{p s:QD}{a b E b':Int}(h1:pst v p a=some E) (h2:pst v s b=some b'):Q5 v [p,s] [a,b]=some [E,b']:=by
 rw[Xw,h1];show (Q5 v [s] [b]).map _=_;rw[Xw,h2];rfl
end
theorem QcS {lf:Lf}{x y:Int}{z:LI×LI}{j:Nat}(E:0≤cget z.1 x.toNat) (h:0≤cget z.1 j):0≤cget (Va lf x z y).1 j:=by
 unfold Va;split
 ·show 0≤cget (z.1.set y.toNat (cget z.1 x.toNat+1)) j;unfold cget at *;rw[LA,List.getElem?_set];split
  ·split
   ·show 0≤z.1.getD x.toNat 0+1;omega
   exact MQ _
  rw[←LA];exact h
 exact h
theorem Qmo {lf:Lf}{x y:Int}{z:LI×LI}(H:0≤cget z.1 x.toNat) (hl:lft lf y=true):0≤cget (Va lf x z y).1 y.toNat:=by
 by_cases hc:cget z.1 y.toNat<0
 ·have E:y.toNat<z.1.length:=Decidable.byContradiction λI=>by
   unfold cget at hc;rw[LA,M1 (by omega)] at hc;exact absurd hc (by decide)
  unfold Va;rw[if_pos ⟨hl,hc⟩];show 0≤cget (z.1.set y.toNat (cget z.1 x.toNat+1)) y.toNat;unfold cget at *;rw[LA,List.getElem?_set,if_pos rfl,if_pos E];show 0≤z.1.getD x.toNat 0+1;omega
 unfold Va;rw[if_neg λh=>hc h.2];omega
theorem QcR {lf:Lf}{x:Int}:∀(l:LI) (z:LI×LI),0≤cget z.1 x.toNat→(∀j,0≤cget z.1 j→0≤cget (l.foldl (Va lf x) z).1 j)∧∀y∈l,lft lf y=true→0≤cget (l.foldl (Va lf x) z).1 y.toNat
 | [],_,_=>⟨λ_ h=>h,λy hy=>by cases hy⟩
 | y::l,z,E=>by
  have ih:=QcR (lf:=lf) l (Va lf x z y) (QcS E E);refine ⟨λj hj=>ih.1 j (QcS E hj),λu hu hl=>?_⟩;rcases Lh.1 hu with rfl | hu
  ·exact ih.1 _ (Qmo E hl)
  exact ih.2 u hu hl
theorem QjK {a:QD}(I:QM a) {n:Nat}(J:a.st=(n:Int)) {lf:Lf}:∀(f i:Nat) (z:LI×LI),DsI n z→n≤i+f→(∀e∈a.ed,lft lf e.1=true→∀k,k<i→z.2[k]?=some e.2.2→0≤cget z.1 e.1.toNat) →
  (∀j,0≤cget z.1 j→0≤cget (q7 a.ed lf f i z).1 j)∧∀e∈a.ed,lft lf e.1=true→e.2.2∈(q7 a.ed lf f i z).2→0≤cget (q7 a.ed lf f i z).1 e.1.toNat
 | 0,i,z,E,Y,hc=>⟨λ_ h=>h,λe he hl hm=>by
  obtain ⟨k,hk,e1⟩:=LB (show e.2.2∈z.2 from hm);have:=E.le;exact hc e he hl k (by omega) (by rw[LE hk,e1])⟩
 | f+1,i,z,E,Y,hc=>by
  rw[q7];split
  ·rename_i hi;have hx:cget z.2 i=z.2[i]'hi:=(Q9 hi).symm;have U:=Le hi;have ha:=E.ok.q _ U;have V:=E.s0 _ U;rw[hx];generalize hb:z.2[i]'hi=x at *;have hh:∀y∈Zz a.ed x.toNat,0≤y∧y<(n:Int):=λy hy=>by
    obtain ⟨e,he,h1,_⟩:=Xz hy;have:=(I.ed e he);rw[←J,←h1];exact ⟨this.1,this.2.1⟩
   obtain ⟨h1,r,h2⟩:=QfZ (lf:=lf) ha _ z E V hh;have h3:=QcR (lf:=lf) (x:=x) (Zz a.ed x.toNat) z V;have ih:=QjK I J (lf:=lf) f (i+1) _ h1 (by omega) (λe he hl k hk H=>by
    rw[h2,L9 (by omega)] at H;by_cases hp:k=i
    ·subst hp;rw[LE hi,hb] at H;have hq:=Option.some.inj H;exact h3.2 e.1 (QcD he (by rw[←hq];omega)) hl
    exact h3.1 _ (hc e he hl k (by omega) H))
   exact ⟨λj hj=>ih.1 j (h3.1 j hj),ih.2⟩
  rename_i hi;refine ⟨λ_ h=>h,λe he hl hm=>?_⟩;obtain ⟨k,hk,e1⟩:=LB hm;exact hc e he hl k (by omega) (by rw[LE hk,e1])
inductive WR (a:QD) (G:Nat→Prop):Nat→Prop
 | mk {s:Nat}:(s:Int)∈a.mr→WR a G s
 | st {s u:Nat} {v:Int}:((s:Int),v,(u:Int))∈a.ed→G u→WR a G u→WR a G s
theorem Qni {a:QD}(E:QM a) (hp:0≤a.st) {G:Nat→Prop}{lf:Lf}(J:∀s,G s→lft lf s=true) {s:Nat}(h:WR a G s) (hs:lft lf s=true):0≤cget (dsts a lf) s:=by
 have H:a.st=((a.st.toNat:Nat):Int):=by omega
 have hd:=QjN (lf:=lf) E H;have I:=QjM E lf;have hq:DsQ a lf (q7 a.ed lf a.st.toNat 0 (j6 a lf)):=QfY E _ _ _ I.1 I.2;have hc:=QjK E H (lf:=lf) a.st.toNat 0 (j6 a lf) hd (by omega) (λe he hl k hk=>by omega);have U:(q7 a.ed lf a.st.toNat 0 (j6 a lf)).1.length=a.st.toNat:=by
  rw[Qbn,qg (λx hx=>(E.mr x hx).1)];exact Yx _ _
 unfold dsts;induction h with
 | @mk s hm =>
  refine hc.1 _ ?_;have:(s:Int)∈(j6 a lf).2:=by
   rw[qg (λx hx=>(E.mr x hx).1)];exact LL.2 ⟨hm,hs⟩
  have:=hd.s0 _ this;simpa using this
 | @st s u v he hu _ ih =>
  have h1:=ih (J u hu);have h2:=(E.ed _ he).2.2.2;have V:0≤(u:Int)∧(u:Int)<a.st:=h2;have h3:=hq.r u h1 (by omega);have h4:=hc.2 _ he hs h3;simpa using h4
theorem QlB {a:QD}{ul:LI}{lf:Lf}{p:Int×Int}(hp:p∈lost a ul lf):∃e∈a.ed,e.1=p.1∧lft lf e.2.2=false∧e.2.1∈ul:=by
 have key:∀(l:List Ed) (out:List (Int×Int)),(∀e∈l,e∈a.ed)→(∀p∈out,∃e∈a.ed,e.1=p.1∧lft lf e.2.2=false∧e.2.1∈ul)→∀p∈l.foldl (Jf ul lf) out,∃e∈a.ed,e.1=p.1∧lft lf e.2.2=false∧e.2.1∈ul:=by
  intro l;induction l with
  | nil=>intro out _ h;exact h
  | cons e l ih =>
   intro out hl h;refine ih _ (λe he=>hl e (Lk _ he)) λp hp=>?_;unfold Jf at hp;split at hp
   ·exact h p hp
   rename_i hc;split at hp
   ·exact h p hp
   rcases Lp.1 hp with hp | hp
   ·exact h p hp
   rw[Lc.1 hp];refine ⟨e,hl e Lm,Z,?_,?_⟩
   ·cases hb:lft lf e.2.2 with
    | false=>rfl
    | true=>exact absurd (.inr (.inl hb)) hc
   exact Decidable.byContradiction λE=>hc (.inr (.inr E))
 exact key a.ed [] (λ_ h=>h) (λp hp=>by cases hp) p hp
theorem Qgi {lf:Lf}{x:Int}:∀(l:LI) (i:Nat),x∈Jz lf i l→∃k,x=((i+k:Nat):Int)∧k<l.length∧cget l k<0
 | [],_,h=>by cases h
 | d::l,i,h=>by
  have go:x∈Jz lf (i+1) l→∃k,x=((i+k:Nat):Int)∧k<(d::l).length∧cget (d::l) k<0:=λh=>by
   obtain ⟨k,h1,h2,h3⟩:=Qgi l (i+1) h;exact ⟨k+1,by rw[h1];congr 1;omega,by simpa using h2,h3⟩
  rw[Jz] at h;split at h
  ·rename_i hc;rcases Lh.1 h with h | h
   ·exact ⟨0,h,by simp,hc.2⟩
   exact go h
  exact go h
theorem zS {s:Nat}:∀(xs:LI) (l:Lf),lft l s=true→(∀x∈xs,x.toNat≠s)→lft (xs.foldl cut l) s=true
 | [],_,h,_=>h
 | x::xs,l,h,E=>by
  refine zS xs (cut l x) ?_ λy hy=>E y (Lk _ hy);unfold lft cut at *;rw[LA,List.getElem?_set,if_neg (by have:=E x Lm;omega),←LA];exact h
theorem zU {a:QD}(H:QM a) {fb ul:LI}{G:Nat→Prop}(I:∀s,G s→(s:Int)<a.st) (U:∀s,G s→∀x∈fb,x.toNat≠s)
  (V:∀(s:Nat) (v u:Int),G s→((s:Int),v,u)∈a.ed→v∈ul→G u.toNat) (Y:∀s,G s→WR a G s):∀s,G s→lft (YG a fb ul) s=true:=by
 have step:∀lf:Lf,(∀s,G s→lft lf s=true)→∀s,G s→∀x∈nxs a ul lf,x.toNat≠s:=λlf E s hs x hx e=>by
  unfold nxs at hx;split at hx
  ·obtain ⟨p,hp,e1⟩:=Lq.1 hx;obtain ⟨d,hd,h1,h2,h3⟩:=QlB hp;have J:=(H.ed d hd);have e2:d=((s:Int),d.2.1,d.2.2):=by
    have:d.1=(s:Int):=by rw[h1,e1];have:=J.1;rw[h1,e1] at this;omega
    rw[←this]
   rw[e2] at hd;have h4:=E _ (V s _ _ hs hd h3);have h5:((d.2.2.toNat:Nat):Int)=d.2.2:=by have:=J.2.2.2.1;omega
   rw[h5,h2] at h4;cases h4
  obtain ⟨k,h1,h2,h3⟩:=Qgi _ 0 hx;have hk:k=s:=by omega
  subst hk;have:=Qni H (by have:=I k hs;omega) E (Y k hs) (E k hs);omega
 have main:∀(f:Nat) (lf:Lf),(∀s,G s→lft lf s=true)→∀s,G s→lft (KD a ul f lf) s=true:=by
  intro f;induction f with
  | zero=>intro lf h;exact h
  | succ f ih =>
   intro lf h;rw[KD];split
   ·exact h
   exact ih _ λs hs=>zS _ _ (h s hs) (step lf h s hs)
 refine main _ _ λs hs=>zS _ _ ?_ (U s hs);have:=I s hs;unfold lft;have h2:s<a.st.toNat:=by omega
 simp[List.getD,h2]
def PsC (c:Q4):Prop:=∀i j:Nat,i<c.co.length→j<c.co.length→i≠j→∀v,v∈(cA c i).al→v∉(cA c j).al
abbrev yZ (c:Q4) (x:Nat→Int) (y:Int):Prop:=X1 (spc c).a (JS c) (js c) (tpl (Z5 c) x) y
theorem X1.go {aa:List QD}{B:QD}{Q:List (LI)}{lf:Lf}(ha:∀a∈aa,QM a) (hS:ze aa B Q) (J:QM B) (hp:0<B.st) {q H:LI}{y v:Int}(h:X1 B Q lf q y) (hq:Q5 v aa q=some H) (hl:lft lf (Q.idxOf H)=true) :
  ∃E,pst v (ZJ (rstr B lf)) y=some E∧X1 B Q lf H E:=by
 have Y:=h;obtain ⟨j,s,e0,h1,h2,h3,h4,h5⟩:=h;have hC:=YJ J hp lf;have hb:(ZJ (rstr B lf)).al=evs aa:=hC.al.trans hS.al;have hc:∃E,pst v (ZJ (rstr B lf)) y=some E:=by
  unfold pst;by_cases I:v∈(ZJ (rstr B lf)).al
  ·rw[if_pos I];rw[hb] at I;have U:=hS.step h3 v;rw[if_pos I,h5,hq] at U;have he:=ZV (show eget B.ed (s:Int) v=some (Q.idxOf H:Int) from U);have hr:((s:Int),v,(Q.idxOf H:Int))∈(rstr B lf).ed:=LL.2 ⟨he,hl⟩;rw[e0,hC.step h1 v,h2,Xm (Xx J _).edi hr];exact ⟨_,Z⟩
  rw[if_neg I];exact ⟨_,Z⟩
 obtain ⟨E,hy⟩:=hc;obtain ⟨q2,V,hf⟩:=X1.step ha hS J hp Y hy;rw[hq] at V;rw[Option.some.inj V];exact ⟨E,hy,hf⟩
theorem Ud {c:Q4}{x:Nat→Int}{v:Int}(E:∀i,i<Z5 c→(pst v (cA c i) (x i)).isSome=true):Q5 v (auts c.co++auts c.rq) (tpl (Z5 c) x)=some (tpl (Z5 c) (nx v (cA c) x)):=by
 rw[yD];exact Y8 λi hi=>E i (L8.1 hi)
theorem KQ {c:Q4}{x:Nat→Int}{v:Int}{u:LI}(h:Q5 v (auts c.co++auts c.rq) (tpl (Z5 c) x)=some u):u=tpl (Z5 c) (nx v (cA c) x)∧∀i,i<Z5 c→(pst v (cA c i) (x i)).isSome=true:=by
 rw[yD] at h;obtain ⟨h1,h2⟩:=J0 h;exact ⟨h1,λi hi=>h2 i (L8.2 hi)⟩
theorem Qe7 {v:Int}:∀{l:List Yo}{ss:LI}{i k:Nat}(hk:k<l.length),ss.length=l.length→v∈(l[k]'hk).a.al→(eget (l[k]'hk).a.ed (cget ss k) v).isSome=false→0≤rfr v i l ss
 | [],_,_,k,hk,_,_,_=>absurd hk (Me k)
 | _::_,[],_,_,_,hl,_,_=>by simp at hl
 | y::l,s::ss,i,k,hk,hl,h1,h2=>by
  rw[Uf];split
  ·omega
  rename_i hc;cases k with
  | zero=>exact absurd ⟨h1,h2⟩ hc
  | succ k=>exact Qe7 (l:=l) (ss:=ss) (k:=k) (by simpa using hk) (by simpa using hl) h1 h2
theorem QaG {v:Int}:∀{l:List Yo}{ss:LI}{i:Nat},0≤rfr v i l ss→∃k,∃hk:k<l.length,v∈(l[k]'hk).a.al∧(eget (l[k]'hk).a.ed (cget ss k) v).isSome=false
 | [],_,_,h=>absurd (show (0:Int)≤-1 from h) (by decide)
 | _::_,[],_,h=>absurd (show (0:Int)≤-1 from h) (by decide)
 | y::l,s::ss,i,h=>by
  rw[Uf] at h;split at h
  ·rename_i hc;exact ⟨0,by simp,hc⟩
  obtain ⟨k,hk,h1⟩:=QaG (l:=l) (ss:=ss) h;exact ⟨k+1,by simpa using hk,h1⟩
theorem QaH {c:Q4}{rs:LI}:∀{l:LI},(rfd c rs l).isSome=true→∃v∈l,0≤rfr v 0 c.rq rs∧(c.ev.getD v.toNat ⟨.empty,false,false,false,0⟩).co=false
 | [],h=>by cases h
 | w::l,h=>by
  rw[rfd] at h;split at h
  ·rename_i hc;exact ⟨w,Lm,hc⟩
  obtain ⟨v,E,h1⟩:=QaH (l:=l) h;exact ⟨v,Lk _ E,h1⟩
theorem QfS {c:Q4}(h:Xv c) {x:Int}(hx:x∈fbs (spc c)):∃s:Nat,x=s∧s<(JS c).length∧((vio c (((JS c).getD s []).take c.co.length)).isSome=true∨(rfd c (((JS c).getD s []).drop c.co.length) (VW (plA c) (plx (plQ c) (((JS c).getD s []).take c.co.length)))).isSome=true):=by
 have he:=(Z3 h).2.2.2.2;unfold fbs at hx;rw[he] at hx;obtain ⟨r,H,e⟩:=Lq.1 hx;unfold spF at H;obtain ⟨p,hp,E⟩:=MD.1 H;obtain ⟨t,s⟩:=p;have hs:=List.mem_zipIdx_iff_getElem?.1 hp;have I:=(Ma.1 hs).1;have ht:(JS c).getD s []=t:=by rw[LA,hs];rfl
 have h1:=QnC E;refine ⟨s,by rw[←e,h1.1],I,?_⟩;rw[ht];unfold rsn at E;split at E
 ·rename_i e1;left;show (vio c (t.take c.co.length)).isSome=true;rw[show vio c (t.take c.co.length)=_ from e1];rfl
 split at E
 ·rename_i e2;right;show (rfd c (t.drop c.co.length) _).isSome=true;rw[show rfd c (t.drop c.co.length) (VW (plA c) (plx (plQ c) (t.take c.co.length)))=_ from e2];rfl
 cases E
section
variable {c:Q4}
theorem zi (x:Nat→Int):(tpl (Z5 c) x).drop c.co.length=(List.range c.rq.length).map λk=>x (c.co.length+k):=by
 refine LX (by unfold tpl Z5;simp) λi h1 h2=>?_;rw[List.getElem_drop,LJ,Mn];unfold tpl;rw[LJ,Mn]
theorem yZ.free (h:Xv c) {x:Nat→Int}{y:Int}(E:yZ c x y):vio c (tpl c.co.length x)=none∧rfd c ((tpl (Z5 c) x).drop c.co.length) (VW (plA c) (plx (plQ c) (tpl c.co.length x)))=none∧tpl (Z5 c) x∈JS c:=by
 obtain ⟨j,s,_,_,_,h3,h4,h5⟩:=E;have H:(s:Int)∉fbs (spc c):=λI=>QiY h4 _ I Z;have h6:∀e:(rsn c (plA c) (plx (plQ c) (((JS c).getD s []).take c.co.length)) s ((JS c).getD s [])).isSome=true,False:=λe=>H (Qjt h h3 e);have ht:(tpl (Z5 c) x).take c.co.length=tpl c.co.length x:=zh (by unfold Z5;omega);rw[h5,ht] at h6;refine ⟨?_,?_,by rw[←h5];exact (ZM h3).2⟩
 ·cases e:vio c (tpl c.co.length x) with
  | none=>rfl
  | some p=>exact absurd (Qe4 (by rw[ht,e];rfl)) h6
 cases e:rfd c ((tpl (Z5 c) x).drop c.co.length) (VW (plA c) (plx (plQ c) (tpl c.co.length x))) with
 | none=>rfl
 | some p=>exact absurd (Qe5 (by rw[e];rfl)) h6
theorem QjE (h:Xv c) {v:Int}{i:Nat}(hi:i<c.co.length) (E:v∈(cA c i).al) (H:(c.ev.getD v.toNat ⟨.empty,false,false,false,0⟩).co=false):v∈unc c.ev:=by
 rw[yC hi] at E;have hm:c.co.getD i dI∈c.co:=by rw[ZG hi];exact Le hi
 have h1:=h.co _ hm;have h2:=h1.2.2 v E;have h3:=(h1.2.1.ok.al v E).1;have hl:=h.ev.1;refine (XK _ _ _ _).2 ⟨v.toNat,by omega,by omega,?_⟩;rw[ZG (by omega)] at H;rw[H];rfl
theorem Qpo (h:Xv c) {x:Nat→Int}(E:tpl c.co.length x∈plQ c) {v:Int}(H:∃i,i<c.co.length∧v∈(cA c i).al) (I:∀i,i<c.co.length→(pst v (cA c i) (x i)).isSome=true):v∈VW (plA c) (plx (plQ c) (tpl c.co.length x)):=by
 have J:=(Z3 h).2.1;have U:=Zw h;have V:∀a∈auts c.co,QM a:=λa ha=>(U a (Lz _ ha)).ok;obtain ⟨p1,p2,p3⟩:=QaU h E;obtain ⟨i,hi,Y⟩:=H;refine (Qbm (QaW h) _ v).2 ?_;have hb:Q5 v (auts c.co) (tpl c.co.length x)=some (tpl c.co.length (nx v (cA c) x)):=by
  rw[V0];exact Y8 λi hi=>I i (L8.1 hi)
 have hc:v∈evs (auts c.co):=(ZC V v).2 ⟨cA c i,by rw[V0];exact Lq.2 ⟨i,L8.2 hi,Z⟩,Y⟩;rw[p1,J.step p2 v,p3,if_pos hc,hb];rfl
theorem yZ.all (h:Xv c) {x:Nat→Int}{y:Int}(J:yZ c x y) {v:Int}(U:(c.ev.getD v.toNat ⟨.empty,false,false,false,0⟩).co=false) (V:∃i,i<c.co.length∧v∈(cA c i).al) (E:∀i,i<c.co.length→(pst v (cA c i) (x i)).isSome=true) :
  ∀i,i<Z5 c→(pst v (cA c i) (x i)).isSome=true:=λi hi=>by
 by_cases Y:i<c.co.length
 ·exact E i Y
 obtain ⟨_,h2,h3⟩:=J.free h;have H:=(Qff h _ h3).2;rw[zh (show c.co.length≤Z5 c by unfold Z5;omega)] at H;have ha:=Qpo h H V E;have hk:i - c.co.length<c.rq.length:=by unfold Z5 at hi;omega
 have ei:c.co.length+(i - c.co.length)=i:=by omega
 cases hp:pst v (cA c i) (x i) with
 | some _=>rfl
 | none =>
  exfalso;rw[←ei,Qdd hk] at hp;unfold pst at hp;split at hp
  ·rename_i I;have hb:0≤rfr v 0 c.rq ((tpl (Z5 c) x).drop c.co.length):=by
    rw[ZG hk] at I hp;refine Qe7 hk ?_ I ?_
    ·rw[zi];simp
    rw[zi,UM (by simpa using hk),Mn,hp];rfl
   have h4:=QaI (c:=c) hb U _ ha;rw[h2] at h4;cases h4
  cases hp
theorem yZ.unc (h:Xv c) {x:Nat→Int}{y:Int}(E:yZ c x y) {v:Int}(U:v∈unc c.ev) (V:∃i,i<c.co.length∧v∈(cA c i).al) (Y:∀i,i<Z5 c→(pst v (cA c i) (x i)).isSome=true) :
  ∃y',pst v (ZJ (rstr (spc c).a (js c))) y=some y'∧yZ c (nx v (cA c) x) y':=by
 have hs:=Z3 h;have H:=Zw h;obtain ⟨i,hi,hb⟩:=V;have hc:v∈evs (auts c.co++auts c.rq):=(ZC (λa ha=>(H a ha).ok) v).2 ⟨cA c i,by rw[yD];exact Lq.2 ⟨i,L8.2 (by unfold Z5;omega),Z⟩,hb⟩;have I:=Ud Y;have hf:=E;obtain ⟨j,s,e0,h1,h2,h3,h4,h5⟩:=E;have J:=hs.1.step h3 v;rw[if_pos hc,h5,I] at J
 have he:=ZV (show eget (spc c).a.ed (s:Int) v=some ((JS c).idxOf (tpl (Z5 c) (nx v (cA c) x)):Int) from J);exact X1.go (λa ha=>(H a ha).ok) hs.1 (ZL h) hs.2.2.1 hf I (QfC he h4 U)
end
section
variable {c:Q4}
theorem Qpu (h:Xv c) {m:YZ}(hm:m∈mods c) (V:m.co≠[]):∀t∈JS c,t.length=Z5 c∧(mI c m).map (λi=>cget t i)∈mQ c m:=by
 obtain ⟨pl,ps,sa,ts,e1,e2,_⟩:=UI h;have hd:=KZ h hm V;have hs:=(Z3 hd).1;have hsp:=(Z3 hd).2.2.1;have Y:=Zw hd;have a4:JS c=ts:=by show XG (auts c.co++auts c.rq)=ts;unfold XG;rw[e2]
 have E:(auts c.co++auts c.rq).length=Z5 c:=by rw[Ll,Zx,Zx];rfl
 have hf:(mB c m).st=((mQ c m).length:Int):=hs.st;have hh:0<(mB c m).st:=hsp;have I:0<(mQ c m).length:=by omega
 have key:=QbR (P:=λt=>t.length=Z5 c∧(mI c m).map (λi=>cget t i)∈mQ c m) e2 (by
  refine ⟨by rw[Ng,E],?_⟩;have h1:=hs.hd I;have e:(mI c m).map (λi=>cget (List.replicate (auts c.co++auts c.rq).length (0:Int)) i)=List.replicate (auts (Yb c m).co++auts (Yb c m).rq).length 0:=by
   rw[Yu h hm,Li];refine LX (by simp) λi h1 h2=>?_;rw[LJ,Nc];unfold cget;rw[LA,List.getElem?_replicate];split <;> rfl
  rw[e,←h1];exact (ZM I).2) (λt ht v hv u hu=>by
  have h1:t.length=(auts c.co++auts c.rq).length:=by rw[ht.1,E]
  obtain ⟨h2,h3⟩:=(YC v _ _ u h1).1 hu;refine ⟨by rw[h2,E],?_⟩;have hp:∀i∈mI c m,pst v (cA c i) (cget t i)=some (cget u i):=λi hi=>by
   have J:=qw h hm i hi;have h4:=h3 i (by rw[E];exact J);have e:cA c i=(auts c.co++auts c.rq)[i]'(by rw[E];exact J):=by unfold cA;rw[ZG]
   rw[e];exact h4
  have H:=Y8 (v:=v) (A:=cA c) (x:=λi=>cget t i) (is:=mI c m) λi hi=>by rw[hp i hi];rfl
  have hb:(mI c m).map (nx v (cA c) λi=>cget t i)=(mI c m).map λi=>cget u i:=MK λi hi=>by unfold nx;rw[hp i hi];rfl
  rw[hb,←Yu h hm] at H;have hj:=LU ht.2;have h5:(mQ c m).getD ((mQ c m).idxOf ((mI c m).map λi=>cget t i)) []=(mI c m).map λi=>cget t i:=by rw[(ZM hj).1,M4]
  by_cases U:v∈evs (auts (Yb c m).co++auts (Yb c m).rq)
  ·exact hs.cl _ hj v U _ (by rw[h5];exact H)
  have hc:=VS (v:=v) (aa:=auts (Yb c m).co++auts (Yb c m).rq) (t:=(mI c m).map λi=>cget t i) (by rw[Yu h hm];simp) (λa ha he=>U ((ZC (λa ha=>(Y a ha).ok) v).2 ⟨a,ha,he⟩));rw[hc] at H;rw[←Option.some.inj H];exact ht.2)
 intro t ht;rw[a4] at ht;exact key t ht
theorem QnW (h:Xv c) {m:YZ}(hm:m∈mods c) (x:Nat→Int):(mI c m).map (λi=>cget (tpl (Z5 c) x) i)=(mI c m).map x:=MK λi hi=>qN (qw h hm i hi)
theorem Qpv (h:Xv c) {m:YZ}(hm:m∈mods c) (E:m.co≠[]) {v:Int}(H:v∈evs (auts (Yb c m).co++auts (Yb c m).rq)):∃i∈m.co.map Int.toNat,i<c.co.length∧v∈(cA c i).al:=by
 have hd:=KZ h hm E;have I:=Zw hd;have h1:=QfX hd H;obtain ⟨a,ha,J⟩:=(ZC (λa ha=>(I a (Lz _ ha)).ok) v).1 h1;rw[Qfp h hm] at ha;obtain ⟨i,hi,rfl⟩:=Lq.1 ha;obtain ⟨j,hj,e⟩:=Lq.1 hi;have:=(XJ h hm).2 j hj;exact ⟨i,hi,by omega,J⟩
theorem QnI (E:PsC c) {m:YZ}{x:Nat→Int}{v:Int}(hi:∃i∈m.co.map Int.toNat,i<c.co.length∧v∈(cA c i).al) (H:∀i∈m.co.map Int.toNat,(pst v (cA c i) (x i)).isSome=true):∀i,i<c.co.length→(pst v (cA c i) (x i)).isSome=true:=λj hj=>by
 obtain ⟨i,I,J,U⟩:=hi;by_cases e:j=i
 ·rw[e];exact H i I
 unfold pst;rw[if_neg (E i j J hj (λe2=>e e2.symm) v U)];rfl
theorem U9 {x:Nat→Int}(hm:Yp (auts c.co++auts c.rq) (tpl (Z5 c) x)=true):∀i,i<Z5 c→x i∈(cA c i).mr:=λi hi=>by
 have E:(auts c.co++auts c.rq).length=Z5 c:=by rw[Ll,Zx,Zx];rfl
 have h1:=(J7 (by unfold tpl;simp[E])).1 hm i (by rw[E];exact hi);have e:cA c i=(auts c.co++auts c.rq)[i]'(by rw[E];exact hi):=by unfold cA;rw[ZG]
 rw[e];have h2:cget (tpl (Z5 c) x) i=x i:=qN hi;rw[h2] at h1;exact h1
theorem qa {x:Nat→Int}{is:LN}(h:∀i∈is,x i∈(cA c i).mr):Yp (is.map (cA c)) (is.map x)=true:=by
 refine (J7 (by simp)).2 λk hk=>?_;have E:k<is.length:=by simpa using hk
 rw[UM E,LJ];exact h _ (Le E)
theorem Qd2 {x:Nat→Int}{is:LN}(h:Yp (is.map (cA c)) (is.map x)=true):∀i∈is,x i∈(cA c i).mr:=λi hi=>by
 obtain ⟨k,hk,rfl⟩:=LB hi;have h1:=(J7 (by simp)).1 h k (by simpa using hk);rw[UM hk,LJ] at h1;exact h1
theorem KO {aa:List QD}{A:QD}{Q:List (LI)}(hS:ze aa A Q) {s:Nat}(hs:s<Q.length):(s:Int)∈A.mr↔Yp aa (Q.getD s [])=true:=by
 rw[hS.mk2];simp only[List.mem_map,List.mem_filter,List.mem_range'_1];constructor
 ·rintro ⟨j,⟨_,h2⟩,e⟩;have:j=s:=by omega
  rw[←this];exact h2
 intro h2;exact ⟨s,⟨by omega,h2⟩,Z⟩
set_option maxHeartbeats 1000000 in
theorem Qhh (h:Xv c) (hX:PsC c) {m:YZ}(hm:m∈mods c) (h0:m.co≠[]) {x:Nat→Int}{y:Int}(H:yZ c x y):(mI c m).map x∈mQ c m∧lft (mL c m) ((mQ c m).idxOf ((mI c m).map x))=true:=by
 have hd:=KZ h hm h0;have hs:=Z3 hd;have hg:=Zw hd;have hL:QM (mB c m):=ZL hd;have hH:∀a∈auts (Yb c m).co++auts (Yb c m).rq,QM a:=λa ha=>(hg a ha).ok;have hc:=Z3 h;have hY:=Zw h;have hZ:∀a∈auts c.co++auts c.rq,QM a:=λa ha=>(hY a ha).ok;have hI:∀{x:Nat→Int} {y:Int},yZ c x y→(mI c m).map x∈mQ c m:=λ{x y} H=>by
  have h1:=(Qpu h hm h0 _ (H.free h).2.2).2
  rwa [QnW h hm] at h1
 have hM:∀{t:LI},t∈mQ c m→(mQ c m).idxOf t<(mQ c m).length∧(mQ c m).getD ((mQ c m).idxOf t) []=t:=λ{t} ht=>by
  have hj:=LU ht;exact ⟨hj,by rw[(ZM hj).1,M4]⟩
 have ga:∀i∈m.co.map Int.toNat,i∈mI c m:=λi hi=>Lz _ hi;let G:Nat→Prop:=λs=>∃x y,yZ c x y∧s<(mQ c m).length∧(mQ c m).getD s []=(mI c m).map x;have gb:∀{s:Nat},G s→(s:Int)<(mB c m).st:=λ{s} ⟨_,_,_,h2,_⟩=>by have h9:(mB c m).st=((mQ c m).length:Int):=hs.1.st;omega
 have hN:∀{x:Nat→Int} {y v:Int},yZ c x y→v∈evs (auts (Yb c m).co++auts (Yb c m).rq)→(∀i∈m.co.map Int.toNat,(pst v (cA c i) (x i)).isSome=true)→(c.ev.getD v.toNat ⟨.empty,false,false,false,0⟩).co=false →
   (∀i,i<Z5 c→(pst v (cA c i) (x i)).isSome=true)∧∃U,yZ c (nx v (cA c) x) U:=λ{x y v} H hv hJ hO=>by
  obtain ⟨i,gc,h4,hA⟩:=Qpv h hm h0 hv;have ge:=QnI hX ⟨i,gc,h4,hA⟩ hJ;have V:=H.all h hO ⟨i,h4,hA⟩ ge;obtain ⟨U,_,h2⟩:=H.unc h (QjE h h4 hA hO) ⟨i,h4,hA⟩ V;exact ⟨V,U,h2⟩
 have gg:∀s,G s→lft (YG (mB c m) (fbs (spc (Yb c m))) (unc c.ev)) s=true:=by
  refine zU hL (λs hs=>gb hs) ?_ ?_ ?_
  ·rintro s ⟨x,y,H,h2,h3⟩ z hz e;obtain ⟨s',rfl,h5,h6⟩:=QfS hd hz;rw[LO] at e;subst e;rw[show (JS (Yb c m))=mQ c m from rfl,h3,zD,Qij] at h6;obtain ⟨f1,f2,f3⟩:=H.free h;rcases h6 with h6 | h6
   ·obtain ⟨p,hp⟩:=Mh.1 h6;have hP:(vio c (tpl c.co.length x)).isSome=true:=by
     rcases Je h hm with ⟨k,hk,e⟩ | ⟨k,hk,e⟩ | ⟨k,hk,e⟩
     ·subst e;rcases Qaq hp with ⟨k2,E,_⟩ | ⟨k2,E,_⟩
      ·rw[zN] at E;exact absurd E (Me _)
      rw[zN] at E;exact absurd E (Me _)
     ·have hb:=XJ h hm;subst e;refine Qhj ⟨c.ex[k]'hk,Le hk,?_⟩;rcases Qaq hp with ⟨k2,E,J⟩ | ⟨k2,E,_⟩
      ·have ho:k2=0:=by rw[jJ] at E;simpa using E
       subst ho;simp only[jJ,List.getElem_cons_zero] at J;rw[QeN (n:=c.co.length) (λl hl=>?_),ZG hk] at J
       ·exact J
       have Y:l.1∈(K7 c k).co:=Lq.2 ⟨l,hl,Z⟩;exact ⟨Y,hb.2 _ Y⟩
      rw[jJ] at E;exact absurd E (Me _)
     have hb:=XJ h hm;subst e;refine Qhk ⟨c.cs[k]'hk,Le hk,?_⟩;rcases Qaq hp with ⟨k2,E,_⟩ | ⟨k2,E,J⟩
     ·rw[jK] at E;exact absurd E (Me _)
     have ho:k2=0:=by rw[jK] at E;simpa using E
     subst ho;simp only[jK,List.getElem_cons_zero] at J;rw[QeO (n:=c.co.length) (λl hl=>?_),ZG hk] at J
     ·exact J
     have Y:l.1∈(VG c k).co:=Lq.2 ⟨l,hl,Z⟩;exact ⟨Y,hb.2 _ Y⟩
    rw[f1] at hP;cases hP
   obtain ⟨v,hv,J,Y⟩:=QaH h6;obtain ⟨k2,E,h9,hB⟩:=QaG J;have hQ:=Qff hd _ (hI H);rw[zD] at hQ;obtain ⟨p1,p2,p3⟩:=QaU hd hQ.2;have hr:=(Qbm (QaW hd) _ v).1 hv;rw[p1,hs.2.1.step p2 v,p3] at hr;split at hr
   ·rename_i hf;rw[show (m.co.map λi=>x i.toNat)=(m.co.map Int.toNat).map x by rw[Mf];rfl,Qfp h hm] at hr;obtain ⟨u,hu⟩:=Mh.1 hr;obtain ⟨u',gh,_⟩:=LP.1 hu;have hJ:=(J0 gh).2;have hK:v∈evs (auts (Yb c m).co++auts (Yb c m).rq):=by
     obtain ⟨a,ha,gi⟩:=(ZC (λa ha=>hH a (Lz _ ha)) v).1 hf;exact (ZC hH v).2 ⟨a,Lz _ ha,gi⟩
    have V:=(hN H hK hJ Y).1;rcases Je h hm with ⟨k,hk,e⟩ | ⟨k,hk,e⟩ | ⟨k,hk,e⟩
    ·subst e;have ho:k2=0:=by rw[zN] at E;simpa using E
     subst ho;simp only[zN,List.getElem_cons_zero] at h9 hB;rw[U4] at hB;have hy:=V (c.co.length+k) (by unfold Z5;omega);rw[Qdd hk] at hy;unfold pst at hy;rw[if_pos h9] at hy;have gj:cget ([((k:Nat):Int)].map λi:Int=>x (c.co.length+i.toNat)) 0=x (c.co.length+k):=by
      show x (c.co.length+((k:Nat):Int).toNat)=_;rw[LO]
     rw[gj] at hB;rw[hB] at hy;cases hy
    ·subst e;rw[jJ] at E;exact absurd E (Me _)
    subst e;rw[jK] at E;exact absurd E (Me _)
   cases hr
  rintro s v u ⟨x,y,H,h2,h3⟩ he gk;have I:=Xm hL.edi he;rw[hs.1.step h2 v] at I;split at I
  ·rename_i hf;rw[h3] at I;obtain ⟨q',hq,e1⟩:=LP.1 I;have hh:=hs.1.to h2 hf (u:=q') (by rw[h3];exact hq);rw[Yu h hm] at hq;obtain ⟨e2,V⟩:=J0 hq;obtain ⟨_,U,hn⟩:=hN H hf (λi hi=>V i (ga i hi)) (Qhs gk);rw[←e1,LO];exact ⟨_,U,hn,hh.1,by rw[hh.2,e2]⟩
  cases I
  ;have hT:=zV (ZL h) (fb:=fbs (spc c)) (ul:=unc c.ev) (T:=λs=>s<(JS c).length→∀x y,yZ c x y→(JS c).getD s []=tpl (Z5 c) x→∀sm:Nat,sm<(mQ c m).length→(mQ c m).getD sm []=(mI c m).map x→WR (mB c m) G sm) (λs hl gl hC x y H hx sm hD hE=>by
   have h1:=(KO hc.1 hC).1 gl;rw[hx] at h1;refine WR.mk ((KO hs.1 hD).2 ?_);rw[hE,Yu h hm];exact qa λi hi=>U9 h1 i (qw h hm i hi)) (λs u v hl gm he gn hC x y H hx sm hD hE=>by
   have I:=Xm (ZL h).edi he;rw[hc.1.step hC v] at I;split at I
   ·rename_i hf;rw[hx] at I;obtain ⟨q',hq,e1⟩:=LP.1 I;have hh:=hc.1.to hC hf (u:=q') (by rw[hx];exact hq);have eu:(JS c).idxOf q'=u:=by have:(((JS c).idxOf q':Nat):Int)=(u:Int):=e1;omega
    obtain ⟨e2,V⟩:=KQ hq;have gq:lft (js c) ((JS c).idxOf q')=true:=by rw[eu];exact gm
    obtain ⟨U,_,hn⟩:=X1.go hZ hc.1 (ZL h) hc.2.2.1 H hq gq;rw[e2] at hn;rw[eu] at hh;have hF:=hM (hI hn);have gr:∀i∈mI c m,(pst v (cA c i) (x i)).isSome=true:=λi hi=>V i (qw h hm i hi);have hG:=Y8 gr;rw[←Yu h hm] at hG;have hR:=gn hh.1 _ U hn (by rw[hh.2,e2]);by_cases hS:v∈evs (auts (Yb c m).co++auts (Yb c m).rq)
    ·have hU:=hs.1.step hD v;rw[if_pos hS,hE,hG] at hU;exact WR.st (ZV hU) ⟨_,U,hn,hF.1,hF.2⟩ (hR _ hF.1 hF.2)
    have gs:=VS (v:=v) (aa:=auts (Yb c m).co++auts (Yb c m).rq) (t:=(mI c m).map x) (by rw[Yu h hm];simp) (λa ha hK=>hS ((ZC hH v).2 ⟨a,ha,hK⟩));rw[gs] at hG;exact hR sm hD (by rw[hE];exact Option.some.inj hG)
   cases I)
  rintro s ⟨x,y,H,h2,h3⟩;have gt:=H;obtain ⟨j,sw,e0,k1,k2,k3,k4,k5⟩:=H;exact hT sw (by have h9:(spc c).a.st=((JS c).length:Int):=hc.1.st;omega) k4 k3 x y gt k5 s h2 h3
 have hV:=hI H;have hW:=hM hV;exact ⟨hV,gg _ ⟨x,y,H,hW.1,hW.2⟩⟩
end
section
variable {c:Q4}
theorem X1.mr {aa:List QD}{B:QD}{Q:List (LI)}{lf:Lf}(hS:ze aa B Q) (E:QM B) (hp:0<B.st) {q:LI}{y:Int}(h:X1 B Q lf q y):y∈(ZJ (rstr B lf)).mr↔Yp aa q=true:=by
 obtain ⟨j,s,e0,h1,h2,h3,h4,h5⟩:=h;have hC:=YJ E hp lf;have h6:=KO hS h3;rw[h5] at h6;rw[e0,hC.mem_mr h1,h2];exact h6
inductive WO (c:Q4) (O:(Nat→Int)→Prop):(Nat→Int)→Prop
 | mk {x:Nat→Int}:(∀i,i<Z5 c→x i∈(cA c i).mr)→WO c O x
 | st {x:Nat→Int} {v:Int}:v∈evs (auts c.co++auts c.rq)→(∀i,i<Z5 c→(pst v (cA c i) (x i)).isSome=true)→O (nx v (cA c) x)→WO c O (nx v (cA c) x)→WO c O x
theorem zO {x:Nat→Int}(h:∀i,i<Z5 c→x i∈(cA c i).mr):Yp (auts c.co++auts c.rq) (tpl (Z5 c) x)=true:=by
 rw[yD];exact qa λi hi=>h i (L8.1 hi)
theorem QgF {Q:List (LI)}{t:LI}(ht:t∈Q):Q.idxOf t<Q.length∧Q.getD (Q.idxOf t) []=t:=by
 have hj:=LU ht;exact ⟨hj,by rw[(ZM hj).1,M4]⟩
theorem UF (h:Xv c) {v:Int}(E:v∈evs (auts c.co++auts c.rq)):∃i,i<c.co.length∧v∈(cA c i).al:=by
 have H:=Zw h;obtain ⟨a,ha,I⟩:=(ZC (λa ha=>(H a (Lz _ ha)).ok) v).1 (QfX h E);rw[V0] at ha;obtain ⟨i,hi,rfl⟩:=Lq.1 ha;exact ⟨i,L8.1 hi,I⟩
theorem UW (h:Xv c) {x:Nat→Int}(hx:tpl (Z5 c) x∈JS c) {v:Int}(E:v∈evs (auts c.co++auts c.rq)) (H:∀i,i<Z5 c→(pst v (cA c i) (x i)).isSome=true):tpl (Z5 c) (nx v (cA c) x)∈JS c:=by
 have hi:=QgF hx;have I:=(Z3 h).1.to hi.1 E (u:=tpl (Z5 c) (nx v (cA c) x)) (by rw[hi.2];exact Ud H);exact List.idxOf_lt_length_iff.1 I.1
theorem Qcg (Y:jj c) {O:(Nat→Int)→Prop}(o1:∀x,O x→tpl (Z5 c) x∈JS c∧∃t,X6 c x t)
  (o2:∀x v,O x→v∈unc c.ev→(∃i,i<c.co.length∧v∈(cA c i).al)→(∀i,i<c.co.length→(pst v (cA c i) (x i)).isSome=true)→O (nx v (cA c) x)) (o4:∀x,O x→WO c O x) :
  ∀x,O x→lft (js c) ((JS c).idxOf (tpl (Z5 c) x))=true:=by
 have h:=Y.d;have hs:=Z3 h;have hg:=Zw h;have hl:∀a∈auts c.co++auts c.rq,QM a:=λa ha=>(hg a ha).ok;have hf:=ZL h;let G:Nat→Prop:=λs=>∃x,O x∧s<(JS c).length∧(JS c).getD s []=tpl (Z5 c) x;have hn:∀s,G s→lft (YG (spc c).a (fbs (spc c)) (unc c.ev)) s=true:=by
  refine zU hf ?_ ?_ ?_ ?_
  ·rintro s ⟨x,_,h1,_⟩;have h9:(spc c).a.st=((JS c).length:Int):=hs.1.st;omega
  ·rintro s ⟨x,E,h1,h2⟩ z hz e;obtain ⟨s',rfl,h5,h6⟩:=QfS h hz;rw[LO] at e;subst e;have ht:(tpl (Z5 c) x).take c.co.length=tpl c.co.length x:=zh (by unfold Z5;omega);rw[h2,ht] at h6;obtain ⟨ho,t,hT⟩:=o1 x E;rcases h6 with h6 | h6
   ·rw[hT.free Y] at h6;cases h6
   obtain ⟨v,hv,h7,h8⟩:=QaH h6;obtain ⟨k2,hc,h9,hh⟩:=QaG h7;have hj:=(Qff h _ ho).2;rw[ht] at hj;obtain ⟨p1,p2,p3⟩:=QaU h hj;have I:=(Qbm (QaW h) _ v).1 hv;rw[p1,hs.2.1.step p2 v,p3] at I;split at I
   ·rename_i hb;rw[V0] at I;obtain ⟨u,hu⟩:=Mh.1 I;obtain ⟨u',hp,_⟩:=LP.1 hu;have hr:∀i,i<c.co.length→(pst v (cA c i) (x i)).isSome=true:=λi hi=>(J0 hp).2 i (L8.2 hi);obtain ⟨a,ha,hy⟩:=(ZC (λa ha=>hl a (Lz _ ha)) v).1 hb;rw[V0] at ha;obtain ⟨i,hi,rfl⟩:=Lq.1 ha;have h0:=L8.1 hi
    obtain ⟨u2,h3⟩:=X6.unc Y hT (QjE h h0 hy h8) hr;have J:=(X6.step Y hT h3).2;have U:=J (c.co.length+k2) (by unfold Z5;omega);rw[Qdd hc,ZG hc] at U;unfold pst at U;rw[if_pos h9] at U;rw[zi,UM (by simpa using hc),Mn] at hh;rw[hh] at U;cases U
   cases I
  ·rintro s v u ⟨x,E,h1,h2⟩ he h4;have V:=Xm hf.edi he;rw[hs.1.step h1 v] at V;split at V
   ·rename_i hb;rw[h2] at V;obtain ⟨q',hq,e1⟩:=LP.1 V;have H:=hs.1.to h1 hb (u:=q') (by rw[h2];exact hq);obtain ⟨e2,J⟩:=KQ hq;rw[←e1,LO];exact ⟨_,o2 x v E h4 (UF h hb) (λi hi=>J i (by unfold Z5;omega)),H.1,by rw[H.2,e2]⟩
   cases V
  rintro s ⟨x,E,h1,h2⟩;have hw:=o4 x E;clear E;induction hw generalizing s with
  | @mk x hm =>
   refine WR.mk ((KO hs.1 h1).2 ?_);rw[h2];exact zO hm
  | @st x v hv J hA _ ih =>
   have hk:=hs.1.step h1 v;have hq:=Ud J;rw[if_pos hv,h2,hq] at hk;have H:=hs.1.to h1 hv (u:=tpl (Z5 c) (nx v (cA c) x)) (by rw[h2];exact hq);exact WR.st (ZV hk) ⟨_,hA,H.1,H.2⟩ (ih _ H.1 H.2)
 intro x E;have hi:=QgF (o1 x E).1;exact hn _ ⟨x,E,hi.1,hi.2⟩
theorem qM (h:Xv c) (E:(Jp c).st≠0):yZ c (λ_=>0) 0:=by
 have hs:=Z3 h;obtain ⟨_,hl,_⟩:=KN (B:=(spc c).a) (fb:=fbs (spc c)) (ul:=unc c.ev) E;have h1:=X1.init hs.1 (ZL h) hs.2.2.1 hl;have e:tpl (Z5 c) (λ_=>(0:Int))=List.replicate (auts c.co++auts c.rq).length 0:=by
  rw[show (auts c.co++auts c.rq).length=Z5 c by rw[Ll,Zx,Zx];rfl];unfold tpl;exact (List.map_const' ..).trans (by rw[M7])
 unfold yZ;rw[e];exact h1
theorem QmW (h:Xv c) (H:PsC c) (E:∀m∈mods c,m.co≠[]) (I:(Jp c).st≠0):jj c:=by
 refine ⟨h,E,λa ha=>?_⟩;rcases Lp.1 (show a∈(mods c).map (U8 c)++(rem c).map (coA c) from ha) with ha | ha
 ·obtain ⟨m,hm,rfl⟩:=Lq.1 ha;have hd:=KZ h hm (E m hm);have hs:=Z3 hd;have J:QM (mB c m):=ZL hd;have h1:=Qhh h H hm (E m hm) (qM h I);have U:(mB c m).st=((mQ c m).length:Int):=hs.1.st;have hp:0<(mB c m).st:=hs.2.2.1;have h2:=hs.1.hd (by show 0<(mQ c m).length;omega);have e:(mI c m).map (λ_=>(0:Int))=List.replicate (auts (Yb c m).co++auts (Yb c m).rq).length 0:=by
   rw[Yu h hm,Li];exact List.map_const' ..
  have h3:=QgF h1.1;have h4:(mQ c m).idxOf ((mI c m).map (λ_=>(0:Int)))=0:=by
   refine jG hs.1.nd h3.1 (show 0<(mQ c m).length by omega) ?_;rw[←(ZM h3.1).1,←(ZM (show 0<(mQ c m).length by omega)).1,h3.2,e];exact h2.symm
  rw[h4] at h1;have h5:lft (mL c m) 0=true:=h1.2;have hC:=YJ J hp (mL c m);rw[QnT];unfold X8 Ja;rw[if_neg (λe1=>e1.elim (λe2=>by omega) (λe2=>by rw[show lft (YG (mB c m) (fbs (spc (Yb c m))) (unc c.ev)) 0=true from h5] at e2;cases e2))];have h6:(ZJ (rstr (mB c m) (mL c m))).st=((sord (mB c m) (mL c m)).length:Int):=hC.st;have V:0<(sord (mB c m) (mL c m)).length:=hC.hd.2
  show (ZJ (rstr (mB c m) (mL c m))).st≠0;omega
 obtain ⟨i,hi,rfl⟩:=Lq.1 ha;rw[Vb hi];have h1:=Kf i hi;have:=(Qge h (i:=i.toNat) (by unfold Z5;omega)).p;omega
theorem Qat (E:jj c) (hc:PsC c) {x:Nat→Int}{t:LI}(ht:X6 c x t) {v y':Int}(U:∀i,i<Z5 c→(pst v (cA c i) (x i)).isSome=true) (hw:yZ c (nx v (cA c) x) y'):∃u,Q5 v (ZD c) t=some u:=by
 refine VR (by rw[ht.l,Z2]) λk hk=>?_;by_cases H:k<(mods c).length
 ·have V:=Le H;have hS:=E.sup V;have J:=ht.m k H;rw[zk c H,hS.1];revert V hS J;generalize (mods c)[k]'H=m;intro hm hS J;have Y:=Y8 (v:=v) (A:=cA c) (x:=x) (is:=mI c m) λi hi=>U i (qw E.d hm i hi);rw[←Yu E.d hm] at Y;obtain ⟨y2,h2,_⟩:=X1.go hS.2.2.2.2.2 hS.2.2.2.2.1 hS.2.2.1 hS.2.2.2.1 J Y (Qhh E.d hc hm (E.n m hm) hw).2;rw[h2];rfl
 have I:k - (mods c).length<(rem c).length:=by rw[Z2] at hk;omega
 have e:k=(mods c).length+(k - (mods c).length):=by omega
 have h1:=zj c I (by rw[←e];exact hk);have h2:=ht.r _ I;have hr:=Le I;have h3:=Kf _ hr;have h4:=U ((rem c)[k - (mods c).length]'I).toNat (by unfold Z5;omega);rw[←Vb hr,←h1,←h2] at h4;have key:∀(a b:Nat) (ha:a<(ZD c).length) (hb:b<(ZD c).length),a=b→(pst v ((ZD c)[a]'ha) (cget t a)).isSome=true→(pst v ((ZD c)[b]'hb) (cget t b)).isSome=true:=by
  intro a b ha hb eab hh;subst eab;exact hh
 exact key _ _ _ _ e.symm h4
theorem Vp (E:jj c) {x:Nat→Int}{t:LI}(ht:X6 c x t):Yp (ZD c) t=true↔∀i,i<Z5 c→x i∈(cA c i).mr:=by
 have hm:∀k (hk:k<(mods c).length),cget t k∈(U8 c ((mods c)[k]'hk)).mr↔∀i∈mI c ((mods c)[k]'hk),x i∈(cA c i).mr:=λk hk=>by
  have H:=Le hk;have hS:=E.sup H;have V:=ht.m k hk;rw[hS.1,X1.mr hS.2.2.2.2.1 hS.2.2.1 hS.2.2.2.1 V,Yu E.d H];exact ⟨Qd2,qa⟩
 rw[J7 (by rw[ht.l,Z2])];constructor
 ·intro h i hi;rcases Qd5 E.d hi with ⟨m,H,Y⟩ | ⟨_,hc⟩
  ·obtain ⟨k,hk,rfl⟩:=LB H;have h1:=h k (by rw[Z2];omega);rw[zk c hk] at h1;exact (hm k hk).1 h1 i Y
  obtain ⟨k,hk,e⟩:=LB hc;have h1:=h ((mods c).length+k) (by rw[Z2];omega);rw[zj c hk,ht.r k hk,Vb (Le hk),e,LO] at h1;exact h1
 intro h k hk;by_cases J:k<(mods c).length
 ·rw[zk c J];exact (hm k J).2 λi hi=>h i (qw E.d (Le J) i hi)
 have I:k - (mods c).length<(rem c).length:=by rw[Z2] at hk;omega
 have e:k=(mods c).length+(k - (mods c).length):=by omega
 have U:=Le I;have h3:=Kf _ U;have h4:=h ((rem c)[k - (mods c).length]'I).toNat (by unfold Z5;omega);rw[←Vb U,←ht.r _ I,←zj c I (by rw[←e];exact hk)] at h4;have key:∀(a b:Nat) (ha:a<(ZD c).length) (hb:b<(ZD c).length),a=b→cget t a∈((ZD c)[a]'ha).mr→cget t b∈((ZD c)[b]'hb).mr:=by
  intro a b ha hb eab hh;subst eab;exact hh
 exact key _ _ _ _ e.symm h4
theorem QmX (h:Xv c) {x:Nat→Int}{y:Int}(E:yZ c x y):y∈(ZJ (rstr (spc c).a (js c))).mr↔∀i,i<Z5 c→x i∈(cA c i).mr:=by
 have hs:=Z3 h;rw[X1.mr hs.1 (ZL h) hs.2.2.1 E];exact ⟨U9,zO⟩
end
theorem Qcu {a b:QD}{kd:Int}{R:Int→Int→Prop}(E:R (fst a) (fst b)) (hs:∀x y v,R x y→(nxt a.ed x v=-1∧nxt b.ed y v=-1)∨R (nxt a.ed x v) (nxt b.ed y v)) (hm:∀x y,R x y→Uq a kd x=Uq b kd y):lgq a b kd=none:=by
 have H:∀(al:LI) (i:Nat) (p:Vs) (V:List Vs),R p.x p.y→(∀q∈V,R q.x q.y)→∀q∈al.foldl (lgA a b i p) V,R q.x q.y:=by
  intro al;induction al with
  | nil=>intro i p V _ h;exact h
  | cons v al ih =>
   intro i p V hp h;refine ih i p _ hp λq hq=>?_;unfold lgA at hq;split at hq
   ·rename_i hc;rcases Lp.1 hq with hq | hq
    ·exact h q hq
    rw[Lc.1 hq];rcases hs p.x p.y v hp with h1 | h1
    ·exact absurd (show (yY a b i p v).ky=(-1,-1) by unfold yY Vs.ky;rw[h1.1,h1.2]) hc.1
    exact h1
   exact h q hq
 have I:∀(al:LI) (f i:Nat) (V:List Vs),(∀q∈V,R q.x q.y)→lgL a b kd al f i V=none:=by
  intro al f;induction f with
  | zero=>intro i V _;rfl
  | succ f ih =>
   intro i V h;rw[lgL];split
   ·rename_i hi;have J:gV V i∈V:=by
     unfold gV;rw[ZG hi];exact Le hi
    have hR:=h _ J;rw[if_neg (by unfold lgC;rw[hm _ _ hR];simp)];exact ih _ _ (H al i _ V hR h)
   rfl
 exact I _ _ _ _ λq hq=>by rw[Lc.1 hq];exact E
theorem Qfw {a b:QD}{kd:Int}{R:Int→Int→Prop}(ha:a.st≠0) (hb:b.st≠0) (I:R 0 0) (hp:∀x y,R x y→0≤x∧0≤y) (hs:∀x y v u,R x y→eget a.ed x v=some u→∃E,eget b.ed y v=some E∧R u E) (J:∀x y v E,R x y→eget b.ed y v=some E→∃u,eget a.ed x v=some u∧R u E)
  (hm:∀x y,R x y→(x∈a.mr↔y∈b.mr)):lgq a b kd=none:=by
 refine Qcu (R:=R) ?_ (λx y v h=>?_) λx y h=>?_
 ·unfold fst;rw[if_neg ha,if_neg hb];exact I
 ·rw[XR,XR];cases e:eget a.ed x v with
  | some u =>
   obtain ⟨E,H,hR⟩:=hs x y v u h e;rw[H];exact .inr hR
  | none =>
   cases H:eget b.ed y v with
   | none=>exact .inl ⟨Z,Z⟩
   | some E =>
    obtain ⟨u,e2,_⟩:=J x y v E h H;rw[e] at e2;cases e2
 have h1:=hp x y h;have h2:=hm x y h;unfold Uq;rw[decide_eq_true h1.1,decide_eq_true h1.2];congr 2;exact decide_eq_decide.2 h2
theorem Qfv {a b:QD}(E:QM a) (H:QM b) {kd:Int}(ha:a.st=0) (hb:b.st=0):lgq a b kd=none:=by
 refine Qcu (R:=λx y=>x=-1∧y=-1) ?_ (λx y v h=>?_) λx y h=>?_
 ·unfold fst;rw[if_pos ha,if_pos hb];exact ⟨Z,Z⟩
 ·rw[h.1,h.2,Qfl E,Qfl H];exact .inl ⟨Z,Z⟩
 rw[h.1,h.2];rfl
section
variable {c:Q4}
theorem VQ (E:jj c) (J:∀a∈ZD c,QM a) {v:Int}(U:v∈evs (ZD c)):v∈evs (auts c.co++auts c.rq):=by
 have V:=Zw E.d;have Y:∀a∈auts c.co++auts c.rq,QM a:=λa ha=>(V a ha).ok;have I:∀i,i<Z5 c→v∈(cA c i).al→v∈evs (auts c.co++auts c.rq):=λi hi hb=>(ZC Y v).2 ⟨cA c i,by rw[yD];exact Lq.2 ⟨i,L8.2 hi,Z⟩,hb⟩;obtain ⟨a,ha,H⟩:=(ZC J v).1 U;rcases Lp.1 (show a∈(mods c).map (U8 c)++(rem c).map (coA c) from ha) with ha | ha
 ·obtain ⟨m,hm,rfl⟩:=Lq.1 ha;have hS:=E.sup hm;rw[hS.1,(YJ hS.2.2.1 hS.2.2.2.1 (mL c m)).al.trans hS.2.2.2.2.1.al] at H;obtain ⟨a,ha,h1⟩:=(ZC hS.2.2.2.2.2 v).1 H;rw[Yu E.d hm] at ha;obtain ⟨i,hi,rfl⟩:=Lq.1 ha;exact I i (qw E.d hm i hi) h1
 obtain ⟨i,hi,rfl⟩:=Lq.1 ha;rw[Vb hi] at H;have h1:=Kf i hi;exact I i.toNat (by unfold Z5;omega) H
theorem UE (E:jj c) (H:∀a∈ZD c,QM a) {v:Int}(I:∃i,i<c.co.length∧v∈(cA c i).al):v∈evs (ZD c):=by
 have J:=Zw E.d;obtain ⟨i,hi,U⟩:=I;exact Qpe E ((ZC (λa ha=>(J a (Lz _ ha)).ok) v).2 ⟨cA c i,by rw[V0];exact Lq.2 ⟨i,L8.2 hi,Z⟩,U⟩) H
theorem UG {a:QD}(E:QM a) {x v u:Int}(h:eget a.ed x v=some u):v∈a.al∧pst v a x=some u:=by
 have h1:=(E.ed _ (ZV h)).2.2.1;exact ⟨h1,by unfold pst;rw[if_pos h1];exact h⟩
theorem zE {a:QD}{x v u:Int}(E:v∈a.al) (h:pst v a x=some u):eget a.ed x v=some u:=by
 unfold pst at h
 rwa [if_pos E] at h
theorem QeP (I:X2 c=0) {i:Nat}(hi:i<(Y5 c).length) {v:Int}(H:v∈evs (ZD c)) {E:LI}(ht:Q5 v (ZD c) ((Y5 c).getD i [])=some E):eget (ZT c).ed i v=some ((Y5 c).idxOf E:Int)∧(Y5 c).idxOf E<(Y5 c).length∧(Y5 c).getD ((Y5 c).idxOf E) []=E:=by
 have hS:=(ZX I).1;have h1:=hS.step hi v;rw[if_pos H,ht] at h1;exact ⟨h1,hS.to hi H ht⟩
theorem Ua (I:X2 c=0) {i:Nat}(hi:i<(Y5 c).length) {v u:Int}(h:eget (ZT c).ed i v=some u):v∈evs (ZD c)∧∃E,Q5 v (ZD c) ((Y5 c).getD i [])=some E∧u=((Y5 c).idxOf E:Int)∧(Y5 c).idxOf E<(Y5 c).length∧(Y5 c).getD ((Y5 c).idxOf E) []=E:=by
 have hS:=(ZX I).1;have h1:=hS.step hi v;rw[h] at h1;split at h1
 ·rename_i H;obtain ⟨E,ht,e⟩:=LP.1 h1.symm;exact ⟨H,E,ht,e.symm,hS.to hi H ht⟩
 cases h1
def O2 (c:Q4) (x:Nat→Int):Prop:=tpl (Z5 c) x∈JS c∧∃i,i<(Y5 c).length∧X6 c x ((Y5 c).getD i [])
theorem Qfj (E:jj c) (H:X2 c=0) (hb:∀i:Nat,(i:Int)<(ZT c).st→WR (ZT c) (λ_=>True) i):∀x,O2 c x→lft (js c) ((JS c).idxOf (tpl (Z5 c) x))=true:=by
 have hS:=(ZX H).1;have hh:=(ZX H).2;have V:=YI (XD H).1;have hl:(ZT c).st=((Y5 c).length:Int):=hS.st;refine Qcg E (O:=O2 c) (λx hx=>⟨hx.1,let ⟨i,_,h⟩:=hx.2;⟨_,h⟩⟩) (λx v hx hj hv hk=>?_) λx hx=>?_
 ·obtain ⟨Y,i,hi,I⟩:=hx;obtain ⟨t',ht⟩:=X6.unc E I hj hk;obtain ⟨ha,J⟩:=X6.step E I ht;have U:=UE E V hv;obtain ⟨_,h2,h3⟩:=QeP H hi U ht;exact ⟨UW E.d Y (VQ E V U) J,_,h2,by rw[h3];exact ha⟩
 obtain ⟨Y,i,hi,I⟩:=hx;have hw:=hb i (by omega);clear hb;induction hw generalizing x with
 | @mk i hm =>
  refine WO.mk ((Vp E I).1 ?_);exact (KO hS hi).1 hm
 | @st i u v he _ _ ih =>
  obtain ⟨U,t',ht,e,h2,h3⟩:=Ua H hi (Xm hh.edi he);obtain ⟨ha,J⟩:=X6.step E I ht;have eu:u=(Y5 c).idxOf t':=by omega
  have hc:=VQ E V U;have hf:=UW E.d Y hc J;subst eu;have hg:X6 c (nx v (cA c) x) ((Y5 c).getD ((Y5 c).idxOf t') []):=by rw[h3];exact ha
  exact WO.st hc J ⟨hf,_,h2,hg⟩ (ih _ hf h2 hg)
theorem Qnp (h:Xv c):tpl (Z5 c) (λ_=>(0:Int))∈JS c∧(JS c).idxOf (tpl (Z5 c) (λ_=>(0:Int)))=0:=by
 have hs:=Z3 h;have h9:(spc c).a.st=((JS c).length:Int):=hs.1.st;have hp:0<(JS c).length:=by have:=hs.2.2.1;omega
 have h1:=hs.1.hd hp;have e:tpl (Z5 c) (λ_=>(0:Int))=List.replicate (auts c.co++auts c.rq).length 0:=by
  rw[show (auts c.co++auts c.rq).length=Z5 c by rw[Ll,Zx,Zx];rfl];unfold tpl;exact (List.map_const' ..).trans (by rw[M7])
 have E:tpl (Z5 c) (λ_=>(0:Int))∈JS c:=by rw[e,←h1];exact (ZM hp).2
 have hq:=QgF E;refine ⟨E,jG hs.1.nd hq.1 hp ?_⟩;rw[←(ZM hq.1).1,←(ZM hp).1,hq.2,e];exact h1.symm
theorem QhJ (h:Xv c) (hl:lft (js c) ((JS c).idxOf (tpl (Z5 c) (λ_=>(0:Int))))=true):(Jp c).st≠0:=by
 rw[(Qnp h).2] at hl;have hs:=Z3 h;have hC:=YJ (ZL h) hs.2.2.1 (js c);have h6:(ZJ (rstr (spc c).a (js c))).st=((sord (spc c).a (js c)).length:Int):=hC.st;have E:0<(sord (spc c).a (js c)).length:=hC.hd.2;have hp:0<(spc c).a.st:=hs.2.2.1;unfold Jp X8 Ja;rw[if_neg (λe1=>e1.elim (λe2=>by omega) (λe2=>by rw[show lft (YG (spc c).a (fbs (spc c)) (unc c.ev)) 0=true from hl] at e2;cases e2))]
 show (ZJ (rstr (spc c).a (js c))).st≠0;omega
theorem Qhv (H:jj c) (E:X2 c=0):(ZT c).st≠0∧0<(Y5 c).length∧(Y5 c).getD 0 []=List.replicate (ZD c).length 0:=by
 have h2:=Yj (YI (XD E).1) (Qaw (XD E).2).1;have hl:(Y5 c).length≠0:=λe=>by
  obtain ⟨a,ha,e2⟩:=h2.2.1 e;exact H.s a ha e2
 have h3:(ZT c).st=((Y5 c).length:Int):=h2.1.st;exact ⟨by omega,by omega,(ZX E).1.hd (by omega)⟩
theorem Qnm (h:Xv c) (hj:PsC c) (hn:∀m∈mods c,m.co≠[]) (H:X2 c=0) (hk:∀i:Nat,(i:Int)<(ZT c).st→WR (ZT c) (λ_=>True) i) (kd:Int):lgq (ZT c) (Jp c) kd=none:=by
 have hv:=(ZX H).2;have hm:QM (Jp c):=Ji (ZL h) _;have hS:=(ZX H).1;have ho:=YI (XD H).1;have hs:=Z3 h;have hg:=Zw h;have hr:∀a∈auts c.co++auts c.rq,QM a:=λa ha=>(hg a ha).ok;by_cases I:(Jp c).st=0
 ·by_cases ht:(ZT c).st=0
  ·exact Qfv hv hm ht I
  exfalso;have E:=Qpf h H ht;have J:=Qhv E H;exact QhJ h (Qfj E H hk _ ⟨(Qnp h).1,0,J.2.1,by rw[J.2.2];exact X6.init E⟩) I
 have E:=QmW h hj hn I;have J:=Qhv E H;obtain ⟨_,hl,hA⟩:=KN (B:=(spc c).a) (fb:=fbs (spc c)) (ul:=unc c.ev) I;have Y:Jp c=ZJ (rstr (spc c).a (js c)):=hA;refine Qfw (R:=λa b=>∃i x,a=((i:Nat):Int)∧i<(Y5 c).length∧X6 c x ((Y5 c).getD i [])∧yZ c x b) J.1 I ⟨0,λ_=>0,Z,J.2.1,by rw[J.2.2];exact X6.init E,qM h I⟩ ?_ ?_ ?_ ?_
 ·rintro a b ⟨i,x,rfl,_,_,j,_,rfl,_⟩;exact ⟨by omega,by omega⟩
 ·rintro a b v u ⟨i,x,rfl,hi,U,V⟩ he;obtain ⟨hw,t',ht,e,h2,h3⟩:=Ua H hi he;obtain ⟨hz,hc⟩:=X6.step E U ht;have hf:=VQ E ho hw;have h4:=(V.free h).2.2;have hu:X6 c (nx v (cA c) x) ((Y5 c).getD ((Y5 c).idxOf t') []):=by rw[h3];exact hz
  obtain ⟨y',hy,hb⟩:=X1.go hr hs.1 (ZL h) hs.2.2.1 V (Ud hc) (Qfj E H hk _ ⟨UW h h4 hf hc,_,h2,hu⟩);have hh:v∈(Jp c).al:=by
   rw[Y,(YJ (ZL h) hs.2.2.1 (js c)).al.trans hs.1.al];exact hf
  rw[←Y] at hy;exact ⟨y',zE hh hy,_,_,e,h2,hu,hb⟩
 ·rintro a b v u' ⟨i,x,rfl,hi,U,V⟩ he;obtain ⟨hh,hp⟩:=UG hm he;rw[Y] at hp;obtain ⟨q',hq,hb⟩:=X1.step hr hs.1 (ZL h) hs.2.2.1 V hp;obtain ⟨e2,hc⟩:=KQ hq;rw[e2] at hb;obtain ⟨t',ht⟩:=Qat E hj U hc hb;have hf:v∈evs (auts c.co++auts c.rq):=by
   rw[Y,(YJ (ZL h) hs.2.2.1 (js c)).al.trans hs.1.al] at hh;exact hh
  obtain ⟨h1,h2,h3⟩:=QeP H hi (UE E ho (UF h hf)) ht;exact ⟨_,h1,_,_,Z,h2,by rw[h3];exact (X6.step E U ht).1,hb⟩
 rintro a b ⟨i,x,rfl,hi,U,V⟩;rw[Y];exact (KO hS hi).trans ((Vp E U).trans (QmX h V).symm)
end
section
variable {c:Q4}
abbrev cdL (c:Q4):Lf:=YG (ZT c) [] (unc c.ev)
abbrev ccQ (c:Q4):List (LI):=XG [ZT c,Ve c]
def O1 (c:Q4) (x:Nat→Int):Prop:=tpl (Z5 c) x∈JS c∧∃t j,X1 (ZT c) (Y5 c) (cdL c) t j∧X6 c x t
theorem Qqj {i:Nat}(E:X2 c=0) (hi:i<(Y5 c).length) {t:LI}(ht:(Y5 c).getD i []=t):(Y5 c).idxOf t=i:=by
 have H:t∈Y5 c:=by rw[←ht];exact (ZM hi).2
 have hq:=QgF H;refine jG (ZX E).1.nd hq.1 hi ?_;rw[←(ZM hq.1).1,←(ZM hi).1,hq.2,ht]
theorem X1.at {lf:Lf}(E:X2 c=0) {t:LI}{j:Int}(h:X1 (ZT c) (Y5 c) lf t j):t∈Y5 c∧lft lf ((Y5 c).idxOf t)=true:=by
 obtain ⟨_,s,_,_,_,h3,h4,h5⟩:=h;refine ⟨by rw[←h5];exact (ZM h3).2,?_⟩;rw[Qqj E h3 h5];exact h4
theorem Qfk (E:jj c) (I:X2 c=0):∀x,O1 c x→lft (js c) ((JS c).idxOf (tpl (Z5 c) x))=true:=by
 have hS:=(ZX I).1;have J:=(ZX I).2;have U:=YI (XD I).1;have hz:(ZT c).st=((Y5 c).length:Int):=hS.st;have hb:0<(ZT c).st:=by have:=(Qhv E I).2.1;omega
 refine Qcg E (O:=O1 c) (λx hx=>⟨hx.1,let ⟨t,_,_,h⟩:=hx.2;⟨t,h⟩⟩) (λx v hx hh hv ho=>?_) λx hx=>?_
 ·obtain ⟨V,t,j,hj,H⟩:=hx;obtain ⟨Y,ht⟩:=X6.unc E H hh ho;obtain ⟨hc,hf⟩:=X6.step E H ht;have ha:=UE E U hv;have h1:=X1.unc (fb:=[]) hS J hb hj ha hh ht;obtain ⟨j',hg⟩:=Mh.1 h1;have hC:=YJ J hb (cdL c);have hs:v∈(ZJ (rstr (ZT c) (cdL c))).al:=by rw[hC.al.trans hS.al];exact ha
  have hp:pst v (ZJ (rstr (ZT c) (cdL c))) j=some j':=by unfold pst;rw[if_pos hs];exact hg
  obtain ⟨q',hq,hr⟩:=X1.step U hS J hb hj hp;rw[ht] at hq;rw[←Option.some.inj hq] at hr;exact ⟨UW E.d V (VQ E U ha) hf,Y,j',hr,hc⟩
 obtain ⟨V,t,j,hj,H⟩:=hx;have hk:=hj.at I;have hq:=QgF hk.1;have key:=zV J (fb:=[]) (ul:=unc c.ev) (T:=λi=>i<(Y5 c).length→∀x j,tpl (Z5 c) x∈JS c→X6 c x ((Y5 c).getD i [])→X1 (ZT c) (Y5 c) (cdL c) ((Y5 c).getD i []) j→WO c (O1 c) x) (λi _ hm hi x j _ H _=>WO.mk ((Vp E H).1 ((KO hS hi).1 hm))) (λi u v _ hu he hw hi x j V H hj=>by
  obtain ⟨ha,Y,ht,e,h2,h3⟩:=Ua I hi (Xm J.edi he);obtain ⟨hc,hf⟩:=X6.step E H ht;have eu:u=(Y5 c).idxOf Y:=by omega
  have hl:=VQ E U ha;have hn:=UW E.d V hl hf;subst eu;obtain ⟨j',_,hg⟩:=X1.go U hS J hb hj ht hu;have hy:X6 c (nx v (cA c) x) ((Y5 c).getD ((Y5 c).idxOf Y) []):=by rw[h3];exact hc
  exact WO.st hl hf ⟨hn,Y,j',hg,hc⟩ (hw h2 _ j' hn hy (by rw[h3];exact hg)))
 exact key _ (by omega) hk.2 hq.1 x j V (by rw[hq.2];exact H) (by rw[hq.2];exact hj)
theorem Qhw (I:jj c) (hn:PsC c) (U:X2 c=0) {i:Nat}(hi:i<(Y5 c).length) {x:Nat→Int}{y:Int}(E:X6 c x ((Y5 c).getD i [])) (H:yZ c x y):lft (cdL c) i=true:=by
 have h:=I.d;have hS:=(ZX U).1;have hk:=(ZX U).2;have hl:=YI (XD U).1;have h5:(ZT c).st=((Y5 c).length:Int):=hS.st;have hs:=Z3 h;have hg:=Zw h;have ho:∀a∈auts c.co++auts c.rq,QM a:=λa ha=>(hg a ha).ok;let G:Nat→Prop:=λi=>i<(Y5 c).length∧∃x y,X6 c x ((Y5 c).getD i [])∧yZ c x y;refine zU hk (G:=G) (λs hs=>by have:=hs.1;omega) (λs _ z hz=>by cases hz) ?_ ?_ i ⟨hi,x,y,E,H⟩
 ·rintro s v u ⟨hc,x,y,E,H⟩ he hp;obtain ⟨hr,t',ht,e,h2,h3⟩:=Ua U hc (Xm hk.edi he);obtain ⟨hf,hh⟩:=X6.step I E ht;have Y:=VQ I hl hr;obtain ⟨y',_,J⟩:=H.unc h hp (UF h Y) hh;rw[e,LO];exact ⟨h2,_,y',by rw[h3];exact hf,J⟩
 have key:=zV (ZL h) (fb:=fbs (spc c)) (ul:=unc c.ev) (T:=λs=>s<(JS c).length→∀x y,yZ c x y→(JS c).getD s []=tpl (Z5 c) x→∀i:Nat,i<(Y5 c).length→X6 c x ((Y5 c).getD i [])→WR (ZT c) G i) (λs _ hu hb x y H hx i hi E=>by
  have h1:=(KO hs.1 hb).1 hu;rw[hx] at h1;exact WR.mk ((KO hS hi).2 ((Vp I E).2 (U9 h1)))) (λs u v _ hv he hw hb x y H hx i hi E=>by
  have V:=Xm (ZL h).edi he;rw[hs.1.step hb v] at V;split at V
  ·rename_i Y;rw[hx] at V;obtain ⟨q',hq,e1⟩:=LP.1 V;have hj:=hs.1.to hb Y (u:=q') (by rw[hx];exact hq);have eu:(JS c).idxOf q'=u:=by have:(((JS c).idxOf q':Nat):Int)=(u:Int):=e1;omega
   obtain ⟨e2,hh⟩:=KQ hq;have hy:lft (js c) ((JS c).idxOf q')=true:=by rw[eu];exact hv
   obtain ⟨y',_,J⟩:=X1.go ho hs.1 (ZL h) hs.2.2.1 H hq hy;rw[e2] at J;rw[eu] at hj;obtain ⟨t',ht⟩:=Qat I hn E hh J;obtain ⟨hf,_⟩:=X6.step I E ht;obtain ⟨h1,h2,h3⟩:=QeP U hi (UE I hl (UF h Y)) ht;have hm:X6 c (nx v (cA c) x) ((Y5 c).getD ((Y5 c).idxOf t') []):=by rw[h3];exact hf
   exact WR.st (ZV h1) ⟨h2,_,y',hm,J⟩ (hw hj.1 _ y' J (by rw[hj.2,e2]) _ h2 hm)
  cases V)
 rintro s ⟨hc,x,y,E,H⟩;have h4:=H;obtain ⟨j,sw,e0,k1,k2,k3,k4,k5⟩:=H;exact key sw (by have h9:(spc c).a.st=((JS c).length:Int):=hs.1.st;omega) k4 k3 x y h4 k5 s hc E
theorem QnM (h:Xv c) (hu:PsC c) (hn:∀m∈mods c,m.co≠[]) (H:X2 c=0) (hQ:∃z,sync [ZT c,Ve c]=some z) (kd:Int):lgq (ccA c) (Jp c) kd=none:=by
 have I:=(ZX H).2;have hB:QM (Jp c):=Ji (ZL h) _;have hC:QM (Ve c):=Ji I _;have hS:=(ZX H).1;have hv:=YI (XD H).1;have hs:=Z3 h;have hg:=Zw h;have hD:∀a∈auts c.co++auts c.rq,QM a:=λa ha=>(hg a ha).ok;have hE:∀a∈[ZT c,Ve c],QM a:=λa ha=>by
  simp only[List.mem_cons,List.not_mem_nil,or_false] at ha;rcases ha with rfl | rfl
  ·exact I
  exact hC
 have hR:sync [ZT c,Ve c]=some (ccA c,ccQ c):=by
  obtain ⟨z,e⟩:=hQ;have e1:ccA c=z.1:=by unfold ccA UX;rw[e]
  have e2:ccQ c=z.2:=by show XG [ZT c,Ve c]=z.2;unfold XG;rw[e]
  rw[e1,e2];exact e
 have J:=Yj hE hR;have hU:QM (ccA c):=ze.okay hE J.1;have gg:(ccA c).st=((ccQ c).length:Int):=J.1.st;have gh:(ZT c).st=((Y5 c).length:Int):=hS.st;have hV:(Ve c).al=(ZT c).al:=by
  show (Ja (ZT c) _).al=_;unfold Ja;split
  ·rfl
  unfold ZJ;split <;> rfl
 have hF:evs [ZT c,Ve c]=(ZT c).al:=Qmj I hC (λx hx=>by rw[←hV];exact hx);by_cases U:(Jp c).st=0
 ·by_cases ht:(ccA c).st=0
  ·exact Qfv hU hB ht U
  exfalso;have hG:∀a∈[ZT c,Ve c],a.st≠0:=λa ha e=>by
   have:=J.2.2 ⟨a,ha,e⟩;omega
  have hX:=hG (ZT c) (by simp);have h8:=hG (Ve c) (by simp);have E:=Qpf h H hX;have hb:=Qhv E H;obtain ⟨_,hl,_⟩:=KN (B:=ZT c) (fb:=[]) (ul:=unc c.ev) h8;have hj:=X1.init (Q:=Y5 c) hS I (by omega) (show lft (cdL c) 0=true from hl);exact QhJ h (Qfk E H _ ⟨(Qnp h).1,_,_,hj,X6.init E⟩) U
 have E:=QmW h hu hn U;have hb:=Qhv E H;have hh:0<(ZT c).st:=by omega
 have hH:lft (cdL c) 0=true:=Qhw E hu H hb.2.1 (x:=λ_=>0) (by rw[hb.2.2];exact X6.init E) (qM h U);obtain ⟨_,hl,hA⟩:=KN (B:=(spc c).a) (fb:=fbs (spc c)) (ul:=unc c.ev) U;have hk:Jp c=ZJ (rstr (spc c).a (js c)):=hA;have hK:Ve c=ZJ (rstr (ZT c) (cdL c)):=by
  unfold Ve X8 Ja;rw[if_neg (λe1=>e1.elim (λe2=>by omega) (λe2=>by rw[show lft (YG (ZT c) [] (unc c.ev)) 0=true from hH] at e2;cases e2))]
 have hI:=YJ I hh (cdL c);have h8:(Ve c).st≠0:=by
  have h6:(ZJ (rstr (ZT c) (cdL c))).st=((sord (ZT c) (cdL c)).length:Int):=hI.st;have h7:0<(sord (ZT c) (cdL c)).length:=hI.hd.2;rw[hK];omega
 have hJ:0<(ccQ c).length:=Nat.pos_of_ne_zero λe=>by
  obtain ⟨a,ha,e2⟩:=J.2.1 e;simp only[List.mem_cons,List.not_mem_nil,or_false] at ha;rcases ha with rfl | rfl
  ·omega
  exact h8 e2
 have hY:(ccQ c).getD 0 []=[((0:Nat):Int),0]:=J.1.hd hJ;refine Qfw (R:=λa b=>∃(o i:Nat) (j:Int) (x:Nat→Int),a=(o:Int)∧o<(ccQ c).length∧(ccQ c).getD o []=[(i:Int),j]∧i<(Y5 c).length∧X1 (ZT c) (Y5 c) (cdL c) ((Y5 c).getD i []) j∧X6 c x ((Y5 c).getD i [])∧yZ c x b) (by omega) U
  ⟨0,0,0,λ_=>0,Z,hJ,hY,hb.2.1,by rw[hb.2.2];exact X1.init hS I hh hH,by rw[hb.2.2];exact X6.init E,qM h U⟩ ?_ ?_ ?_ ?_
 ·rintro a b ⟨o,i,j,x,rfl,_,_,_,_,_,j2,_,rfl,_⟩;exact ⟨by omega,by omega⟩
 ·rintro a b v u ⟨o,i,j,x,rfl,V,Y,hi,hj,hT,hW⟩ he;have h1:=J.1.step V v;rw[he,Y] at h1;split at h1
  ·rename_i hw;obtain ⟨t2,hL,eu⟩:=LP.1 h1.symm;have hc:=J.1.to V hw (u:=t2) (by rw[Y];exact hL);have h9:v∈(ZT c).al:=by rw[←hF];exact hw
   obtain ⟨i',j',k1,k2,rfl⟩:=Qhu hL;obtain ⟨hZ,t',ht,e,h2,h3⟩:=Ua H hi (zE h9 k1);obtain ⟨hm,hz⟩:=X6.step E hT ht;rw[hK] at k2;obtain ⟨q',hq,hr⟩:=X1.step hv hS I hh hj k2;rw[ht] at hq;rw[←Option.some.inj hq] at hr;have hM:=VQ E hv hZ;have ga:=(hW.free h).2.2;have gb:=UW h ga hM hz
   obtain ⟨y',hy,hf⟩:=X1.go hD hs.1 (ZL h) hs.2.2.1 hW (Ud hz) (Qfk E H _ ⟨gb,t',j',hr,hm⟩);have h4:v∈(Jp c).al:=by
    rw[hk,(YJ (ZL h) hs.2.2.1 (js c)).al.trans hs.1.al];exact hM
   rw[←hk] at hy;rw[e] at hc eu;exact ⟨y',zE h4 hy,_,_,j',_,eu.symm,hc.1,hc.2,h2,by rw[h3];exact hr,by rw[h3];exact hm,hf⟩
  cases h1
 ·rintro a b v u' ⟨o,i,j,x,rfl,V,Y,hi,hj,hT,hW⟩ he;obtain ⟨h4,hp⟩:=UG hB he;rw[hk] at hp;obtain ⟨q',hq,hf⟩:=X1.step hD hs.1 (ZL h) hs.2.2.1 hW hp;obtain ⟨e2,hz⟩:=KQ hq;rw[e2] at hf;obtain ⟨t',ht⟩:=Qat E hu hT hz hf;have hw:v∈evs (auts c.co++auts c.rq):=by
   rw[hk,(YJ (ZL h) hs.2.2.1 (js c)).al.trans hs.1.al] at h4;exact h4
  obtain ⟨h1,h2,h3⟩:=QeP H hi (UE E hv (UF h hw)) ht;have hm:=(X6.step E hT ht).1;have h9:v∈(ZT c).al:=(UG I h1).1;have gc:=Qhw E hu H h2 (x:=nx v (cA c) x) (by rw[h3];exact hm) hf;obtain ⟨j',hj1,hr⟩:=X1.go hv hS I hh hj ht gc;have ge:pst v (Ve c) j=some j':=by rw[hK];exact hj1
  have hN:=Qnl (UG I h1).2 ge;have hO:v∈evs [ZT c,Ve c]:=by rw[hF];exact h9
  have h5:=J.1.step V v;rw[if_pos hO,Y,hN] at h5;have hc:=J.1.to V hO (u:=[((Y5 c).idxOf t':Int),j']) (by rw[Y];exact hN);exact ⟨_,h5,_,_,j',_,Z,hc.1,hc.2,h2,by rw[h3];exact hr,by rw[h3];exact hm,hf⟩
 rintro a b ⟨o,i,j,x,rfl,V,Y,hi,hj,hT,hW⟩;rw[hk];refine Iff.trans ?_ (QmX h hW).symm;rw[KO J.1 V,Y];have m1:=(KO hS hi).trans (Vp E hT);have m2:j∈(Ve c).mr↔Yp (ZD c) ((Y5 c).getD i [])=true:=by rw[hK];exact X1.mr hS I hh hj
 have m3:=m2.trans (Vp E hT);show (decide ((i:Int)∈(ZT c).mr) && (decide (j∈(Ve c).mr) && true))=true↔_;rw[Bool.and_true,Lu,decide_eq_true_iff,decide_eq_true_iff,m1,m3,and_self]
end
theorem ym {f:Nat→Bool}{seen:List ByteArray}{k:Nat}(hk:k<5) (hs:nm1 97 k∉seen):X5 seen (evL f k)=0:=by
 unfold X5;rw[show (evL f k).nm=nm1 97 k from rfl,if_neg (by rw[QiA hk];decide),if_neg hs,if_neg (show ¬((evL f k).fl<0∨4<(evL f k).fl) by rw[show (evL f k).fl=0 from rfl];decide),if_neg (λh=>h.1 Z)]
theorem Qml (f:Nat→Bool):JD ((List.range 5).map (evL f))=0:=by
 have e:(List.range 5).map (evL f)=[evL f 0,evL f 1,evL f 2,evL f 3,evL f 4]:=rfl;have E:∀k,(evL f k).nm=nm1 97 k:=λk=>Z;unfold JD;rw[e,if_neg (by simp)];simp only[qA,E];rw[ym (by decide) (by decide),ym (by decide) (by decide),ym (by decide) (by decide),ym (by decide) (by decide),ym (by decide) (by decide)];simp
theorem Qlp:∀n,n<4→((List.range n).map (nmI 109)).Nodup:=by decide
theorem QnR:∀a,a<3→∀b,b<2→nmI 109 a≠nmI 114 b:=by decide
theorem Qiz:∀a,a<3→Xq (nmI 109 a)=true∧Xq (nmI 114 a)=true:=by
 intro a ha;have h:a=0∨a=1∨a=2:=by omega
 rcases h with rfl | rfl | rfl <;> exact ⟨by decide,by decide⟩
theorem QoL:∀n,n<4→∀e∈yI n,∃i,i<n∧e∈JT i:=by
 intro n E e he;have h:n=0∨n=1∨n=2∨n=3:=by omega
 rcases h with rfl | rfl | rfl | rfl
 ·cases he
 ·exact ⟨0,by decide,he⟩
 ·simp only[yI,List.take,List.mem_cons,List.not_mem_nil,or_false] at he;rcases he with rfl | rfl | rfl
  ·exact ⟨0,by decide,by decide⟩
  ·exact ⟨1,by decide,by decide⟩
  exact ⟨1,by decide,by decide⟩
 simp only[yI,List.take,List.mem_cons,List.not_mem_nil,or_false] at he;rcases he with rfl | rfl | rfl | rfl | rfl
 ·exact ⟨0,by decide,by decide⟩
 ·exact ⟨1,by decide,by decide⟩
 ·exact ⟨1,by decide,by decide⟩
 ·exact ⟨2,by decide,by decide⟩
 exact ⟨2,by decide,by decide⟩
theorem Qk1:∀i,i<3→∀e∈JT i,e<5:=by
 intro i hi;have h:i=0∨i=1∨i=2:=by omega
 rcases h with rfl | rfl | rfl <;> decide
theorem Qk2:∀i,i<3→∀j,j<3→i≠j→∀e∈JT i,e∉JT j:=by
 intro i hi j hj;have h:i=0∨i=1∨i=2:=by omega
 have h2:j=0∨j=1∨j=2:=by omega
 rcases h with rfl | rfl | rfl <;> rcases h2 with rfl | rfl | rfl <;> decide
section
variable {k:Q4}
theorem LnC.d25 (h:LnC k):Xv k:=by
 have E:=h.n;have H:k.co.map (·.nm)=(List.range k.co.length).map (nmI 109):=by
  refine LX (by simp) λi h1 h2=>?_;rw[LJ,LJ,Mn];exact (h.co i (by simpa using h1)).1
 refine ⟨?_,by omega,E.2,h.r,λx hx=>?_,λx hx=>?_,?_,by have:=h.x;omega,λx hx=>?_,?_,by rw[h.cs];exact Ln 1,λx hx=>?_⟩
 ·obtain ⟨f,e⟩:=h.ev;rw[e];exact ⟨Z,Qml f⟩
 ·obtain ⟨i,hi,rfl⟩:=LB hx;obtain ⟨h1,h2,h3⟩:=h.co i hi;exact ⟨by rw[h1];exact (Qiz i (by omega)).1,h2,λe he=>Qk1 i (by omega) e (by rw[←h3];exact he)⟩
 ·obtain ⟨⟨j,hj,h1⟩,h2,_,h4⟩:=h.rq.each x hx;refine ⟨by rw[h1];exact (Qiz j (by omega)).2,h2,λe he=>?_⟩;obtain ⟨i,hi,h5⟩:=QoL _ (by omega) e (h4 e he);exact ⟨k.co[i]'hi,Le hi,by rw[(h.co i hi).2.2];exact h5⟩
 ·rw[H,Mu];refine ⟨Qlp _ (by omega),h.rq.nd,λa ha b hb e=>?_⟩;obtain ⟨i,hi,rfl⟩:=Lq.1 ha;obtain ⟨x,hx,rfl⟩:=Lq.1 hb;obtain ⟨⟨j,hj,h1⟩,_⟩:=h.rq.each x hx;have:=L8.1 hi;exact QnR i (by omega) j hj (by rw[←h1];exact e)
 ·obtain ⟨h1,h2,h3⟩:=h.ex x hx;exact ⟨by rw[h1];decide,h2,h3⟩
 ·have h1:=h.x
  match k.ex,h1 with
  | [],_=>exact MC
  | [x],_=>exact M9 _ _
 rw[h.cs] at hx;cases hx
theorem LnC.al (h:LnC k) {i:Nat}(hi:i<k.co.length):(cA k i).al=JT i:=by
 rw[yC hi,ZG hi];exact (h.co i hi).2.2
theorem LnC.ps (h:LnC k):PsC k:=λi j hi hj H v E hv'=>by
 have I:=h.n;rw[h.al hi] at E;rw[h.al hj] at hv';exact Qk2 i (by omega) j (by omega) H v E hv'
theorem LnC.ne (h:LnC k):∀m∈mods k,m.co≠[]:=λm hm e=>by
 rcases Je h.d25 hm with ⟨i,hi,e1⟩ | ⟨i,hi,e1⟩ | ⟨i,hi,e1⟩
 ·subst e1;obtain ⟨_,h2,h3,h4⟩:=h.rq.each _ (Le hi);obtain ⟨v,E⟩:=List.exists_mem_of_ne_nil _ h3;obtain ⟨y,hy,H⟩:=(h.d25.rq _ (Le hi)).2.2 v E;obtain ⟨j,hj,rfl⟩:=LB hy;have h5:(j:Int)∈(jb k i).co:=(XK _ _ _ _).2 ⟨j,hj,by simp,by
   rw[ZG hi];exact Mk.2 ⟨v,E,by simpa using H⟩⟩
  rw[e] at h5;cases h5
 ·subst e1;have h1:=(h.ex _ (Le hi)).2.1;have h2:(K7 k i).co=((k.ex.getD i ⟨.empty,[]⟩).ls).map (·.1):=rfl;rw[h2,ZG hi,List.map_eq_nil_iff] at e;exact h1 e
 rw[h.cs] at hi;exact absurd hi (Me i)
end
theorem QoE {a:QD}{s:Int}(z:LI×LI) (p:Int) (hp:0≤p∧WR a (λ_=>True) p.toNat) (h:(∀i:Nat,0≤cget z.1 i→i<z.1.length→WR a (λ_=>True) i)∧∀x∈z.2,0≤x∧WR a (λ_=>True) x.toNat) :
  (∀i:Nat,0≤cget (KE s z p).1 i→i<(KE s z p).1.length→WR a (λ_=>True) i)∧∀x∈(KE s z p).2,0≤x∧WR a (λ_=>True) x.toNat:=by
 unfold KE;split
 ·refine ⟨λi hi hl=>?_,λx hx=>?_⟩
  ·have H:i<z.1.length:=by simpa using hl
   by_cases e:p.toNat=i
   ·rw[←e];exact hp.2
   refine h.1 i ?_ H;have E:0≤cget (z.1.set p.toNat (cget z.1 s.toNat+1)) i:=hi;unfold cget at *;rw[LA,List.getElem?_set,if_neg e,←LA] at E;exact E
  rcases Lp.1 (show x∈z.2++[p] from hx) with hx | hx
  ·exact h.2 x hx
  rw[Lc.1 hx];exact hp
 exact h
theorem Qkc {a:QD}(H:QM a):∀(f:Nat) (o q:LI),(∀i:Nat,0≤cget o i→i<o.length→WR a (λ_=>True) i)→(∀x∈q,0≤x∧WR a (λ_=>True) x.toNat)→∀i:Nat,0≤cget (bwL a.ed f o q) i→i<(bwL a.ed f o q).length→WR a (λ_=>True) i
 | 0,_,_,h,_=>h
 | _+1,_,[],h,_=>h
 | f+1,o,s::q,h,hq=>by
  rw[bwL];have hs:=hq s Lm;have J:∀p∈Zz a.ed s.toNat,0≤p∧WR a (λ_=>True) p.toNat:=λp hp=>by
   obtain ⟨e,he,h1,h2⟩:=Xz hp;have h3:=(H.ed e he).1;rw[h1] at h3;refine ⟨h3,WR.st (u:=s.toNat) (v:=e.2.1) ?_ La hs.2⟩;have e2:e=((p.toNat:Int),e.2.1,(s.toNat:Int)):=by rw[←h2,show ((p.toNat:Nat):Int)=e.1 by omega]
   rw[←e2];exact he
  have key:∀(ps:LI) (z:LI×LI),(∀p∈ps,0≤p∧WR a (λ_=>True) p.toNat)→((∀i:Nat,0≤cget z.1 i→i<z.1.length→WR a (λ_=>True) i)∧∀x∈z.2,0≤x∧WR a (λ_=>True) x.toNat) →
    (∀i:Nat,0≤cget (ps.foldl (KE s) z).1 i→i<(ps.foldl (KE s) z).1.length→WR a (λ_=>True) i)∧∀x∈(ps.foldl (KE s) z).2,0≤x∧WR a (λ_=>True) x.toNat:=by
   intro ps;induction ps with
   | nil=>intro z _ E;exact E
   | cons p ps ih=>intro z I E;exact ih _ (λy hy=>I y (Lk _ hy)) (QoE z p (I p Lm) E)
  have hk:=key (Zz a.ed s.toNat) (o,q) J ⟨h,λx hx=>hq x (Lk _ hx)⟩;exact Qkc H f _ _ hk.1 hk.2
theorem QoG {a:QD}(E:QM a) (h:(Xo a).length=0):∀i:Nat,(i:Int)<a.st→WR a (λ_=>True) i:=λi hi=>by
 have V:=E.st0;have hc:(i:Int)∈cor a:=Decidable.byContradiction λI=>by
  have h1:=(UO a i).2 ⟨⟨by omega,by omega⟩,I⟩;have:=List.length_pos_of_mem h1;omega
 unfold cor VH at hc;obtain ⟨k,hk,e⟩:=Lq.1 hc;have H:=LL.1 hk;have J:k=i:=by omega
 subst J;have hd:=of_decide_eq_true H.2;refine Qkc E _ _ _ (λj hj hl=>?_) (λx hx=>?_) k hd (by rw[Qbv,Yx];have:=L8.1 H.1;exact this)
 ·unfold Vf cget at hj;have U:j<a.st.toNat:=by rw[Yx] at hl;exact hl
  rw[LA,Nk,List.getElem?_range U] at hj;by_cases hm:(j:Int)∈a.mr
  ·exact WR.mk hm
  simp[hm] at hj
 have:=(E.mr x hx).1;exact ⟨this,WR.mk (by rw[show ((x.toNat:Nat):Int)=x by omega];exact hx)⟩
theorem QcY {a b:QD}(h:∀kd,lgq a b kd=none):cmW a b=none:=by unfold cmW;rw[h,h];rfl
section
variable {k:Q4}
theorem LnC.tg (h:LnC k):X2 k=0:=by
 rcases Qnq h.d25 with e | e
 ·exact e
 exfalso;have H:∀m∈mods k,yX k m=0:=λm hm=>(zK h.d25 hm).2 (h.ne m hm);have h1:∀l:List YZ,(∀m∈l,yX k m=0)→msL k l=0:=by
  intro l;induction l with
  | nil=>intro _;rfl
  | cons m l ih =>
   intro hl;rw[Ul,if_neg (not_not_intro (hl m Lm))];exact ih λq hq=>hl q (Lk _ hq)
 have E:KC k=0:=by rw[UY,if_neg (not_not_intro h.d25.ck)];exact h1 _ H
 obtain ⟨z,e2⟩:=QbQ h.d25 h.ne;have hck:JP (ZD k)=0:=by
  have h3:=QiG h.d25;have h4:=QaE (mods k) k.co.length;have h5:=h.d25.c3;unfold JP;rw[if_neg (by rw[Z2,QaJ (by omega)];omega)];exact (Jw _).2 (YI E)
 rw[QeQ,E,if_neg (by decide)] at e;unfold X9 at e;rw[hck,e2] at e;cases e
theorem LnC.su (h:LnC k):suE k=0:=by obtain ⟨_,_,_,_,_,_,e⟩:=UI h.d25;exact e
theorem LnC.noShd (h:LnC k):U0 k=none:=by
 have E:=h.ps;have H:∀v,(ownr k v).length≤1:=λv=>by
  refine Decidable.byContradiction λY=>?_;have hl:2≤(ownr k v).length:=by omega
  have I:Z8 (ownr k v):=Uu _ _ _;have h1:=Le (show 0<(ownr k v).length by omega);have h2:=Le (show 1<(ownr k v).length by omega);have h3:=(M0.1 I) 0 1 (by omega) (by omega) (by omega);obtain ⟨i,hi,e1,J⟩:=(XK _ _ _ _).1 h1;obtain ⟨j,hj,e2,U⟩:=(XK _ _ _ _).1 h2;rw[e1,e2] at h3;have n1:=of_decide_eq_true J;have V:=of_decide_eq_true U
  refine E i j hi hj (by omega) v ?_ ?_
  ·rw[yC hi,ZG hi];exact n1
  rw[yC hj,ZG hj];exact V
 have key:∀l:LI,shd k l=none:=by
  intro l;induction l with
  | nil=>rfl
  | cons v l ih =>
   rw[shd,if_neg (by have:=H v;omega)];exact ih
 exact key _
theorem LnC.one (h:LnC k) (E:∃z,sync [ZT k,Ve k]=some z):cmW (ccA k) (Jp k)=none:=QcY λkd=>QnM h.d25 h.ps h.ne h.tg E kd
theorem LnC.two (h:LnC k) (hb:(Xo (ZT k)).length=0):cmW (ZT k) (Jp k)=none:=QcY λkd=>Qnm h.d25 h.ps h.ne h.tg (QoG (ZX h.tg).2 hb) kd
end
structure LwV where
 ns:LN
 ct:Nat
 ad:Option Addr
 n:Nat
 cp:Nat
 x0:Nat
 x1:Nat
 cl:Nat
abbrev Km (l:LwV):LV:=bys l.ns++[.int .u8 (l.ct:Int),.slice l.ad l.n l.cp,.int .u8 (l.x0:Int),.int .u8 (l.x1:Int),.int .u8 (l.cl:Int)]
structure LwA (w:World) (l:LwV):Prop where
 n:l.ns.length=81
 b:∀n∈l.ns,n<256
 ct:l.ct<256
 x0:l.x0<256
 x1:l.x1<256
 cl:l.cl<256
 r:l.n≤3→∃rs:List PtV,rs.length=l.n∧ZA [] w.heap (.slice l.ad l.n l.cp) l.n 28 (rs.flatMap YE)
def LwV.ln (l:LwV) (rs:List PtV):LnV:=⟨l.ns,l.ct,.slice l.ad l.n l.cp,rs,l.x0,l.x1,l.cl⟩
theorem LwA.ln {w w':World}{l:LwV}(h:LwA w l) (hs:Step [] w w') (E:l.n≤3):∃rs,LnA [] w'.heap (l.ln rs):=by
 obtain ⟨rs,h1,h2⟩:=h.r E;exact ⟨rs,h.n,h.b,h.ct,h.x0,h.x1,h.cl,by show ZA _ _ _ rs.length 28 _;rw[h1];exact h2.ext hs⟩
theorem Qpy {l:LwV}(h:l.ns.length=81):(Km l)[82]?=some (.slice l.ad l.n l.cp):=by
 show (Km l)[81+1]?=_;rw[Km,Mw (by rw[YS];omega),YS,h,Ns];rfl
open Go.Proofs.Tryz
open Go.ChangeShapes Go.WideShapes Go.RowKit
section
variable {H:Type} {enc:TypeId×Value→H} {P:Program} {W:World} {base b0:Nat} {sp:Nat→Bool} {held:Bool}
theorem QoJ {t e:TypeId}{c:Value}{fuel:Nat}{x:DataW H×List MemPlace}(ht:P.underlying t=some (.slice e)) (he:kT P .u8 5 e=true) (hc:P.cellsOf e=28)
  (ha:Cell.okWide P W .any base t c) (hb:DataW.trod enc P W b0 sp held fuel t [c]=some x):∃a n cp,c=.slice a n cp∧(n≤12→∃u:List PtV,u.length=n∧ZA [] W.heap (.slice a n cp) n 28 (u.flatMap YE)):=by
 rcases DataW.trod_slice ht hb with ⟨E,_⟩ | ⟨a,len,cap,elems,rest,m,_,E,_,_,hl,_,hn,hf,_,_⟩
 ·simp at E;subst E;exact ⟨none,0,0,Z,λ_=>⟨[],Z,ZA.nil _ _ _⟩⟩
 simp at E;subst E;refine ⟨some a,len,cap,Z,λho=>?_⟩;have each:∀i,i<len→∃d:PtV,∀r v,(YE d)[r]?=some v→W.cell? (a.add (i*28+r))=some v:=by
  intro i hi;have J:=hf i hi;rw[hc,LE (show i<elems.length by omega)] at J;obtain ⟨cs,E,hg⟩:=L6.1 J;have hh:=Us 5 he hg;obtain ⟨ns,h1,h2,h3⟩:=Qes cs (λv I=>UV (hh v I));unfold World.cells? at E;split at E
  ·have hp:cs.length=28:=by
    simpa using (zP E).1
   refine ⟨⟨ns,by omega,h3⟩,λr v I=>?_⟩;have hv':cs[r]?=some v:=by rw[h1];exact I
   have hk:r<28:=by have:=(Ma.1 hv').1;omega
   have h4:=(zP E).2 r r (by simp[hk]);rw[Lg.Addr.add_add,hv'] at h4;exact h4
  cases E
 obtain ⟨u,U,hu⟩:=QiO len each;refine ⟨u,U,?_⟩;have V:(u.flatMap YE).length=u.length*28:=Go.Lg.yg YE 28 QaS u;refine ⟨by rw[V,U],by omega,.inr ⟨a,cap,rfl,by omega,λ_ _=>by simp,λ_ _=>QkY ht ha,λj v I=>?_⟩⟩;have hj:j<u.length*28:=by
  rw[←V];exact (Ma.1 I).1
 have hi:j / 28<u.length:=by omega
 have hm:=Ko YE 28 QaS u (j / 28) hi;have Y:j=j / 28*28+j % 28:=by omega
 have h3:(YE (u[j / 28]'hi))[j % 28]?=some v:=by
  rw[←hm,Mo,if_pos (Nat.mod_lt _ (by omega)),M2,←Y];exact I
 rw[←Jm];have:=hu (j / 28) hi (j % 28) v h3;rw[←Y] at this;exact this
end
section
variable {H:Type} {enc:TypeId×Value→H} {P:Program} {W:World} {base b0:Nat} {sp:Nat→Bool} {held:Bool}
theorem Qg1 {v:Value}{d:DataW H}{ps:List MemPlace}{t tp te:Nat}{E f1 f2 f3 I:Field}(hu:P.underlying t=some (.struct #[E,f1,f2,f3,I])) (ha:(P.cellTypes P.depth t).map (λts=>(ts.length,ts[82]?))=some (86,some tp)) (hc:P.cellsOf t=86)
  (hr:f2.type=tp) (o0:E.offset=0) (o1:f1.offset=81) (o2:f2.offset=82) (o3:f3.offset=83) (o4:I.offset=85) (c0:P.cellsOf E.type=81) (c1:P.cellsOf f1.type=1) (c2:P.cellsOf tp=1) (c3:P.cellsOf f3.type=2) (c4:P.cellsOf I.type=1)
  (k0:kT P .u8 5 E.type=true) (k1:kT P .u8 5 f1.type=true) (k3:kT P .u8 5 f3.type=true) (k4:kT P .u8 5 I.type=true) (hs:P.underlying tp=some (.slice te)) (ht:kT P .u8 5 te=true) (hv:P.cellsOf te=28)
  (hb:Value.okWide P W .any base t v) (h:DataW.Trod enc P W b0 sp held t v d ps):∃l:LwV,v=.agg (Km l).toArray∧LwA W l:=by
 simp only[Value.okWide,hu] at hb;obtain ⟨cs,rfl,he,ts,hw,_,hy⟩:=hb;rw[hw] at ha;have hg:=Option.some.inj ha;have hz:ts.length=86:=congrArg Prod.fst hg;have h0:ts[82]?=some tp:=congrArg Prod.snd hg;rw[hc] at he;obtain ⟨l⟩:=cs;have hl:l.length=86:=he;obtain ⟨fuel,hf⟩:=h;obtain ⟨xs,m,_,_,_,J,h1⟩:=DataW.trod_struct hu hf
 have U:∀(i:Nat) (f:Field),(#[E,f1,f2,f3,I]:Array Field)[i]?=some f→DataW.trod enc P W b0 sp held m f.type ((l.drop f.offset).take (P.cellsOf f.type))=xs[i]?:=h1;have hG:xs.length=5:=J;have g0:∀c∈l.take 81,∃n:Nat,c=.int .u8 (n:Int)∧n<256:=λc hm=>by
  obtain ⟨j,hj,hh⟩:=LB hm;have hH:j<81:=by simp at hj;omega
  have h2:l[j]?=some c:=by
   rw[Nb] at hh;rw[LE (by omega),hh]
  exact UV (UB J U (i:=0) (f:=E) Z k0 (by omega) (by omega) h2)
 obtain ⟨ns,e1,e2,e3⟩:=Qes _ g0;have h5:ns.length=81:=by rw[e2];simp;omega
 have V:∀j,j<86→∃c,l[j]?=some c:=λj hj=>⟨l[j]'(by omega),LE (by omega)⟩;obtain ⟨h6,hi⟩:=V 81 (by omega);obtain ⟨Y,hk⟩:=V 82 (by omega);obtain ⟨h7,hn⟩:=V 83 (by omega);obtain ⟨h8,ho⟩:=V 84 (by omega);obtain ⟨h9,hp⟩:=V 85 (by omega);have hq:l.drop 81=[h6,Y,h7,h8,h9]:=by
  apply List.ext_getElem?;intro i;rw[M2]
  match i with
  | 0=>exact hi
  | 1=>exact hk
  | 2=>exact hn
  | 3=>exact ho
  | 4=>exact hp
  | i+5=>rw[M1 (by omega)];rfl
 obtain ⟨ct,rfl,hA⟩:=UV (UB J U (i:=1) (f:=f1) Z k1 (by omega) (by omega) hi);obtain ⟨y0,rfl,hB⟩:=UV (UB J U (i:=3) (f:=f3) Z k3 (by omega) (by omega) hn);obtain ⟨y1,rfl,hC⟩:=UV (UB J U (i:=3) (f:=f3) Z k3 (by omega) (by omega) ho);obtain ⟨cl,rfl,hD⟩:=UV (UB J U (i:=4) (f:=I) Z k4 (by omega) (by omega) hp)
 have hE:=Qps hy 82 tp Y (by simpa using hk) (by rw[hz];exact h0);have hF:=Qoi (c:=Y) U 2 Z hr o2 c2 (by rw[←List.drop_drop (i:=1) (j:=81),hq];rfl) (by omega);obtain ⟨a,n,cp,rfl,hP⟩:=QoJ hs ht hv hE hF;refine ⟨⟨ns,ct,a,n,cp,y0,y1,cl⟩,?_,h5,e3,hA,hB,hC,hD,λh3=>hP (by have h4:n≤3:=h3;omega)⟩;show Value.agg l.toArray=.agg (bys ns++_).toArray
 rw[←e1,←hq,ML]
end
set_option maxRecDepth 100000 in
theorem QpV {H:Type}{enc:TypeId×Value→H}{W:World}{base b0:Nat}{sp:Nat→Bool}{held:Bool}{v:Value}{d:DataW H}{ps:List MemPlace}(E:Value.okWide prog W .any base 30 v) (h:DataW.Trod enc prog W b0 sp held 30 v d ps) :
  ∃l:LwV,v=.agg (Km l).toArray∧LwA W l :=
 Qg1 underlying30 (tp:=27) (by kernel_rfl) (by kernel_rfl) Z Z Z Z Z Z (by kernel_rfl) (by kernel_rfl) (by kernel_rfl) (by kernel_rfl) (by kernel_rfl) (by kernel_rfl) (by kernel_rfl) (by kernel_rfl) (by kernel_rfl) underlying27 (by kernel_rfl) (by kernel_rfl) E h
abbrev fcA (s:Int):QD:=⟨[s,s+1],2,[0],[(0,s,1),(1,s+1,0)]⟩
theorem QfT {w:World}{nm:ByteArray}{s:Int}(hs:0≤s∧s<100) :
  QG prog 69 [.string nm,.int .i64 s] w λr w'=>Step [] w w'∧∃va vm ve,r=.agg #[.string nm,va,.int .i64 2,vm,ve]∧ZP [va,vm,ve]∧∀L:LN,(∀b∈L,b<w.heap.size)→Zq L w'.heap va vm ve (fcA s):=by
 refine QG.of_W func69 Z ntmps69 results69 (by simp) ?_;refine Qc<|xl Z<|Qu (us:=[.string .empty,nS,.int .i64 0,nS,nS]) Z λb4 w1 Y hj ha=>xe ?_;refine Qc<|Qb<|Qb<|Qb<|QQ Z Z<|xl Z<|QH (us:=[[.int .i64 s],[.int .i64 (s+1)]]) Z Z (by decide) (by simp) ⟨rfl,rfl,rfl,rfl,La⟩ λH w2 U hk hc =>
  xl rfl<|QH (us:=[[.int .i64 0]]) Z Z (by decide) (by simp) ⟨rfl,rfl,La⟩ λb10 w3 I hl he=>Qb<|x (QN ⟨rfl,rfl,rfl,La⟩) <|
  Qb<|QQ rfl Z<|x (QN ⟨Z,Z,Z,La⟩)<|xl Z<|QH (us:=[QB (0,s,1),QB (1,s+1,0)]) Z Z (by decide) (show 2*3≤1000000 by omega) ⟨Z,Z,Z,Z,La⟩ λb16 w4 E hn hf =>
  x (QN ⟨rfl,Z,Z,Z,La⟩)<|x (ZF [(0,[.string nm]),(1,[.slice (some ⟨H,0,none⟩) 2 2,.int .i64 2,.slice (some ⟨b10,0,none⟩) 1 1,.slice (some ⟨b16,0,none⟩) 2 2])] ⟨Z,Z,Z,Z,La⟩)<|xl Z<|Qn (us:=[.string nm,.slice (some ⟨H,0,none⟩) 2 2,.int .i64 2,.slice (some ⟨b10,0,none⟩) 1 1,.slice (some ⟨b16,0,none⟩) 2 2]) (((ha.ext U).ext I).ext E) Z Z Z Z ⟨Z,Z,Z,Z,Z,La⟩ λV J hg =>
  xe ?_
 have ho:=Y.size;have hp:=U.size;have hq:=I.size;have hr:=E.size;have ht:=ha.lt;have hu:=hc.lt;have hv:=he.lt
 refine Ql ⟨[.agg [.string nm,.slice (some ⟨H,0,none⟩) 2 2,.int .i64 2,.slice (some ⟨b10,0,none⟩) 1 1,.slice (some ⟨b16,0,none⟩) 2 2].toArray],⟨⟨_,Z,Qw Z (hg.at (L:=[]) (by simp)).cells⟩,La⟩,(((Y.trans U).trans I).trans E).then1 J (by omega),_,_,_,rfl,⟨rfl,rfl,rfl,La⟩,λL hL=>?_⟩
 have k9:QT V.heap H 3 [.int .i64 s,.int .i64 (s+1)]:=(((hc.ext I).ext E)).step J (by simp only[List.mem_singleton];omega);have hh:QT V.heap b10 3 [.int .i64 0]:=((he.ext E)).step J (by simp only[List.mem_singleton];omega)
 have hi:QT V.heap b16 129 [.int .i64 0,.int .i64 s,.int .i64 1,.int .i64 1,.int .i64 (s+1),.int .i64 0]:=hf.step J (by simp only[List.mem_singleton];omega);have nL:∀{b:Nat},w.heap.size≤b→b∉L:=λhb hm=>by have:=hL _ hm;omega
 exact ⟨k9.arr (nL (by omega)) (n:=2) (cap:=2) (sz:=1) Z (by omega) (Lv _),hh.arr (nL (by omega)) (n:=1) (cap:=1) (sz:=1) Z (by omega) (Lv _),hi.arr (nL (by omega)) (n:=2) (cap:=2) (sz:=3) Z (by omega) (Lv _)⟩
abbrev fs1:ByteArray:=⟨#[111,110,101]⟩
abbrev fs2:ByteArray:=⟨#[116,119,111]⟩
abbrev fs3:ByteArray:=⟨#[98,117,102,102,101,114]⟩
abbrev fcE:List VD:=[⟨⟨#[97]⟩,true,false,false,0⟩,⟨⟨#[98]⟩,false,false,false,0⟩,⟨⟨#[99]⟩,true,false,false,0⟩,⟨⟨#[100]⟩,false,false,false,0⟩]
def J9:Q4:=⟨fcE,[⟨fs1,fcA 0⟩,⟨fs2,fcA 2⟩],[⟨fs3,fcA 1⟩],[],[]⟩
def fcP (N:Nat) (i:Nat) (v:Value) (w:World):Prop :=
 if i=4 then ∃b,v=.slice (some ⟨b,0,none⟩) 4 4∧N≤b∧QT w.heap b 89 (fcE.flatMap Zt)
 else if i=6 then ∃va vm ve,v=.agg #[.string fs1,va,.int .i64 2,vm,ve]∧ZP [va,vm,ve]∧∀L:LN,(∀b∈L,b<N)→Zq L w.heap va vm ve (fcA 0)
 else if i=8 then ∃va vm ve,v=.agg #[.string fs2,va,.int .i64 2,vm,ve]∧ZP [va,vm,ve]∧∀L:LN,(∀b∈L,b<N)→Zq L w.heap va vm ve (fcA 2)
 else if i=9 then VJ N w.heap v [⟨fs1,fcA 0⟩,⟨fs2,fcA 2⟩]
 else VJ N w.heap v [⟨fs3,fcA 1⟩]
theorem VJ.ext {N:Nat}{w w':World}{v:Value}{l:List Yo}(h:VJ N w.heap v l) (hs:Step [] w w'):VJ N w'.heap v l:=let ⟨qs,h1,h2⟩:=h;⟨qs,h1,λL E=>(h2 L E).ext hs⟩
theorem Ql5 {N:Nat}:∀i v w w',fcP N i v w→Step [] w w'→fcP N i v w':=by
 intro i v w w' h hs;unfold fcP at h ⊢;by_cases h4:i=4
 ·rw[if_pos h4] at h ⊢;obtain ⟨b,e,n,J⟩:=h;exact ⟨b,e,n,J.ext hs⟩
 rw[if_neg h4] at h ⊢;by_cases h6:i=6
 ·rw[if_pos h6] at h ⊢;obtain ⟨va,vm,ve,e,o,E⟩:=h;exact ⟨va,vm,ve,e,o,λL H=>(E L H).ext hs⟩
 rw[if_neg h6] at h ⊢;by_cases I:i=8
 ·rw[if_pos I] at h ⊢;obtain ⟨va,vm,ve,e,o,E⟩:=h;exact ⟨va,vm,ve,e,o,λL H=>(E L H).ext hs⟩
 rw[if_neg I] at h ⊢;by_cases h9:i=9
 ·rw[if_pos h9] at h ⊢;exact VJ.ext h hs
 rw[if_neg h9] at h ⊢;exact VJ.ext h hs
theorem VJ.one {N:Nat}{H:Array Obj}{v:Value}{l:List Yo}(h:VJ N H v l):v.oneCell'=true:=by
 obtain ⟨qs,_,h2⟩:=h;exact (h2 [] (by simp)).arr.one
set_option maxHeartbeats 4000000 in
theorem Kp (w:World):QG prog 29 [] w λr w'=>Step [] w w'∧QmV w.heap.size w'.heap r J9:=by
 refine QG.of_W func29 Z ntmps29 results29 (by simp) ?_;refine Qc<|xl Z<|Qu (us:=Xj) Z λY U hj h0 hk=>xe ?_;refine Qc<|Qf<|Qc<|xl Z<|QH (us:=[[.int .i64 1],[.int .i64 2]]) Z Z (by decide) (by simp) ⟨rfl,rfl,rfl,rfl,La⟩ λb3 w2 hn hT hp=>xl rfl<|QH (us:=[[.int .i64 0]]) rfl rfl (by decide) (by simp) ⟨rfl,rfl,La⟩ λb4 w3 hh hU hr =>
  x (QN ⟨rfl,Z,Z,La⟩)<|x (QN ⟨Z,Z,Z,La⟩)<|xl Z<|QH (us:=[QB (0,1,1),QB (1,2,0)]) Z Z (by decide) (show 2*3≤1000000 by omega) ⟨Z,Z,Z,Z,La⟩ λb7 w4 ha hV h3 =>
  x (QN ⟨rfl,Z,Z,Z,La⟩)<|xl Z<|Qu (us:=[nS,.int .i64 0,nS,nS]) Z λb2 w5 h5 h6 h7=>xl Z<|Qn (us:=[.slice (some ⟨b3,0,none⟩) 2 2,.int .i64 2,.slice (some ⟨b4,0,none⟩) 1 1,.slice (some ⟨b7,0,none⟩) 2 2]) h7 Z Z Z Z ⟨Z,Z,Z,Z,La⟩ λw6 h8 hD =>
  xe ?_
 have hW:=hj.size;have hX:=hn.size;have hY:=hh.size;have hZ:=ha.size;have hE:=hk.lt;have ga:=hp.lt;have gb:=hr.lt;have hf:Step [] w4 w6:=h5.then1 h8 h6;have hi:=((hn.trans hh).trans ha).trans hf;have hs:=hj.trans hi;have gc:=hs.size;have ge:=hi.size;have hF:=hk.ext hi;have k3:=((hp.ext hh).ext ha).ext hf;have k4:=(hr.ext ha).ext hf
 have k7:=h3.ext hf;have hG:∀{L:LN},(∀b∈L,b<U.heap.size)→Zq L w6.heap (.slice (some ⟨b3,0,none⟩) 2 2) (.slice (some ⟨b4,0,none⟩) 1 1) (.slice (some ⟨b7,0,none⟩) 2 2) (fcA 1):=λ{L} E=>by
  have nL:∀{b:Nat},U.heap.size≤b→b∉L:=λhb hm=>by have:=E _ hm;omega
  exact ⟨k3.arr (nL (by omega)) (n:=2) (cap:=2) (sz:=1) Z (by omega) (Lv _),k4.arr (nL (by omega)) (n:=1) (cap:=1) (sz:=1) Z (by omega) (Lv _),k7.arr (nL (by omega)) (n:=2) (cap:=2) (sz:=3) Z (by omega) (Lv _)⟩
 refine QZ (α:=CL) [(9,22)] (λz=>[]) (λz w'=>Step [] w w'∧QT w'.heap Y 37 z.cells∧z.cel=J9∧(∀L:LN,(∀b∈L,b<w.heap.size)→ZS L w'.heap z)) (by rfl) ?_ ?_
 ·refine Qkl (α:=Value×Value×Value) (Step [] w6) [(0,true),(1,true),(2,true),(3,true),(5,true),(7,true),(10,true),(11,true)] (λi=>if i=9 then [6,8] else []) [4,6,8,9,12] [(13,true),(14,false)] [(13,13),(15,15),(17,18),(21,21)] (fcP U.heap.size)
   (λz=>[(13,z.1),(18,z.2.1),(21,z.2.2)])
   (λz w'=>(∃b,z.1=.slice (some ⟨b,0,none⟩) 4 4∧U.heap.size≤b∧QT w'.heap b 89 (fcE.flatMap Zt))∧VJ U.heap.size w'.heap z.2.1 [⟨fs1,fcA 0⟩,⟨fs2,fcA 2⟩]∧VJ U.heap.size w'.heap z.2.2 [⟨fs3,fcA 1⟩])
   mixed (by rfl) (by kernel_rfl) (Step.drew _ _) (λ_ _ h1 h2=>h1.trans h2) Ql5 ?_ ?_
  ·rintro g w' ⟨h4,_,_,h9,V,_⟩ gg;exact ⟨(g 13,g 18,g 21),⟨Z,Z,Z,La⟩,h4,h9,V⟩
  refine p (λ_=>QN ⟨Z,Z,La⟩)<|p (λ_=>QN Lb)<|p (λ_=>QN ⟨Z,Z,La⟩)<|p (λ_=>QN Lb) <|
   p (λ_=>Qm)<|p (λ_=>Qm)<|pq (λ_ hc=>Qp (hD.ext hc) Z Z)<|p (λ_=>ZF [(0,[.string fs3]),(1,[.slice (some ⟨b3,0,none⟩) 2 2,.int .i64 2,.slice (some ⟨b4,0,none⟩) 1 1,.slice (some ⟨b7,0,none⟩) 2 2])] ⟨Z,Z,Z,Z,La⟩) <|
   pe ⟨⟨?_,?_,?_,?_,?_,La⟩,?_⟩
  ·intro g w' hc _;have hz:=hc.size;exact QH (us:=[Zt ⟨⟨#[97]⟩,true,false,false,0⟩,Zt ⟨⟨#[98]⟩,false,false,false,0⟩,Zt ⟨⟨#[99]⟩,true,false,false,0⟩,Zt ⟨⟨#[100]⟩,false,false,false,0⟩]) Z Z (by decide) (show 4*5≤1000000 by omega) ⟨Z,Z,Z,Z,Z,Z,Z,Z,La⟩ λb w7 H hb I=>⟨H,⟨b,Z,by omega,I⟩,λc J=>by rw[Lc.1 (show c∈[b] from J)];exact ⟨hb,I.lt⟩⟩
  ·intro g w' hc _;have hz:=hc.size;refine xc (first:=[]) (capt:=[]) Z<|(QfT (nm:=fs1) (s:=0) (by omega)).mono ?_;rintro r w7 ⟨H,va,vm,ve,rfl,ho,hA⟩;exact ⟨H,⟨va,vm,ve,Z,ho,λL E=>hA L (λb hb=>by have:=E b hb;omega)⟩,λc J=>by cases J⟩
  ·intro g w' hc _;have hz:=hc.size;refine xc (first:=[]) (capt:=[]) Z<|(QfT (nm:=fs2) (s:=2) (by omega)).mono ?_;rintro r w7 ⟨H,va,vm,ve,rfl,ho,hA⟩;exact ⟨H,⟨va,vm,ve,Z,ho,λL E=>hA L (λb hb=>by have:=E b hb;omega)⟩,λc J=>by cases J⟩
  ·rintro g w' hc ⟨⟨va,vm,ve,e6,o6,hH⟩,⟨va',vm',ve',e8,o8,hI⟩,_⟩;have hz:=hc.size;refine QH (us:=[Zm ⟨fs1,⟨va,vm,ve,fcA 0⟩⟩,Zm ⟨fs2,⟨va',vm',ve',fcA 2⟩⟩]) Z Z (by decide) (show 2*5≤1000000 by omega) ⟨congrArg Value.cells e6,Z,congrArg Value.cells e8,Z,La⟩ λb w7 H hb I=>⟨H,?_,λc J=>by rw[Lc.1 (show c∈[b] from J)];exact ⟨hb,I.lt⟩⟩
   refine ⟨[⟨fs1,⟨va,vm,ve,fcA 0⟩⟩,⟨fs2,⟨va',vm',ve',fcA 2⟩⟩],Z,λL E=>⟨I.arr (λhm=>by have:=E _ hm;omega) (n:=2) (cap:=2) (sz:=5) Z (by omega) (Lv _),λq hq=>?_,λq hq=>?_⟩⟩
   ·simp only[List.mem_cons,List.not_mem_nil,or_false] at hq;rcases hq with rfl | rfl
    ·exact (hH L E).ext H
    exact (hI L E).ext H
   simp only[List.mem_cons,List.not_mem_nil,or_false] at hq;rcases hq with rfl | rfl
   ·exact Jk (by decide)
   exact Jk (by decide)
  ·intro g w' hc _;have hz:=hc.size;refine QH (us:=[Zm ⟨fs3,⟨.slice (some ⟨b3,0,none⟩) 2 2,.slice (some ⟨b4,0,none⟩) 1 1,.slice (some ⟨b7,0,none⟩) 2 2,fcA 1⟩⟩]) Z Z (by decide) (show 1*5≤1000000 by omega) ⟨Z,Z,La⟩ λb w7 H hb I=>⟨H,?_,λc J=>by rw[Lc.1 (show c∈[b] from J)];exact ⟨hb,I.lt⟩⟩
   refine ⟨[⟨fs3,⟨.slice (some ⟨b3,0,none⟩) 2 2,.slice (some ⟨b4,0,none⟩) 1 1,.slice (some ⟨b7,0,none⟩) 2 2,fcA 1⟩⟩],Z,λL E=>⟨I.arr (λhm=>by have:=E _ hm;omega) (n:=1) (cap:=1) (sz:=5) Z (by omega) (Lv _),λq hq=>?_,λq hq=>?_⟩⟩
   ·simp only[List.mem_singleton] at hq;subst hq;exact ((hG E).ext hc).ext H
   simp only[List.mem_singleton] at hq;subst hq;exact Jk (by decide)
  rintro ⟨v1,v2,v3⟩ g w9 ht ⟨⟨b,e,n,I⟩,h9,V⟩;simp only[] at e h9 V;subst e;have hJ:=hF.ext ht;refine p (λ_=>ZF [(0,[.slice (some ⟨b,0,none⟩) 4 4]),(1,[v2]),(2,[v3])] ⟨Z,Z,Jj (VJ.one h9),Z,Jj (VJ.one V),Z,La⟩)<|pkl (hl:=by kernel_rfl)<|Qn (us:=[.slice (some ⟨b,0,none⟩) 4 4,v2,v3,nS,nS]) hJ Z Z Z Z ⟨Z,VJ.one h9,VJ.one V,Z,Z,La⟩ λhu hg hK=>pe ?_;obtain ⟨q9,e9,hM⟩:=h9
  obtain ⟨hv,hN,hO⟩:=V;refine ⟨⟨.slice (some ⟨b,0,none⟩) 4 4,v2,v3,nS,nS,fcE,q9,hv,[],[]⟩,La,(hs.trans ht).then1 hg h0,hK,?_,λL E=>?_⟩
  ·show Q4.mk fcE (q9.map IV.it) (hv.map IV.it) [] []=_;rw[e9,hN];rfl
  have hw:∀b'∈Y::L,b'<U.heap.size:=λb' hb'=>by
   rcases Lh.1 hb' with rfl | hb'
   ·exact hE
   have:=E b' hb';omega
  have m1:∀b'∈[Y],b'∈Y::L:=λb' hb'=>by simp only[List.mem_singleton] at hb';simp[hb']
  have hy:∀b'∈L,b'∈Y::L∨hu.heap.size≤b':=λb' hb'=>.inl (Lk _ hb');have hP:QT hu.heap b 89 (fcE.flatMap Zt):=I.step hg (by simp only[List.mem_singleton];omega)
  refine ⟨⟨hP.arr (λhm=>by have:=E _ hm;omega) (n:=4) (cap:=4) (sz:=5) Z (by omega) (Lv _),λe he=>?_⟩,((hM _ hw).st (hg.mono m1)).up hy,((hO _ hw).st (hg.mono m1)).up hy,⟨ZA.nil _ _ 2,λq hq=>(by cases hq),λq hq=>(by cases hq)⟩,⟨ZA.nil _ _ 3,λq hq=>(by cases hq),λq hq=>(by cases hq)⟩⟩;simp only[List.mem_cons,List.not_mem_nil,or_false] at he
  rcases he with rfl | rfl | rfl | rfl <;> exact Jk (by decide)
 rintro c g w9 ⟨hQ,hR,hS,hC⟩;refine Ql ⟨[_],⟨⟨_,Z,Qw Z (hR.at (L:=[]) (by simp)).cells⟩,La⟩,hQ,c,rfl,hS,hC⟩
theorem Qol:X2 J9=0:=by kernel_rfl
theorem Qom:(VI J9).ps=true:=by kernel_rfl
theorem Qon:(VI J9).nc=true:=by kernel_rfl
theorem Ql7:(VI J9).sts.length=1:=by kernel_rfl
theorem Ql6:decide (1<(VI J9).tg)=true:=by kernel_rfl
theorem Ql9:pmE J9 [0,1]=0:=by kernel_rfl
theorem Ql8:pmL J9 [0,1]=[2]:=by kernel_rfl
theorem Qmb:mrE J9 [0,1] 0=0:=by kernel_rfl
theorem Qma:mrL J9 [0,1] 0=[0]:=by kernel_rfl
theorem Qmd:cmE J9 false=0:=by kernel_rfl
theorem Qmc:(cmW (ZT J9) (Jp J9)).isNone=true:=by kernel_rfl
theorem Qjx {w:World}{c:CL}(hC:ZS [] w.heap c) (H:c.cel=J9) (I:Kb w 4096) :
  QG prog 10 [c.val] w λr w'=>Step [] w w'∧∃ev f1 f2 vw vs tg,r=.tuple #[.agg #[.bool true,.int .i64 ev,.int .i64 f1,.int .i64 f2,.bool true,vw,vs,.int .i64 tg],.int .i64 0]∧ZP [vw,vs]∧(∃s,QL [] w'.heap vs [s])∧1<tg:=by
 refine (QeL hC I).mono ?_;rintro r w' ⟨hs,us,rfl,_,Y,J⟩;rw[H,Qol] at *;obtain ⟨vw,vs,rfl,U,E⟩:=J Z;rw[Qom,Qon] at *;have hl:=Ql7;obtain ⟨s,V⟩:∃s,(VI J9).sts=[s]:=by
  match (VI J9).sts,hl with
  | [s],_=>exact ⟨s,Z⟩
 rw[V] at E;exact ⟨hs,_,_,_,vw,vs,_,Z,⟨QO U,QO E,La⟩,⟨s,Qs.ints E (by simp) (by simp)⟩,of_decide_eq_true Ql6⟩
theorem Qjv {w:World}{c:CL}{v:Value}(hC:ZS [] w.heap c) (E:c.cel=J9) (H:QL [] w.heap v [0,1]) (I:Kb w 4096) :
  QG prog 16 [c.val,v] w λr w'=>Step [] w w'∧∃v',r=.tuple #[v',.int .i64 0]∧QL [] w'.heap v' [2]:=by
 refine (QbA hC H I).mono ?_;rintro r w' ⟨hs,v',rfl,_,J⟩;rw[E,Ql9] at *;have h1:=J Z;rw[Ql8] at h1;exact ⟨hs,v',Z,Qs.ints h1 (by simp) (by simp)⟩
theorem Qju {w:World}{c:CL}{v:Value}(hC:ZS [] w.heap c) (E:c.cel=J9) (H:QL [] w.heap v [0,1]) (I:Kb w 4096) :
  QG prog 17 [c.val,v,.int .i64 0] w λr w'=>Step [] w w'∧∃v',r=.tuple #[v',.int .i64 0]∧QL [] w'.heap v' [0]:=by
 refine (Qa3 hC H 0 I).mono ?_;rintro r w' ⟨hs,v',rfl,_,J⟩;rw[E,Qmb] at *;have h1:=J Z;rw[Qma] at h1;exact ⟨hs,v',Z,Qs.ints h1 (by simp) (by simp)⟩
theorem Qjw {w:World}{c:CL}(hC:ZS [] w.heap c) (E:c.cel=J9) (H:Kb w 4096) :
  QG prog 11 [c.val,.bool false] w λr w'=>Step [] w w'∧∃v,r=.tuple #[v,.bool true,.int .i64 0]:=by
 refine (QeK hC H).mono ?_;rintro r w' ⟨hs,v,e,rfl,I⟩;rw[E,Qmd] at *;have h1:=I Z;rw[Qmc] at h1;subst h1;exact ⟨hs,v,Z⟩
abbrev rpF (ev f1 f2:Int) (vw vs:Value) (tg:Int):LV:=[.bool true,.int .i64 ev,.int .i64 f1,.int .i64 f2,.bool true,vw,vs,.int .i64 tg]
set_option maxHeartbeats 4000000 in
theorem zY {w:World}(E:Kb w 4096):QG prog 8 [] w λr w'=>r=.bool true∧Step [] w w':=by
 refine QG.of_W func8 Z ntmps8 results8 (by simp) ?_;refine Qc<|Qf<|Qc<|xl Z<|xf<|(Kp w).mono ?_;rintro r1 w1 ⟨ha,⟨c1,rfl,h1,h2⟩⟩;refine xl rfl<|xf<|(Qjx (h2 [] (by simp)) h1 (E.ext ha)).mono ?_;rintro r2 w2 ⟨h3,ev,f1,f2,vw,vs,tg,rfl,ho,⟨s,h4⟩,h5⟩
 refine Qb<|x (Qj Z Z)<|x (Qj Z Z)<|xl Z<|Qu (us:=rp0) Z λb1 w3 h6 h7 h8=>xl Z<|Qn (us:=rpF ev f1 f2 vw vs tg) h8 Z Z Z Z ⟨Z,Z,Z,Z,Z,ho.1,ho.2.1,Z,La⟩ λw4 h9 hA =>
  Qf ?_
 have hb:Step [] w2 w4:=h6.then1 h9 h7;have hc:=(ha.trans h3).trans hb;refine Qc<|xl Z<|xf<|(Kp w4).mono ?_;rintro r5 w5 ⟨he,⟨c5,rfl,hB,hC⟩⟩
 refine xl rfl<|QH (us:=[[.int .i64 0],[.int .i64 1]]) Z Z (by decide) (by simp) ⟨rfl,rfl,rfl,rfl,La⟩ λhW w6 J hX hD=>xl rfl<|xf<|(Qjv ((hC [] (by simp)).ext J) hB (hD.arr (by simp) (n:=2) (cap:=2) (sz:=1) rfl (by omega) (Lv _)) (((E.ext hc).ext he).ext J)).mono ?_;rintro r7 w7 ⟨hE,v3,rfl,hF⟩;refine Qb<|x (Qj Z Z)<|x (Qj Z Z)<|x Qe<|Qf ?_
 have hf:=(he.trans J).trans hE;have hg:=hc.trans hf;refine Qc<|xl Z<|xf<|(Kp w7).mono ?_;rintro r8 w8 ⟨hh,⟨c8,rfl,hG,hH⟩⟩
 refine xl rfl<|QH (us:=[[.int .i64 0],[.int .i64 1]]) Z Z (by decide) (by simp) ⟨rfl,rfl,rfl,rfl,La⟩ λhY w9 U hZ hI=>xl rfl<|xf<|(Qju ((hH [] (by simp)).ext U) hG (hI.arr (by simp) (n:=2) (cap:=2) (sz:=1) rfl (by omega) (Lv _)) (((E.ext hg).ext hh).ext U)).mono ?_;rintro ga hJ ⟨hK,v5,rfl,hL⟩;refine Qb<|x (Qj Z Z)<|x (Qj Z Z)<|x Qe<|Qf ?_
 have V:=(hh.trans U).trans hK;have hi:=hg.trans V;refine Qc<|xl Z<|xf<|(Kp hJ).mono ?_;rintro gb gc ⟨hj,⟨ge,rfl,hM,hN⟩⟩;refine xl rfl<|xf<|(Qjw (hN [] (by simp)) hM ((E.ext hi).ext hj)).mono ?_;rintro gg hk ⟨hO,v7,rfl⟩;refine Qb<|x (Qj Z Z)<|x (Qj Z Z)<|x (Qj Z Z)<|x Qe<|x Qe<|Qf ?_;have H:=hj.trans hO;have hP:=hi.trans H
 have hl:=(hf.trans V).trans H;have I:=hA.ext hl;have hQ:QL [] hk.heap vs [s]:=(h4.ext hb).ext hl;have hm:=(hF.ext V).ext H;have hn:=hL.ext H;refine QZ (α:=Unit) [(0,0),(33,88)] (λz=>[(0,.bool true)]) (λz w'=>Step [] hk w') (by rfl) ?_ ?_
 ·refine Qx<|Qb<|xb (Zr Z Z) (λhp=>?_) (λhp=>absurd Z hp);refine Qb<|x (Qa Z)<|x (Qd (u:=.bool true) I Z Z)<|x (Qo Z)<|Qb<|x (Qa Z)<|x (Qd (u:=.bool true) I Z Z)<|x (Qo Z)<|Qb<|x (Qa Z)<|x (Qd I Z Z)<|x (Qr hQ Z)<|xb (Zr Z Z) (λhq=>?_) (λhq=>absurd Z hq);refine x (Qo Z)<|Qb<|x (Qa Z)<|x (Qd I Z Z)<|xb (ZY Z Z) (λhr=>?_) (λhr=>absurd h5 hr)
  refine x (Qo Z)<|Qb<|Qb<|xb (Zr Z Z) (λhs=>?_) (λhs=>absurd Z hs);refine x (Qo Z)<|Qb<|Qb<|xl Z<|QH (us:=[[.int .i64 2]]) Z Z (by decide) (by simp) ⟨rfl,rfl,La⟩ λgh gi ht gj hR=>xl rfl<|xf<|(jp (hm.ext ht) (Qa6 (L:=[]) hR (by simp))).mono ?_;rintro gk gl ⟨rfl,hS⟩;have Y:=ht.trans hS
  refine x (Qo Z)<|Qb<|Qb<|x (Qr (hm.ext Y) Z)<|xb (Zr Z Z) (λhu=>?_) (λhu=>absurd Z hu);refine x (Qo Z)<|Qb<|Qb<|xb (Zr Z Z) (λhv=>?_) (λhv=>absurd Z hv);refine x (Qo Z)<|Qb<|Qb<|xl Z<|QH (us:=[[.int .i64 0]]) Z Z (by decide) (by simp) ⟨rfl,rfl,La⟩ λgm gn hw gq hT=>xl rfl<|xf<|(jp ((hn.ext Y).ext hw) (Qa6 (L:=[]) hT (by simp))).mono ?_;rintro gr gs ⟨rfl,hU⟩
  have hy:=(Y.trans hw).trans hU;refine x (Qo Z)<|Qb<|Qb<|x (Qr (hn.ext hy) Z)<|xb (Zr Z Z) (λhz=>?_) (λhz=>absurd Z hz);refine x (Qo Z)<|Qb<|Qb<|xb (Zr Z Z) (λh0=>?_) (λh0=>absurd Z h0);refine x (Qo Z)<|Qb<|Qb<|x (Qo Z)<|Qf ?_;exact ⟨(),Lb,hy⟩
 rintro z g gt hV;exact Ql ⟨[.bool true],Lb,Z,hP.trans hV⟩
set_option maxHeartbeats 4000000 in
theorem Qcw {w:World}{l:LwV}(hl:LwA w l) (Y:Kb w 4096) :
  QG prog 3 [.agg (Km l).toArray] w λr w'=>r=.bool true∧Step [] w w':=by
 have h5:=Qpy hl.n;refine QG.of_W func3 Z ntmps3 results3 (by simp) ?_;refine Qc<|xl Z<|QR (us:=Km l) Z λb1 w1 hi gg hj=>Qf<|Qg<|QZ (α:=Bool) [(12,19)] (λz=>[(19,.bool z)]) (λz w'=>Step [] w1 w'∧(z=false→l.n≤3)) (by rfl) ?_ ?_
 ·refine Qx<|xl Z<|xf<|(zY (Y.ext hi)).mono ?_;rintro r2 w2 ⟨rfl,H⟩;refine x (Zs Z)<|Qb<|x (Qa Z)<|x (Qd (hj.ext H) Z h5)<|x (Qie Z)<|x (ZY Z Z)<|x (Qo Z)<|xe<|⟨decide ((3:Int)<(l.n:Int)),Lb,H,λh=>?_⟩;have:=of_decide_eq_false h;omega
 rintro z g w2 ⟨H,hz⟩;have U:=hi.trans H;refine QW rfl (λhk=>?_) (λhk=>?_)
 ·refine Qc<|xl Z<|xf<|(zY (Y.ext U)).mono ?_;rintro r3 w3 ⟨rfl,ha⟩;refine Qf ?_;exact Ql ⟨[_],Lb,Z,U.trans ha⟩
 refine Qi<|Exists.elim (hl.ln U (hz hk)) λrs h6=>?_;refine Qc<|x (Qp (hj.ext H) Z (QiQ (l:=l.ln rs) hl.n))<|xl Z<|xf<|(Qd4 h6).mono ?_;rintro r3 w3 ⟨ha,_,⟨c,rfl,rfl,hC⟩,I⟩;have hm:=hC [] (by simp);refine xl rfl<|Qu (us:=Xj) Z λb3 w4 h7 h8 h9=>xl Z<|Qn (us:=c.cells) h9 Z Z Z Z hm.ones λw5 hA hc=>xe ?_;have hn:Step [] w3 w5:=h7.then1 hA h8
 have ho:=(U.trans ha).trans hn;have hf:=hm.ext hn;have hg:=Y.ext ho;have E:=I.tg;have hp:=I.su;have hB:=Qbs E;have hD:∃z,sync [ZT c.cel,Ve c.cel]=some z:=by
  obtain ⟨C,Q,h1,_⟩:=Qga (ZX E).2 (unc c.cel.ev);exact ⟨_,h1⟩
 have hE:=I.one hD;have hF:=I.two;have hG:(VI c.cel).ps=true:=by show (U0 c.cel).isNone=true;rw[I.noShd];rfl
 have hH:(VI c.cel).nc=decide ((Xo (ZT c.cel)).length=0):=rfl;have V:∀fg,cmE c.cel fg=0:=λfg=>by
  rw[QjV,if_neg (not_not_intro E),if_neg (not_not_intro hp)];refine zR ?_ (zl hp) (.inl Z);unfold own;split
  ·exact hB.2.2.1
  exact (ZX E).2
 refine Qc<|x (Qp hc Z Z)<|xl Z<|xf<|(qE hf hg).mono ?_;rintro r8 w8 ⟨hI,us,rfl,hJ,hK,hL,_⟩;obtain ⟨vw,vs,hq,_,_⟩:=hL E;rw[E];refine Qb<|x (Qj Z Z)<|x (Qj Z Z)<|xl Z<|Qu (us:=rp0) Z λb4 w9 hM hN hO=>xl Z<|Qn (us:=us) hO Z Z hJ Z hK λhP hQ hR =>
  Qf ?_
 have hS:Step [] w8 hP:=hM.then1 hQ hN;have J:=hI.trans hS;have hT:=ho.trans J;have q0:us[0]?=some (.bool true):=by rw[hq,←hG];rfl
 have q4:us[4]?=some (.bool (decide ((Xo (ZT c.cel)).length=0))):=by rw[hq,←hH];rfl
 refine Qg<|Qc<|Qb<|x (Q8 Z Z)<|xe<|Q3 rfl (λhr=>absurd Z hr) (λhr=>?_);refine Qi<|Qc<|x (Qp (hc.ext J) Z Z)<|xl Z<|xf<|(Vn true (hf.ext J) (hg.ext J)).mono ?_;rintro gh gi ⟨hs,gj,gk,rfl,_,hU⟩;obtain ⟨ht,_⟩:=hU (V true);rw[V true];have hV:cmW (own c.cel true) (Jp c.cel)=none:=hE;rw[hV] at ht;subst ht
 refine Qb<|x (Qj Z Z)<|x (Qj Z Z)<|x (Qj Z Z)<|x Qe<|x Qe<|Qf ?_;have hh:=J.trans hs;refine Qc<|x (Qp (hc.ext hh) Z Z)<|xl Z<|xf<|(Vn false (hf.ext hh) (hg.ext hh)).mono ?_;rintro gl hW ⟨hX,gm,hY,rfl,_,hZ⟩;obtain ⟨ga,_⟩:=hZ (V false);rw[V false];refine Qb<|x (Qj Z Z)<|x (Qj Z Z)<|x (Qj Z Z)<|x Qe<|x Qe<|Qf ?_;have hu:=hs.trans hX
 have hv:=hR.ext hu;have h2:decide ((Xo (ZT c.cel)).length=0)=true→hY=true:=λhb=>by
  have gb:cmW (own c.cel false) (Jp c.cel)=none:=hF (of_decide_eq_true hb);rw[ga,gb];rfl
 refine Zh (decide ((Xo (ZT c.cel)).length=0)) λnb gc=>?_;rw[gc] at q4 h2;refine QZ (α:=Unit) [(2,2),(44,64)] (λz=>[(2,.bool true)]) (λz w'=>w'=hW) (by rfl) ?_ ?_
 ·refine Qx<|x (Qa Z)<|xB (Qd hv Z q0) (λhw=>?_) (λhw=>(by cases hw));refine Qb<|Qb<|xb (Zr Z Z) (λhy=>?_) (λhy=>absurd Z hy);refine x (Qo Z)<|Qb<|xB Qm (λh0=>?_) (λh0=>(by cases h0));refine x (Qo Z)<|Qb<|Qb<|xb (Zr Z Z) (λh3=>?_) (λh3=>absurd Z h3);refine x (Qo Z)<|Qb<|x (Qa Z)<|x (Qd hv Z q4)<|xB (Zs Z) (λh4=>?_) (λh4=>?_)
  ·refine Qb<|xs Z<|x (Qo Z)<|x (Qo Z)<|Qf ?_;exact ⟨(),Lb,Z⟩
  have ge:nb=true:=by simpa using h4
  have he:=h2 ge;subst he;refine Qb<|Qb<|x (Qo Z)<|x (Qo Z)<|Qf ?_;exact ⟨(),Lb,Z⟩
 rintro ⟨⟩ g gn rfl;exact Ql ⟨[.bool true],Lb,Z,hT.trans hu⟩
theorem Xd {a b:Bool}(h1:a=true) (h2:b=true):(a && b)=true:=by rw[h1,h2];rfl
theorem Qba {P:Program} {f:FuncId} {fn:Func} {s:ChangeSpec} {c:OpenClaim} (h1:(c.wf (OpenSpec.ofChange s))=true) (h2:(laidOutB P)=true) (h3:(mapsRowed P)=true) (h4:(fn.params.all (P.readableRec ·))=true) (h5:(namedTie P c.named s.vars)=true) (h6:((c.stops == []))=true) (E:((P.stops == []))=true) (H:((c.knobs == []))=true) (h9:((P.stopKnobs == []))=true) (I:((c.inPlace == P.inPlace f))=true) (J:((c.unfollowed == P.unfollowed f))=true) (U:((c.recurses == P.recurses f))=true) (V:((c.named == P.varsNamed f))=true) (Y:((c.maps == (fn.params.toList++s.plain.varTypes P).any (P.mapsRec ·)))=true) (ha:((c.ifaces == (fn.params.toList++s.plain.varTypes P).any (P.ifacesRec ·)))=true) (hb:((c.mapsOut == P.mapsAmong fn.resultTypes.toList))=true) (hc:((c.loops == (fn.params.toList++s.plain.varTypes P).any (P.loopsFrom ·)))=true) (he:((c.wideKeys == (fn.params.toList++s.plain.varTypes P++fn.resultTypes.toList).any (P.wideKeysFrom ·)))=true) (hf:(s.vars.all (P.varReadable ·))=true) (hg:(fn.resultTypes.all (λt=>P.readableRec t && decide (t<P.types.size)))=true) (hh:((c.ifacesOut == fn.resultTypes.toList.any (P.ifacesRec ·)))=true) (hi:((c.loopsOut == fn.resultTypes.toList.any (P.loopsFrom ·)))=true) (hj:((c.plainKeys == P.plainKeys))=true) (hk:(c.shortTexts.isNone)=true) (hl:(P.stopsHeard)=true) (hm:(P.mayEnter)=true) (hn:((c.lifted == P.liftsFinal))=true) (ho:((P.make == some c.make))=true) (hp:((c.kinds == (if c.domain.isEmpty then [] else fn.params.toList.map λt=>match P.underlying t with | some (.int k)=>some k | _=>none)))=true) (hq:((c.pinned == c.pinnedBy))=true) (hr:((c.veiled == (fn.params.toList++s.plain.varTypes P++fn.resultTypes.toList).any (P.veiledRec ·)))=true) (hs:(c.veiledFits P fn.params.toList (fn.params.toList++s.plain.varTypes P++fn.resultTypes.toList))=true):joinedFacts P f fn s c=true:=by
 unfold joinedFacts;exact (Xd (Xd (Xd (Xd (Xd (Xd (Xd (Xd (Xd (Xd (Xd (Xd (Xd (Xd (Xd (Xd (Xd (Xd (Xd (Xd (Xd (Xd (Xd (Xd (Xd (Xd (Xd (Xd (Xd (Xd (Xd h1 h2) h3) h4) h5) h6) E) H) h9) I) J) U) V) Y) ha) hb) hc) he) hf) hg) hh) hi) hj) hk) hl) hm) hn) ho) hp) hq) hr) hs)
theorem zZ:laidOutB prog=true:=by kernel_rfl
theorem Qi2:mapsRowed prog=true:=by kernel_rfl
theorem Qi4:prog.stopsHeard=true:=by kernel_rfl
theorem Qi5:prog.mayEnter=true:=by kernel_rfl
theorem Qi3:(false == prog.liftsFinal)=true:=by kernel_rfl
theorem QlN:(prog.make == some Make.cut)=true:=by kernel_rfl
theorem QlR:(Rows.modularEqualRow.inPlace == prog.inPlace 3)=true:=by kernel_rfl
theorem QlQ:(Rows.modularEqualRow.unfollowed == prog.unfollowed 3)=true:=by kernel_rfl
theorem QlP:(Rows.modularEqualRow.recurses == prog.recurses 3)=true:=by kernel_rfl
theorem QlO:(Rows.modularEqualRow.named == prog.varsNamed 3)=true:=by kernel_rfl
theorem Qn0:Rows.modularEqualRow.wfByText (OpenSpec.ofChange Rows.modularEqualSpec)=true:=by kernel_rfl
theorem Qn3:Tryz.pinned.checked.prog.mainIs=some (true, "0087da35e19dff2b1c72cbf1a82bebf57530b191c9b8d180c93c2df9ec22b342".toList):=by kernel_rfl
theorem Qn2:prog.funcNamed "overseer/overseerlaw34.ModularEqual" = some 3:=by kernel_rfl
theorem Qn4:false=prog.looks []:=by kernel_rfl
theorem Qn1:([30].all λu=>!prog.wantsStandIn u)=true:=by kernel_rfl
theorem Qn5:false=Rows.modularEqualRow.goesBy Tryz.pinned.checked.prog:=by kernel_rfl
end Go.Proofs.YtjcgijbhaemldaaGreatDoor
